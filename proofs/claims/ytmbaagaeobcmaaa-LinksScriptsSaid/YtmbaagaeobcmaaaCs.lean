/- links.Send, Take, Double, Turn in one contract each; links.Cast: the walk. -/
import Derived.Test.YtmbaagaeobcmaaaTn
set_option linter.unusedVariables false
set_option linter.unusedSimpArgs false
namespace Go.Proofs.Ytmbaagaeobcmaaa.Cs
open Go.RowKit Go.Proofs.Ytmbaagaeobcmaaa.Nt Go.Proofs.Ytmbaagaeobcmaaa.Nc Go.Proofs.Ytmbaagaeobcmaaa.Sd Go.Proofs.Ytmbaagaeobcmaaa.Dl Go.Proofs.Ytmbaagaeobcmaaa.Tk Go.Proofs.Ytmbaagaeobcmaaa.Tn Go.Proofs.YtmbaagaeobcmaaaW.PrintWords Go.Proofs.YtmbaagaeobcmaaaW.PrintLast
abbrev Bags := Int → Int → List ByteArray
def sendR (s r : Int) (B : Bags) (f t : Int) (x : ByteArray) : Int × Bags := if sendOk s f t x = true then (if ((B f t).length : Int) = r then (5, B) else (0, upd B f t (B f t ++ [x]))) else (1, B)
theorem Send_calls {w0 W : World} {g : Nat} {s r : Int} {B : Bags} (h : Net w0 W g s r B) (f t : Int) (x : ByteArray) :
    Calls Try.prog 11 #[.pointer (some ⟨g, 0, none⟩), .int .i64 f, .int .i64 t, .string x] W fun e w' => e = .returned (.int .i64 (sendR s r B f t x).1) ∧ Net w0 w' g s r (sendR s r B f t x).2 := by
  unfold sendR
  cases hx : sendOk s f t x with
  | false =>
    refine (Send_arg h f t x hx).mono ?_
    rintro e w' ⟨rfl, hb⟩
    exact ⟨rfl, h.below hb⟩
  | true =>
    rw [if_pos rfl]
    by_cases hr : ((B f t).length : Int) = r
    · rw [if_pos hr]
      refine (Send_full h f t x hx hr).mono ?_
      rintro e w' ⟨rfl, hb⟩
      exact ⟨rfl, h.below hb⟩
    · rw [if_neg hr]
      obtain ⟨_, _, _, hN⟩ := h.ex
      have := hN.len f t
      exact Send_ok h f t x hx (by omega)
def takeR (s : Int) (B : Bags) (f t i : Int) : (ByteArray × Bool) × Bags := if hasB s f t i (B f t).length = true then (((B f t).getD i.toNat ByteArray.empty, true), upd B f t ((B f t).eraseIdx i.toNat)) else ((ByteArray.empty, false), B)
theorem Take_calls {w0 W : World} {g : Nat} {s r : Int} {B : Bags} (h : Net w0 W g s r B) (f t i : Int) :
    Calls Try.prog 15 #[.pointer (some ⟨g, 0, none⟩), .int .i64 f, .int .i64 t, .int .i64 i] W fun e w' => e = .returned (.tuple #[.string (takeR s B f t i).1.1, .bool (takeR s B f t i).1.2]) ∧ Net w0 w' g s r (takeR s B f t i).2 := by
  unfold takeR
  cases hh : hasB s f t i (B f t).length with
  | false =>
    refine (Take_no h f t i hh).mono ?_
    rintro e w' ⟨rfl, rfl⟩
    exact ⟨rfl, h⟩
  | true =>
    obtain ⟨hi, k, rfl, hk⟩ := hasB_spec hh
    rw [if_pos rfl, Int.toNat_natCast, List.getD_eq_getElem?_getD, List.getElem?_eq_getElem hk]
    exact Take_yes h f t k hi hk
def doubleR (s r : Int) (B : Bags) (f t i : Int) : Int × Bags := if isB s f t = true then (if hasB s f t i (B f t).length = true then sendR s r B f t ((B f t).getD i.toNat ByteArray.empty) else (6, B)) else (1, B)
theorem Double_calls {w0 W : World} {g : Nat} {s r : Int} {B : Bags} (h : Net w0 W g s r B) (f t i : Int) :
    Calls Try.prog 17 #[.pointer (some ⟨g, 0, none⟩), .int .i64 f, .int .i64 t, .int .i64 i] W fun e w' => e = .returned (.int .i64 (doubleR s r B f t i).1) ∧ Net w0 w' g s r (doubleR s r B f t i).2 := by
  unfold doubleR
  cases hi : isB s f t with
  | false =>
    refine (Double_arg h f t i hi).mono ?_
    rintro e w' ⟨rfl, rfl⟩
    exact ⟨rfl, h⟩
  | true =>
    rw [if_pos rfl]
    cases hh : hasB s f t i (B f t).length with
    | false =>
      refine (Double_none h f t i hi hh).mono ?_
      rintro e w' ⟨rfl, rfl⟩
      exact ⟨rfl, h⟩
    | true =>
      obtain ⟨_, k, rfl, hk⟩ := hasB_spec hh
      rw [if_pos rfl, Int.toNat_natCast, List.getD_eq_getElem?_getD, List.getElem?_eq_getElem hk]
      exact Double_yes h f t k hi hk _ (fun w' => Net w0 w' g s r (sendR s r B f t (B f t)[k]).2) (Send_calls h f t (B f t)[k])
def turnR (s : Int) (B : Bags) (f t i a b : Int) : Bool × Bags :=
  if hasB s f t i (B f t).length = true then (if 0 ≤ a ∧ a < ((B f t).getD i.toNat ByteArray.empty).size then (true, upd B f t ((B f t).set i.toNat (turned ((B f t).getD i.toNat ByteArray.empty) a.toNat b))) else (false, B)) else (false, B)
theorem Turn_calls {w0 W : World} {g : Nat} {s r : Int} {B : Bags} (h : Net w0 W g s r B) (f t i a b : Int) :
    Calls Try.prog 19 #[.pointer (some ⟨g, 0, none⟩), .int .i64 f, .int .i64 t, .int .i64 i, .int .i64 a, .int .u8 b] W fun e w' => e = .returned (.bool (turnR s B f t i a b).1) ∧ Net w0 w' g s r (turnR s B f t i a b).2 := by
  unfold turnR
  cases hh : hasB s f t i (B f t).length with
  | false =>
    refine (Turn_no h f t i a b hh).mono ?_
    rintro e w' ⟨rfl, rfl⟩
    exact ⟨rfl, h⟩
  | true =>
    obtain ⟨hi, k, rfl, hk⟩ := hasB_spec hh
    rw [if_pos rfl, Int.toNat_natCast, List.getD_eq_getElem?_getD, List.getElem?_eq_getElem hk, Option.getD_some]
    by_cases ha : 0 ≤ a ∧ a < (B f t)[k].size
    · rw [if_pos ha]
      obtain ⟨j, rfl⟩ : ∃ j : Nat, a = (j : Int) := ⟨a.toNat, by omega⟩
      rw [Int.toNat_natCast]
      exact Turn_yes h f t k j b hi hk (by omega)
    · rw [if_neg ha]
      refine (Turn_out h f t k a b hi hk (by omega)).mono ?_
      rintro e w' ⟨rfl, rfl⟩
      exact ⟨rfl, h⟩
def castR (s r : Int) (B : Bags) (f : Int) (x : ByteArray) : Nat → Nat × Bags
  | 0 => (0, B)
  | k + 1 => ((if (sendR s r (castR s r B f x k).2 f (k : Nat) x).1 = 0 then (castR s r B f x k).1 + 1 else (castR s r B f x k).1), (sendR s r (castR s r B f x k).2 f (k : Nat) x).2)
theorem castR_le (s r : Int) (B : Bags) (f : Int) (x : ByteArray) : ∀ k, (castR s r B f x k).1 ≤ k
  | 0 => Nat.le_refl _
  | k + 1 => by
    have := castR_le s r B f x k
    unfold castR
    simp only
    split <;> omega
theorem Cast_nil (f : Int) (x : ByteArray) (w : World) : Calls Try.prog 13 #[.pointer none, .int .i64 f, .string x] w fun e w' => e = .returned (.int .i64 0) ∧ w' = w := by
  go_enter Try.func13, Try.ntmps13
  go_wp2
  go_ret
  exact ⟨rfl, rfl⟩
set_option maxHeartbeats 1000000 in
theorem Cast_calls {w0 W : World} {g : Nat} {s r : Int} {B : Bags} (h : Net w0 W g s r B) (f : Int) (x : ByteArray) :
    Calls Try.prog 13 #[.pointer (some ⟨g, 0, none⟩), .int .i64 f, .string x] W fun e w' => e = .returned (.int .i64 ((castR s r B f x s.toNat).1 : Nat)) ∧ Net w0 w' g s r (castR s r B f x s.toNat).2 := by
  obtain ⟨n, rfl⟩ : ∃ n : Nat, s = (n : Int) := ⟨s.toNat, by have := h.s0; omega⟩
  have hn := h.s1
  have hc0 := h.c0
  have HN := Lib.hid h
  clear h
  go_enter Try.func13, Try.ntmps13
  go_wp2
  clear hc0
  go_loopw [7, 15] (fun v7 v15 wr => ∃ k : Nat, v15 = .int .i64 k ∧ k ≤ n ∧ v7 = .int .i64 ((castR n r B f x k).1 : Nat) ∧ Hid (Net w0 wr g n r (castR n r B f x k).2)) (fun _ v15 _ => n - (intOf v15).toNat)
  case atStart => exact ⟨0, rfl, Nat.zero_le _, rfl, HN⟩
  case round =>
    obtain ⟨k, rfl, hk, rfl, HR⟩ := hrel
    have hle := castR_le n r B f x k
    have HD : Hid (castR n r B f x (k + 1) = ((if (sendR n r (castR n r B f x k).2 f (k : Nat) x).1 = 0 then (castR n r B f x k).1 + 1 else (castR n r B f x k).1), (sendR n r (castR n r B f x k).2 f (k : Nat) x).2)) := Lib.hid rfl
    obtain ⟨⟨cc, BB⟩, hcb⟩ : ∃ cb, castR n r B f x k = cb := ⟨_, rfl⟩
    have HE := Lib.hid hcb
    simp only [hcb] at hle HD HR ⊢
    clear hcb
    by_cases hlt : k < n
    · have HS := Send_calls HR.out f (k : Nat) x
      generalize hse : sendR n r BB f (k : Nat) x = se at HS HD
      obtain ⟨e1, B1⟩ := se
      by_cases h0 : e1 = 0
      · subst h0
        clear hse
        go_wp2_with (go_at_call 11; with_reducible refine HS.mono ?_; rintro e w3 ⟨rfl, hN3⟩)
        go_roundw
        case rel => exact ⟨k + 1, by go_num, by omega, by rw [HD.out]; go_num, by rw [HD.out]; exact Lib.hid hN3⟩
        case measure => simp [intOf]; omega
      · have hb0 : (e1 == 0) = false := by simpa using h0
        have HH0 := Lib.hid h0
        clear h0 hse
        go_wp2_with (go_at_call 11; with_reducible refine HS.mono ?_; rintro e w3 ⟨rfl, hN3⟩)
        go_roundw
        case rel => exact ⟨k + 1, by go_num, by omega, by rw [HD.out]; simp [HH0.out], by rw [HD.out]; exact Lib.hid hN3⟩
        case measure => simp [intOf]; omega
    · obtain rfl : k = n := by omega
      go_wp2
      go_ret
      rw [Int.toNat_natCast, HE.out]
      exact ⟨rfl, HR.out⟩
end Go.Proofs.Ytmbaagaeobcmaaa.Cs

/- LinksApart: the walk. -/
import Derived.Test.YtmbaagaeobcmaaaLr
set_option linter.unusedVariables false
set_option linter.unusedSimpArgs false
namespace Go.Proofs.Ytmbaagaeobcmaaa.La
open Go.RowKit Go.Proofs.Ytmbaagaeobcmaaa.Nt Go.Proofs.Ytmbaagaeobcmaaa.Nc Go.Proofs.Ytmbaagaeobcmaaa.Sd Go.Proofs.Ytmbaagaeobcmaaa.Tn Go.Proofs.Ytmbaagaeobcmaaa.Cs Go.Proofs.Ytmbaagaeobcmaaa.Lv Go.Proofs.Ytmbaagaeobcmaaa.Lw Go.Proofs.YtmbaagaeobcmaaaW.PrintWords Go.Proofs.YtmbaagaeobcmaaaW.PrintLast
def two (f t : Int) (l m : List ByteArray) : Bags := upd (upd noBags f t l) t f m
section
variable {f t : Int}
theorem two_ft (h : f ≠ t) (l m : List ByteArray) : two f t l m f t = l := by
  unfold two
  rw [upd_other (by omega), upd_same]
theorem two_tf (l m : List ByteArray) : two f t l m t f = m := upd_same _ _ _ _
theorem two_1 (h : f ≠ t) (l m l' : List ByteArray) : upd (two f t l m) f t l' = two f t l' m := by
  funext a b
  unfold two upd
  by_cases h1 : a = f ∧ b = t
  · rw [if_pos h1, if_neg (by omega), if_pos h1]
  · by_cases h2 : a = t ∧ b = f
    · simp only [if_pos h2, if_neg h1]
    · simp only [if_neg h2, if_neg h1]
theorem two_2 (l m m' : List ByteArray) : upd (two f t l m) t f m' = two f t l m' := upd_upd _ _ _ _ _
theorem two_0 : two f t [] [] = noBags := by
  funext a b
  unfold two upd noBags
  by_cases h1 : a = f ∧ b = t
  · by_cases h2 : a = t ∧ b = f
    · simp only [if_pos h2]
    · simp only [if_neg h2, if_pos h1]
  · by_cases h2 : a = t ∧ b = f
    · simp only [if_pos h2]
    · simp only [if_neg h2, if_neg h1]
theorem isB5 (h : f ≠ t) (h0 : 0 ≤ f) (h1 : f ≤ 4) (h2 : 0 ≤ t) (h3 : t ≤ 4) : isB 5 f t = true := by
  unfold isB
  simp
  refine ⟨h, ?_, ?_⟩ <;> omega
theorem send_to {B : Bags} {x : ByteArray} (hi : isB 5 f t = true) (hl : (B f t).length < 1000) (hx : x.size ≤ 5000) : sendR 5 1000 B f t x = (0, upd B f t (B f t ++ [x])) := by
  unfold sendR sendOk
  rw [decide_eq_true hx, hi, if_pos (by rfl), if_neg (by omega)]
variable {w W : World} {g : Nat} {l m : List ByteArray}
theorem a1 (h : f ≠ t) (hi : isB 5 f t = true) (hN : Net w W g 5 1000 (two f t l m)) (x : ByteArray) (hl : l.length < 1000) (hx : x.size ≤ 5000) :
    Calls Try.prog 11 #[.pointer (some ⟨g, 0, none⟩), .int .i64 f, .int .i64 t, .string x] W fun e w' => e = .returned (.int .i64 0) ∧ Net w w' g 5 1000 (two f t (l ++ [x]) m) := by
  have h1 := Send_calls hN f t x
  rw [send_to hi (by rw [two_ft h]; exact hl) hx, two_ft h, two_1 h] at h1
  exact h1
theorem a2 (hi : isB 5 t f = true) (hN : Net w W g 5 1000 (two f t l m)) (x : ByteArray) (hl : m.length < 1000) (hx : x.size ≤ 5000) :
    Calls Try.prog 11 #[.pointer (some ⟨g, 0, none⟩), .int .i64 t, .int .i64 f, .string x] W fun e w' => e = .returned (.int .i64 0) ∧ Net w w' g 5 1000 (two f t l (m ++ [x])) := by
  have h1 := Send_calls hN t f x
  rw [send_to hi (by rw [two_tf]; exact hl) hx, two_tf, two_2] at h1
  exact h1
theorem a3 (h : f ≠ t) (hi : isB 5 f t = true) {x : ByteArray} (hN : Net w W g 5 1000 (two f t (x :: l) m)) :
    Calls Try.prog 15 #[.pointer (some ⟨g, 0, none⟩), .int .i64 f, .int .i64 t, .int .i64 0] W fun e w' => e = .returned (.tuple #[.string x, .bool true]) ∧ Net w w' g 5 1000 (two f t l m) := by
  have h1 := Take_calls hN f t 0
  have hh : hasB 5 f t 0 (x :: l).length = true := by unfold hasB; rw [hi]; simp
  unfold takeR at h1
  rw [two_ft h, if_pos hh, two_1 h] at h1
  exact h1
theorem a4 (h : f ≠ t) (h0 : 0 ≤ f) (h1 : f ≤ 4) (h2 : 0 ≤ t) (h3 : t ≤ 4) (hN : Net w W g 5 1000 (two f t l m)) :
    Calls Try.prog 21 #[.pointer (some ⟨g, 0, none⟩), .int .i64 f, .int .i64 t] W fun e w' => e = .returned (.int .i64 (l.length : Nat)) ∧ w' = W := by
  have h1 := Len_calls hN f t (wf_of h0 (by omega)) (wf_of h2 (by omega))
  rw [two_ft h] at h1
  exact h1
theorem a5 (h0 : 0 ≤ f) (h1 : f ≤ 4) (h2 : 0 ≤ t) (h3 : t ≤ 4) (hN : Net w W g 5 1000 (two f t l m)) :
    Calls Try.prog 21 #[.pointer (some ⟨g, 0, none⟩), .int .i64 t, .int .i64 f] W fun e w' => e = .returned (.int .i64 (m.length : Nat)) ∧ w' = W := by
  have h1 := Len_calls hN t f (wf_of h2 (by omega)) (wf_of h0 (by omega))
  rw [two_tf] at h1
  exact h1
end
theorem early (A : Option Addr) (n c : Nat) (f t : Int)
    (h : decide ((60 : Int) < n) = true ∨ decide ((60 : Int) < n) = false ∧ decide (f < 0) = true ∨ decide ((60 : Int) < n) = false ∧ decide (f < 0) = false ∧ decide (4 < f) = true
      ∨ decide ((60 : Int) < n) = false ∧ decide (f < 0) = false ∧ decide (4 < f) = false ∧ decide (t < 0) = true
      ∨ decide ((60 : Int) < n) = false ∧ decide (f < 0) = false ∧ decide (4 < f) = false ∧ decide (t < 0) = false ∧ decide (4 < t) = true
      ∨ decide ((60 : Int) < n) = false ∧ decide (f < 0) = false ∧ decide (4 < f) = false ∧ decide (t < 0) = false ∧ decide (4 < t) = false ∧ (f == t) = true) (w : World) :
    Calls Try.prog 5 #[.slice A n c, .int .i64 f, .int .i64 t] w fun e w' => e = .returned (.bool true) ∧ Below w.heap.size w w' := by
  rcases h with h | ⟨h, h2⟩ | ⟨h, h2, h3⟩ | ⟨h, h2, h3, h4⟩ | ⟨h, h2, h3, h4, h5⟩ | ⟨h, h2, h3, h4, h5, h6⟩
  all_goals
    go_enter Try.func5, Try.ntmps5
    go_wp2_with (go_at_call 10; with_reducible refine (live_calls _).mono ?_; rintro e w1 ⟨rfl, hB⟩)
    go_ret
    exact ⟨rfl, hB⟩
def X (s : ByteArray) : ByteArray := ⟨#[120]⟩ ++ s
set_option maxHeartbeats 2000000 in
theorem apart_ok (A : Option Addr) (c : Nat) (xs : List ByteArray) (f t : Int) (w : World) (hC : Kd.C Kd.string w A xs.length xs) (hft : f ≠ t) (h0 : 0 ≤ f) (h1 : f ≤ 4) (h2 : 0 ≤ t) (h3 : t ≤ 4) (hn : xs.length ≤ 60) :
    Calls Try.prog 5 #[.slice A xs.length c, .int .i64 f, .int .i64 t] w fun e w' => e = .returned (.bool true) ∧ Below w.heap.size w w' := by
  have d0 : decide ((60 : Int) < (xs.length : Nat)) = false := decide_eq_false (by omega)
  have d1 : decide (f < 0) = false := decide_eq_false (by omega)
  have d2 : decide (4 < f) = false := decide_eq_false (by omega)
  have d3 : decide (t < 0) = false := decide_eq_false (by omega)
  have d4 : decide (4 < t) = false := decide_eq_false (by omega)
  have d5 : (f == t) = false := by simpa using hft
  have HI := Lib.hid (isB5 hft h0 h1 h2 h3)
  have HI2 := Lib.hid (isB5 (Ne.symm hft) h2 h3 h0 h1)
  have H := Lib.hid (And.intro h0 (And.intro h1 (And.intro h2 h3)))
  have HF := Lib.hid hft
  have HC := Lib.hid hC
  have HN := Lib.hid hn
  clear h0 h1 h2 h3 hft hC
  go_enter Try.func5, Try.ntmps5
  go_upto_region 6 with (go_at_call 8; with_reducible refine (New_ok 5 1000 rfl _).mono ?_; rintro e w1 ⟨g, rfl, h0⟩)
  rw [← two_0 (f := f) (t := t)] at h0
  have h : Hid (Net w w1 g 5 1000 (two f t (xs.take 0) ((xs.take 0).map X))) := Lib.hid h0
  clear h0 d0 d1 d2 d3 d4 d5
  go_wp2
  go_loopw [9] (fun v9 wr => ∃ k : Nat, v9 = .int .i64 k ∧ k ≤ xs.length ∧ Hid (Net w wr g 5 1000 (two f t (xs.take k) ((xs.take k).map X)))) (fun v9 _ => xs.length - (intOf v9).toNat)
  case atStart => exact ⟨0, rfl, Nat.zero_le _, h⟩
  case round =>
    clear h
    obtain ⟨k, rfl, hk, HR⟩ := hrel
    by_cases hlt : k < xs.length
    · obtain ⟨ad, rfl, c0⟩ := Kd.at_string HC.out (k : Int) (by omega) (by omega)
      have HT : Hid (xs.take (k + 1) = xs.take k ++ [rdOf ByteArray.empty xs (k : Int)]) := Lib.hid (by rw [List.take_succ_eq_append_getElem hlt]; simp [rdOf, hlt])
      have d0 := pw_cell_below HR.out.bl c0
      rw [Int.toNat_natCast] at c0 d0
      have hC0 := Lib.hid c0
      clear c0
      generalize rdOf ByteArray.empty xs (k : Int) = y at hC0 d0 HT
      by_cases hy : y.size ≤ 300
      · have e0 : decide ((300 : Int) < (y.size : Nat)) = false := decide_eq_false (by omega)
        have hl1 : (xs.take k).length < 1000 := by rw [List.length_take]; omega
        have hl2 : ((xs.take k).map X).length < 1000 := by rw [List.length_map]; exact hl1
        have hy2 : ¬ 9223372036854775807 < 1 + y.size := by omega
        have HL := Lib.hid (And.intro hl1 hl2)
        have HY := Lib.hid hy
        have HX : Hid ((X y).size ≤ 5000) := Lib.hid (by unfold X; rw [ByteArray.size_append]; show 1 + y.size ≤ 5000; omega)
        clear hl1 hl2 hy
        go_wp2_with (first
          | (go_at_call 11; with_reducible refine (a1 HF.out HI.out HR.out y HL.out.1 (by have := HY.out; omega)).mono ?_; rintro e w3 ⟨rfl, hN3⟩; have d3 := pw_cell_below hN3.bl hC0.out)
          | (go_at_call 11; refine (a2 HI2.out hN3 (X y) HL.out.2 HX.out).mono ?_; rintro e w4 ⟨rfl, hN4⟩))
        go_roundw
        case rel => exact ⟨k + 1, by go_num, by omega, by rw [HT.out, List.map_append]; exact Lib.hid hN4⟩
        case measure => simp [intOf]; omega
      · have e0 : decide ((300 : Int) < (y.size : Nat)) = true := decide_eq_true (by omega)
        go_wp2_with (go_at_call 10; with_reducible refine (live_calls _).mono ?_; rintro e w1 ⟨rfl, hB⟩)
        go_ret
        exact ⟨rfl, below_then HR.out.bl HR.out.bl.size hB⟩
    · obtain rfl : k = xs.length := by omega
      have HR2 : Hid (Net w wr g 5 1000 (two f t (xs.drop 0) (xs.map X))) := Lib.hid (by have := HR.out; rw [List.take_length] at this; exact this)
      clear HR
      go_wp2
      go_loopw [10] (fun v10 wr => ∃ k : Nat, v10 = .int .i64 k ∧ k ≤ xs.length ∧ Hid (Net w wr g 5 1000 (two f t (xs.drop k) (xs.map X)))) (fun v10 _ => xs.length - (intOf v10).toNat)
      case atStart => exact ⟨0, rfl, Nat.zero_le _, HR2⟩
      case round =>
        clear HR2
        obtain ⟨k, rfl, hk, HR⟩ := hrel
        by_cases hlt : k < xs.length
        · obtain ⟨ad, rfl, c0⟩ := Kd.at_string HC.out (k : Int) (by omega) (by omega)
          have HT : Hid (xs.drop k = rdOf ByteArray.empty xs (k : Int) :: xs.drop (k + 1)) := Lib.hid (by rw [List.drop_eq_getElem_cons hlt]; simp [rdOf, hlt])
          rw [Int.toNat_natCast] at c0
          have hC0 := Lib.hid c0
          clear c0
          generalize rdOf ByteArray.empty xs (k : Int) = y at hC0 HT
          rw [HT.out] at HR
          go_wp2_with (go_at_call 15; with_reducible refine (a3 HF.out HI.out HR.out).mono ?_; rintro e w3 ⟨rfl, hN3⟩; have d3 := pw_cell_below hN3.bl hC0.out)
          go_roundw
          case rel => exact ⟨k + 1, by go_num, by omega, Lib.hid hN3⟩
          case measure => simp [intOf]; omega
        · obtain rfl : k = xs.length := by omega
          rw [List.drop_length] at HR
          go_wp2_with (first
            | (go_at_call 21; with_reducible refine (a4 HF.out H.out.1 H.out.2.1 H.out.2.2.1 H.out.2.2.2 HR.out).mono ?_; rintro e w3 ⟨rfl, hw⟩; subst hw)
            | (go_at_call 21; with_reducible refine (a5 H.out.1 H.out.2.1 H.out.2.2.1 H.out.2.2.2 HR.out).mono ?_; rintro e w3 ⟨rfl, hw⟩; subst hw; rw [List.length_map])
            | (go_at_call 10; with_reducible refine (live_calls _).mono ?_; rintro e w1 ⟨rfl, hB⟩))
          go_ret
          exact ⟨rfl, below_then HR.out.bl HR.out.bl.size hB⟩
theorem apart_law (A : Option Addr) (c : Nat) (xs : List ByteArray) (f t : Int) (w : World) (hC : Kd.C Kd.string w A xs.length xs) :
    Calls Try.prog 5 #[.slice A xs.length c, .int .i64 f, .int .i64 t] w fun e w' => e = .returned (.bool true) ∧ Below w.heap.size w w' := by
  by_cases g0 : (60 : Int) < (xs.length : Nat)
  · exact early A _ c f t (.inl (decide_eq_true g0)) w
  by_cases g1 : f < 0
  · exact early A _ c f t (.inr (.inl ⟨decide_eq_false g0, decide_eq_true g1⟩)) w
  by_cases g2 : 4 < f
  · exact early A _ c f t (.inr (.inr (.inl ⟨decide_eq_false g0, decide_eq_false g1, decide_eq_true g2⟩))) w
  by_cases g3 : t < 0
  · exact early A _ c f t (.inr (.inr (.inr (.inl ⟨decide_eq_false g0, decide_eq_false g1, decide_eq_false g2, decide_eq_true g3⟩)))) w
  by_cases g4 : 4 < t
  · exact early A _ c f t (.inr (.inr (.inr (.inr (.inl ⟨decide_eq_false g0, decide_eq_false g1, decide_eq_false g2, decide_eq_false g3, decide_eq_true g4⟩))))) w
  by_cases g5 : f = t
  · exact early A _ c f t (.inr (.inr (.inr (.inr (.inr ⟨decide_eq_false g0, decide_eq_false g1, decide_eq_false g2, decide_eq_false g3, decide_eq_false g4, by simpa using g5⟩))))) w
  exact apart_ok A c xs f t w hC g5 (by omega) (by omega) (by omega) (by omega) (by omega)
end Go.Proofs.Ytmbaagaeobcmaaa.La

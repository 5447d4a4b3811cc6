/- The width of the next rune that is laid. -/
import Derived.Test.YtoidlaonolkgkaaDoorGl
set_option linter.unusedVariables false
set_option linter.unusedSimpArgs false
namespace Go.Proofs.YtoidlaonolkgkaaDoor.Gn
open Go.RowKit Go.Proofs.YtoidlaonolkgkaaDoor.Giv Go.Proofs.YtoidlaonolkgkaaDoor.Gr Go.Proofs.YtoidlaonolkgkaaDoor.Gl Go.Proofs.YtoidlaonolkgkaaDoorW.PrintWords Go.Proofs.YtoidlaonolkgkaaDoorW.PrintLast
/-- The width of the first of some that is laid; at their end 1. -/
def nextW : List Int → Int
  | [] => 1
  | x :: l => if 0 < widthN x then widthN x else nextW l
theorem nextW_range (l : List Int) : 1 ≤ nextW l ∧ nextW l ≤ 2 := by
  induction l with
  | nil => unfold nextW; omega
  | cons x l ih =>
    unfold nextW
    have := width_le x
    split <;> omega
theorem nextW_skip (l : List Int) : ∀ k, (∀ x ∈ l.take k, ¬ 0 < widthN x) → nextW l = nextW (l.drop k) := by
  induction l with
  | nil => intro k _; simp
  | cons x l ih =>
    intro k h
    cases k with
    | zero => rfl
    | succ k =>
      rw [List.drop_succ_cons, ← ih k (fun y hy => h y (by rw [List.take_succ_cons]; exact List.mem_cons_of_mem _ hy))]
      have := h x (by rw [List.take_succ_cons]; exact List.mem_cons_self ..)
      conv => lhs; unfold nextW
      rw [if_neg this]
def zeroW (l : List Int) : Prop := ∀ x ∈ l, ¬ 0 < widthN x
def atW (xs : List Int) (k : Nat) : Int := xs.getD k 0
theorem clo_calls (n : Int) (w : World) (hL : Laid w) : Calls Tryd.prog 41 #[.int .i64 n] w fun e w' => e = .returned (.bool (decide (0 < widthN n))) ∧ Below w.heap.size w w' := by
  have hW := width_calls n w hL
  clear hL
  generalize widthN n = x at *
  go_enter Tryd.func41, Tryd.ntmps41
  go_wp2_with (go_at_call 38; refine hW.mono ?_; rintro e w2 ⟨rfl, hB2⟩)
  go_ret
  exact ⟨rfl, hB2⟩
set_option maxHeartbeats 4000000 in
set_option maxRecDepth 100000 in
/-- The place of the first that is laid, or -1. -/
theorem index_calls (A : Option Addr) (c : Nat) (xs : List Int) (w : World) (hL : Laid w) (hC : Kd.C (Kd.int .i64) w A xs.length xs) (hl : xs.length ≤ 1000000) :
    Calls Tryd.prog 40 #[.slice A xs.length c, .func (.func 41) #[] #[]] w fun e w' => Below w.heap.size w w' ∧
      ((e = .returned (.int .i64 (-1)) ∧ zeroW xs) ∨ ∃ k : Nat, e = .returned (.int .i64 (k : Int)) ∧ k < xs.length ∧ zeroW (xs.take k) ∧ 0 < widthN (atW xs k)) := by
  have HL := Lib.hid hL
  have HC := Lib.hid hC
  clear hL hC
  go_enter Tryd.func40, Tryd.ntmps40
  go_upto_region 2 with fail
  go_loopw [8] (fun v8 wr => ∃ k : Nat, v8 = .int .i64 k ∧ k ≤ xs.length ∧ Hid (zeroW (xs.take k)) ∧ Hid (Below w.heap.size w wr)) (fun v8 _ => xs.length - (intOf v8).toNat)
  case atStart => exact ⟨0, rfl, Nat.zero_le _, Lib.hid (fun x hx => by simp at hx), Lib.hid (Below.refl _ _)⟩
  case round =>
    obtain ⟨k, rfl, hk, HN, HB⟩ := hrel
    by_cases hlt : k < xs.length
    · obtain ⟨ad, rfl, cw⟩ := Kd.at_int (Kd.C_below HC.out HB.out) (k : Int) (by omega) (by omega)
      have hrd : rd xs (k : Int) = xs[k] := by unfold rd; rw [Int.toNat_natCast, List.getD_eq_getElem?_getD, List.getElem?_eq_getElem hlt]; rfl
      rw [hrd, Int.toNat_natCast] at cw
      have HT : Hid (xs.take (k + 1) = xs.take k ++ [xs[k]] ∧ atW xs k = xs[k]) := Lib.hid ⟨List.take_succ_eq_append_getElem hlt, by unfold atW; rw [List.getD_eq_getElem?_getD, List.getElem?_eq_getElem hlt]; rfl⟩
      clear hrd
      generalize xs[k] = n at cw HT
      have hCl := fun W h => clo_calls n W h
      by_cases hp : 0 < widthN n
      · have e1 : decide (0 < widthN n) = true := decide_eq_true hp
        have HPo := Lib.hid hp
        simp only [e1] at hCl
        clear hp e1
        go_wp2_with (go_at_call 41; go_loud (refine (hCl _ (HL.out.below HB.out)).mono ?_; rintro e w5 ⟨rfl, hB5⟩))
        go_ret
        exact ⟨below_then' HB.out hB5, .inr ⟨k, rfl, hlt, HN.out, by rw [HT.out.2]; exact HPo.out⟩⟩
      · have e1 : decide (0 < widthN n) = false := decide_eq_false hp
        have HN2 : Hid (zeroW (xs.take (k + 1))) := Lib.hid (by
          rw [HT.out.1]
          intro x hx
          rcases List.mem_append.1 hx with hx | hx
          · exact HN.out x hx
          · rw [List.mem_singleton.1 hx]; exact hp)
        simp only [e1] at hCl
        clear hp e1
        go_wp2_with (go_at_call 41; go_loud (refine (hCl _ (HL.out.below HB.out)).mono ?_; rintro e w5 ⟨rfl, hB5⟩; have HB5 := Lib.hid (below_then' HB.out hB5); clear hB5))
        go_roundw
        case rel => exact ⟨k + 1, by go_num, by omega, HN2, HB5⟩
        case measure => simp [intOf]; omega
    · obtain rfl : k = xs.length := by omega
      go_wp2
      go_ret
      exact ⟨HB.out, .inl ⟨rfl, by have := HN.out; rw [List.take_length] at this; exact this⟩⟩
theorem below_then {w w1 w2 : World} (h : Below w.heap.size w w1) (k : Below w1.heap.size w1 w2) : Below w.heap.size w w2 := below_then' h k
set_option maxHeartbeats 4000000 in
set_option maxRecDepth 100000 in
theorem next_calls (A : Option Addr) (c : Nat) (xs : List Int) (w : World) (hL : Laid w) (hC : Kd.C (Kd.int .i64) w A xs.length xs) (hl : xs.length ≤ 1000000) :
    Calls Tryd.prog 25 #[.slice A xs.length c] w fun e w' => e = .returned (.int .i64 (nextW xs)) ∧ Below w.heap.size w w' := by
  have hI := index_calls A c xs w hL hC hl
  have HL := Lib.hid hL
  have HC := Lib.hid hC
  clear hL hC
  go_enter Tryd.func25, Tryd.ntmps25
  go_upto_region 2 with (go_at_call 40; go_loud (refine hI.mono ?_; rintro e w2 ⟨hB2, hr⟩; rcases hr with ⟨rfl, h1⟩ | ⟨k, rfl, h, h2, h3⟩))
  · have hz : nextW xs = 1 := by
      have := nextW_skip xs xs.length (by rw [List.take_length]; exact h1)
      rw [this, List.drop_length]; rfl
    have HZ := Lib.hid hz
    clear hz h1
    go_wp2
    go_ret
    rw [HZ.out]
    exact ⟨rfl, hB2⟩
  · obtain ⟨ad, rfl, cw⟩ := Kd.at_int (Kd.C_below HC.out hB2) (k : Int) (by omega) (by omega)
    have hrd : rd xs (k : Int) = atW xs k := by unfold rd atW; rw [Int.toNat_natCast]
    rw [hrd, Int.toNat_natCast] at cw
    have hz : nextW xs = widthN (atW xs k) := by
      rw [nextW_skip xs k h2, List.drop_eq_getElem_cons h]
      have e : xs[k] = atW xs k := by unfold atW; rw [List.getD_eq_getElem?_getD, List.getElem?_eq_getElem h]; rfl
      unfold nextW
      rw [e, if_pos h3]
    have hW := width_calls (atW xs k) w2 (HL.out.below hB2)
    have HZ := Lib.hid hz
    clear hz h2 h3 hrd hI
    go_wp2_with (go_at_call 38; go_loud (refine hW.mono ?_; rintro e w3 ⟨rfl, hB3⟩))
    go_ret
    rw [HZ.out]
    exact ⟨rfl, below_then' hB2 hB3⟩
end Go.Proofs.YtoidlaonolkgkaaDoor.Gn

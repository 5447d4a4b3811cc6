/- cmp.Or and ident.order, as the sort calls it. -/
import Derived.Test.YtoaaekgpabnneaaPx0
import Derived.Deep.LoopGhost
import Derived.StillTailTactics
import Derived.Sort.Grow
set_option linter.unusedVariables false
namespace Go.Proofs.Ytoaaekgpabnneaa.Cmp
open Go.RowKit Go.Proofs.Ytoaaekgpabnneaa.P Go.Proofs.YtoaaekgpabnneaaW.PrintWords
def cmp3 (x y : Int) : Int := if x < y then -1 else if y < x then 1 else 0
theorem isNaN_calls (x : Int) (w : World) : Calls Try.prog 37 #[.int .i64 x] w fun e w' => e = .returned (.bool false) ∧ w' = w := by
  go_enter Try.func37, Try.ntmps37
  go_wp2
  go_ret
  exact ⟨by simp, rfl⟩
theorem Compare_calls (x y : Int) (w : World) : Calls Try.prog 34 #[.int .i64 x, .int .i64 y] w fun e w' => e = .returned (.int .i64 (cmp3 x y)) ∧ w' = w := by
  unfold cmp3
  go_enter Try.func34, Try.ntmps34
  by_cases h1 : x < y
  · have d1 : decide (x < y) = true := decide_eq_true h1
    go_wp2_with (go_at_call 37; refine (isNaN_calls _ _).mono ?_; rintro e w1 ⟨rfl, rfl⟩)
    go_ret
    exact ⟨rfl, rfl⟩
  · have d1 : decide (x < y) = false := decide_eq_false h1
    by_cases h2 : y < x
    · have d2 : decide (y < x) = true := decide_eq_true h2
      go_wp2_with (go_at_call 37; refine (isNaN_calls _ _).mono ?_; rintro e w1 ⟨rfl, rfl⟩)
      go_ret
      exact ⟨rfl, rfl⟩
    · have d2 : decide (y < x) = false := decide_eq_false h2
      go_wp2_with (go_at_call 37; refine (isNaN_calls _ _).mono ?_; rintro e w1 ⟨rfl, rfl⟩)
      go_ret
      exact ⟨rfl, rfl⟩
def or2 (x y : Int) : Int := if x = 0 then y else x
theorem Or_calls (b : Nat) (x y : Int) (w : World) (h0 : w.cell? ⟨b, 0, none⟩ = some (.int .i64 x)) (h1 : w.cell? ⟨b, 1, none⟩ = some (.int .i64 y)) :
    Calls Try.prog 33 #[.slice (some ⟨b, 0, none⟩) 2 2] w fun e w' => e = .returned (.int .i64 (or2 x y)) ∧ w' = w := by
  go_enter Try.func33, Try.ntmps33
  go_wp2
  go_loopg [8] 2 (fun kq v8 w' => ∃ i : Nat, v8 = .int .i64 (i : Int) ∧ w' = w ∧ i + kq = 2 ∧ (0 < i → x = 0) ∧ (1 < i → y = 0))
  case atStart => exact ⟨0, rfl, rfl, rfl, fun h => absurd h (Nat.lt_irrefl _), fun h => absurd h (by omega)⟩
  case round =>
    obtain ⟨i, rfl, rfl, hi, hx, hy⟩ := hrel
    have hi2 : i = 0 ∨ i = 1 ∨ i = 2 := by omega
    rcases hi2 with rfl | rfl | rfl
    · by_cases e : x = 0
      · subst e
        go_wp2
        go_roundg 1
        case measure => omega
        case rel => exact ⟨1, rfl, rfl, rfl, fun _ => by trivial, fun h => absurd h (by omega)⟩
      · have d1 : (x != 0) = true := by simpa using e
        have d2 : decide (x = 0) = false := decide_eq_false e
        have d3 : (x == 0) = false := by simpa using e
        go_wp2
        go_ret
        exact ⟨by unfold or2; rw [if_neg e]; rfl, rfl⟩
    · obtain rfl := hx (by omega)
      by_cases e : y = 0
      · subst e
        go_wp2
        go_roundg 0
        case measure => omega
        case rel => exact ⟨2, rfl, rfl, rfl, fun _ => by trivial, fun _ => by trivial⟩
      · have d1 : (y != 0) = true := by simpa using e
        have d2 : decide (y = 0) = false := decide_eq_false e
        have d3 : (y == 0) = false := by simpa using e
        go_wp2
        go_ret
        exact ⟨by unfold or2; rw [if_pos rfl]; rfl, rfl⟩
    · obtain rfl := hx (by omega)
      obtain rfl := hy (by omega)
      go_wp2
      go_ret
      exact ⟨by unfold or2; rw [if_pos rfl]; rfl, rfl⟩
def ord (x y : S23) : Int := or2 (cmp3 x.f0 y.f0) (cmp3 x.f1 y.f1)
theorem order_calls (x y : S23) (W : World) : Calls Try.prog 26 #[.agg #[.int .i64 x.f0, .int .i64 x.f1], .agg #[.int .i64 y.f0, .int .i64 y.f1]] W fun e w' => e = .returned (.int .i64 (ord x y)) ∧ ∃ q os', w' = Go.Sort.grow (W.drewN q) os' := by
  unfold ord
  generalize hc0 : cmp3 x.f0 y.f0 = c0
  generalize hc1 : cmp3 x.f1 y.f1 = c1
  have H0 := fun w => hc0 ▸ Compare_calls x.f0 y.f0 w
  have H1 := fun w => hc1 ▸ Compare_calls x.f1 y.f1 w
  clear hc0 hc1
  go_enter Try.func26, Try.ntmps26
  go_upto_region 1 with fail
  obtain ⟨W2, hW2⟩ : ∃ W2, W2 = (W.alloc (Obj.cells #[Value.int IntKind.i64 x.f0, Value.int IntKind.i64 x.f1] 23)).alloc (Obj.cells #[Value.int IntKind.i64 y.f0, Value.int IntKind.i64 y.f1] 23) := ⟨_, rfl⟩
  have a0 : W2.cell? ⟨W.heap.size, 0, none⟩ = some (.int .i64 x.f0) := by rw [hW2]; simp
  have a1 : W2.cell? ⟨W.heap.size, 1, none⟩ = some (.int .i64 x.f1) := by rw [hW2]; simp
  have b0 : W2.cell? ⟨W.heap.size + 1, 0, none⟩ = some (.int .i64 y.f0) := by rw [hW2]; simp
  have b1 : W2.cell? ⟨W.heap.size + 1, 1, none⟩ = some (.int .i64 y.f1) := by rw [hW2]; simp
  have hB : ∃ os, W2.drew = Go.Sort.grow (W.drewN 1) os := ⟨_, by rw [hW2, Go.Sort.alloc_eq_grow, Go.Sort.alloc_eq_grow, Go.Sort.grow_grow]; rfl⟩
  rw [← hW2]
  clear hW2
  refine wp_region_still_tail 10 (by kernel_rfl) (by kernel_rfl) ?_
  show wpStill _ _ W2.drew _ _ _
  simp only [List.take_succ_cons, List.take_zero, List.drop_succ_cons, List.drop_zero]
  repeat still_step
  still_call (H0 _)
  repeat still_step
  still_call (H1 _)
  repeat still_step
  try refine wpStill_nil ?_
  show wpList _ _ _ _ _ W2.drew
  clear a0 a1 b0 b1
  generalize W2.drew = W3 at hB ⊢
  go_wp2_with (go_at_call 33; refine (Or_calls _ c0 c1 _ (by simp) (by simp)).mono ?_; rintro e w1 ⟨rfl, rfl⟩)
  go_ret
  obtain ⟨os, rfl⟩ := hB
  exact ⟨rfl, 1, _, by rw [Go.Sort.alloc_eq_grow, Go.Sort.grow_grow]⟩
end Go.Proofs.Ytoaaekgpabnneaa.Cmp

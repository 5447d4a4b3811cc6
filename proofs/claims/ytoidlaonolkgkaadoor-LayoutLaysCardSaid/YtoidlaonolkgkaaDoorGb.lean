/- Lay at arguments that may not be: the walk. -/
import Derived.Test.YtoidlaonolkgkaaDoorGr
set_option linter.unusedVariables false
set_option linter.unusedSimpArgs false
namespace Go.Proofs.YtoidlaonolkgkaaDoor.Gb
open Go.RowKit Go.Proofs.YtoidlaonolkgkaaDoor.Gr Go.Proofs.YtoidlaonolkgkaaDoorW.PrintWords Go.Proofs.YtoidlaonolkgkaaDoorW.PrintLast
def badArgs (width caret : Int) (a b o : Nat) : Prop := width < 2 ∨ 512 < width ∨ 200 < a ∨ 1000 < b ∨ 20 < o ∨ caret < 0 ∨ (b : Int) < caret
set_option maxHeartbeats 4000000 in
set_option maxRecDepth 100000 in
theorem lay_bad (width caret : Int) (A1 A2 A3 : Option Addr) (c1 c2 c3 a b o : Nat) (w : World) (h : badArgs width caret a b o) :
    Calls Tryd.prog 10 #[.int .i64 width, .slice A1 a c1, .slice A2 b c2, .int .i64 caret, .slice A3 o c3] w fun e w' => e = .returned (.tuple #[.agg #[.slice none 0 0, .int .i64 0, .int .i64 0], .int .i64 1]) ∧ Below w.heap.size w w' := by
  have hnew := heap_alloc_new w (Obj.cells #[.slice none 0 0, .int .i64 0, .int .i64 0] 28)
  have hbl := below_alloc (Below.refl w.heap.size w) (Obj.cells #[.slice none 0 0, .int .i64 0, .int .i64 0] 28)
  have HB3 := Lib.hid (blk_put (blk_put (blk_put hnew 0 (.slice none 0 0) rfl) 1 (.int .i64 0) rfl) 2 (.int .i64 0) rfl)
  have HBL := Lib.hid hbl
  clear hnew hbl
  by_cases g0 : width < 2
  · have d0 : decide (width < 2) = true := decide_eq_true g0
    clear h g0
    go_enter Tryd.func10, Tryd.ntmps10
    go_wp2
    first
      | (refine bodyPost_ret (results_ct rfl _ _ w.heap.size 28 _ (0, 0) _ rfl HB3.out Tryd.underlying28 rfl (by kernel_rfl)) rfl ?_
         exact ⟨rfl, ((HBL.out.setCell (Nat.le_refl _) _).setCell (Nat.le_refl _) _).setCell (Nat.le_refl _) _⟩)
      | (refine bodyPost_ret (results_ct rfl _ _ w.heap.size 28 #[.slice none 0 0, .int .i64 0, .int .i64 0] (0, 0) _ rfl (heap_alloc_new w _) Tryd.underlying28 rfl (by kernel_rfl)) rfl ?_
         exact ⟨rfl, HBL.out⟩)
  have d0 : decide (width < 2) = false := decide_eq_false g0
  by_cases g1 : 512 < width
  · have d1 : decide (512 < width) = true := decide_eq_true g1
    clear h g1
    go_enter Tryd.func10, Tryd.ntmps10
    go_wp2
    first
      | (refine bodyPost_ret (results_ct rfl _ _ w.heap.size 28 _ (0, 0) _ rfl HB3.out Tryd.underlying28 rfl (by kernel_rfl)) rfl ?_
         exact ⟨rfl, ((HBL.out.setCell (Nat.le_refl _) _).setCell (Nat.le_refl _) _).setCell (Nat.le_refl _) _⟩)
      | (refine bodyPost_ret (results_ct rfl _ _ w.heap.size 28 #[.slice none 0 0, .int .i64 0, .int .i64 0] (0, 0) _ rfl (heap_alloc_new w _) Tryd.underlying28 rfl (by kernel_rfl)) rfl ?_
         exact ⟨rfl, HBL.out⟩)
  have d1 : decide (512 < width) = false := decide_eq_false g1
  by_cases g2 : (200 : Int) < (a : Int)
  · have d2 : decide ((200 : Int) < (a : Int)) = true := decide_eq_true g2
    clear h g2
    go_enter Tryd.func10, Tryd.ntmps10
    go_wp2
    first
      | (refine bodyPost_ret (results_ct rfl _ _ w.heap.size 28 _ (0, 0) _ rfl HB3.out Tryd.underlying28 rfl (by kernel_rfl)) rfl ?_
         exact ⟨rfl, ((HBL.out.setCell (Nat.le_refl _) _).setCell (Nat.le_refl _) _).setCell (Nat.le_refl _) _⟩)
      | (refine bodyPost_ret (results_ct rfl _ _ w.heap.size 28 #[.slice none 0 0, .int .i64 0, .int .i64 0] (0, 0) _ rfl (heap_alloc_new w _) Tryd.underlying28 rfl (by kernel_rfl)) rfl ?_
         exact ⟨rfl, HBL.out⟩)
  have d2 : decide ((200 : Int) < (a : Int)) = false := decide_eq_false g2
  by_cases g3 : (1000 : Int) < (b : Int)
  · have d3 : decide ((1000 : Int) < (b : Int)) = true := decide_eq_true g3
    clear h g3
    go_enter Tryd.func10, Tryd.ntmps10
    go_wp2
    first
      | (refine bodyPost_ret (results_ct rfl _ _ w.heap.size 28 _ (0, 0) _ rfl HB3.out Tryd.underlying28 rfl (by kernel_rfl)) rfl ?_
         exact ⟨rfl, ((HBL.out.setCell (Nat.le_refl _) _).setCell (Nat.le_refl _) _).setCell (Nat.le_refl _) _⟩)
      | (refine bodyPost_ret (results_ct rfl _ _ w.heap.size 28 #[.slice none 0 0, .int .i64 0, .int .i64 0] (0, 0) _ rfl (heap_alloc_new w _) Tryd.underlying28 rfl (by kernel_rfl)) rfl ?_
         exact ⟨rfl, HBL.out⟩)
  have d3 : decide ((1000 : Int) < (b : Int)) = false := decide_eq_false g3
  by_cases g4 : (20 : Int) < (o : Int)
  · have d4 : decide ((20 : Int) < (o : Int)) = true := decide_eq_true g4
    clear h g4
    go_enter Tryd.func10, Tryd.ntmps10
    go_wp2
    first
      | (refine bodyPost_ret (results_ct rfl _ _ w.heap.size 28 _ (0, 0) _ rfl HB3.out Tryd.underlying28 rfl (by kernel_rfl)) rfl ?_
         exact ⟨rfl, ((HBL.out.setCell (Nat.le_refl _) _).setCell (Nat.le_refl _) _).setCell (Nat.le_refl _) _⟩)
      | (refine bodyPost_ret (results_ct rfl _ _ w.heap.size 28 #[.slice none 0 0, .int .i64 0, .int .i64 0] (0, 0) _ rfl (heap_alloc_new w _) Tryd.underlying28 rfl (by kernel_rfl)) rfl ?_
         exact ⟨rfl, HBL.out⟩)
  have d4 : decide ((20 : Int) < (o : Int)) = false := decide_eq_false g4
  by_cases g5 : caret < 0
  · have d5 : decide (caret < 0) = true := decide_eq_true g5
    clear h g5
    go_enter Tryd.func10, Tryd.ntmps10
    go_wp2
    first
      | (refine bodyPost_ret (results_ct rfl _ _ w.heap.size 28 _ (0, 0) _ rfl HB3.out Tryd.underlying28 rfl (by kernel_rfl)) rfl ?_
         exact ⟨rfl, ((HBL.out.setCell (Nat.le_refl _) _).setCell (Nat.le_refl _) _).setCell (Nat.le_refl _) _⟩)
      | (refine bodyPost_ret (results_ct rfl _ _ w.heap.size 28 #[.slice none 0 0, .int .i64 0, .int .i64 0] (0, 0) _ rfl (heap_alloc_new w _) Tryd.underlying28 rfl (by kernel_rfl)) rfl ?_
         exact ⟨rfl, HBL.out⟩)
  have d5 : decide (caret < 0) = false := decide_eq_false g5
  by_cases g6 : (b : Int) < caret
  · have d6 : decide ((b : Int) < caret) = true := decide_eq_true g6
    clear h g6
    go_enter Tryd.func10, Tryd.ntmps10
    go_wp2
    first
      | (refine bodyPost_ret (results_ct rfl _ _ w.heap.size 28 _ (0, 0) _ rfl HB3.out Tryd.underlying28 rfl (by kernel_rfl)) rfl ?_
         exact ⟨rfl, ((HBL.out.setCell (Nat.le_refl _) _).setCell (Nat.le_refl _) _).setCell (Nat.le_refl _) _⟩)
      | (refine bodyPost_ret (results_ct rfl _ _ w.heap.size 28 #[.slice none 0 0, .int .i64 0, .int .i64 0] (0, 0) _ rfl (heap_alloc_new w _) Tryd.underlying28 rfl (by kernel_rfl)) rfl ?_
         exact ⟨rfl, HBL.out⟩)
  have d6 : decide ((b : Int) < caret) = false := decide_eq_false g6
  unfold badArgs at h
  omega
end Go.Proofs.YtoidlaonolkgkaaDoor.Gb

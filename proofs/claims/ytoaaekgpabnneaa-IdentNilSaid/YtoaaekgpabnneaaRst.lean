/- The reference's maker of Ids, in its box; two makers side by side. -/
import Derived.Test.YtoaaekgpabnneaaGiv
import Derived.RegionTactic
import Derived.BigQuiet
set_option linter.unusedVariables false
set_option linter.unusedSimpArgs false
namespace Go.Proofs.Ytoaaekgpabnneaa.Sta
open Go.RowKit Go.Proofs.Ytoaaekgpabnneaa.P Go.Proofs.YtoaaekgpabnneaaW.PrintWords
/-- The box k holds a maker of the reference's. -/
def RMk (w : World) (k : Nat) (s t : Int) : Prop := w.heap[k]? = some (.cells #[.int .i64 s, .int .i64 t] 45 (0, 0))
theorem RMk.c0 {w : World} {k : Nat} {s t : Int} (h : RMk w k s t) : w.cell? ⟨k, 0, none⟩ = some (.int .i64 s) := by unfold World.cell?; rw [show w.heap[k]? = _ from h]; rfl
theorem RMk.c1 {w : World} {k : Nat} {s t : Int} (h : RMk w k s t) : w.cell? ⟨k, 1, none⟩ = some (.int .i64 t) := by unfold World.cell?; rw [show w.heap[k]? = _ from h]; rfl
theorem RMk.f1 {w : World} {k : Nat} {s t : Int} (h : RMk w k s t) : w.frozen? ⟨k, 1, none⟩ = false := by unfold World.frozen?; rw [show w.heap[k]? = _ from h]; rfl
theorem RMk.below {w w1 : World} {k : Nat} {s t : Int} (h : RMk w k s t) (hb : Below w.heap.size w w1) : RMk w1 k s t := (hb.block k (blk_lt h)).trans h
theorem rchk (t s : Int) : (if t < 1 then (1 : Int) else if t > 4294967295 then 1 else if s < 0 then 1 else if s > 15 then 1 else 0) = chk t s := by
  unfold chk
  by_cases h1 : t < 1
  · rw [if_pos h1, if_pos h1]
  · rw [if_neg h1, if_neg h1]
    by_cases h2 : t > 4294967295
    · rw [if_pos h2, if_pos (show 4294967295 < t by omega)]
    · rw [if_neg h2, if_neg (show ¬ 4294967295 < t by omega)]
      by_cases h3 : s < 0
      · rw [if_pos h3, if_pos h3]
      · rw [if_neg h3, if_neg h3]
        by_cases h4 : s > 15
        · rw [if_pos h4, if_pos (show 16 ≤ s by omega)]
        · rw [if_neg h4, if_neg (show ¬ 16 ≤ s by omega)]
theorem RCheck_calls (t s : Int) (w : World) : Calls Try.prog 12 #[.agg #[.int .i64 t, .int .i64 s]] w fun e w' => e = .returned (.int .i64 (chk t s)) ∧ Below w.heap.size w w' :=
  duetref10_Check.calls t s (chk t s) w (by rw [← rchk]; unfold duetref10_Check.f; repeat (first | rfl | split))
theorem chk_site (s : Int) : (chk 1 s = 1 ∧ (s < 0 ∨ 15 < s)) ∨ (chk 1 s = 0 ∧ 0 ≤ s ∧ s ≤ 15) := by
  unfold chk
  rw [if_neg (by omega), if_neg (by omega)]
  by_cases h3 : s < 0
  · rw [if_pos h3]; exact .inl ⟨rfl, .inl h3⟩
  · rw [if_neg h3]
    by_cases h4 : 16 ≤ s
    · rw [if_pos h4]; exact .inl ⟨rfl, .inr (by omega)⟩
    · rw [if_neg h4]; exact .inr ⟨rfl, by omega, by omega⟩
theorem RNew_bad (s : Int) (h : s < 0 ∨ 15 < s) (w : World) : Calls Try.prog 20 #[.int .i64 s] w fun e w' => e = .returned (.tuple #[.pointer none, .int .i64 1]) ∧ Below w.heap.size w w' := by
  by_cases h1 : s < 0
  · have d1 : decide (s < 0) = true := decide_eq_true h1
    clear h h1
    go_enter Try.func20, Try.ntmps20
    go_wp2
    go_ret2
    exact ⟨rfl, Below.refl _ _⟩
  · have h2 : 15 < s := by omega
    have d1 : decide (s < 0) = false := decide_eq_false h1
    have d2 : decide (15 < s) = true := decide_eq_true h2
    clear h h1 h2
    go_enter Try.func20, Try.ntmps20
    go_wp2
    go_ret2
    exact ⟨rfl, Below.refl _ _⟩
theorem RNew_ok (s : Int) (h1 : 0 ≤ s) (h2 : s ≤ 15) (w : World) : Calls Try.prog 20 #[.int .i64 s] w fun e w' => ∃ k, e = .returned (.tuple #[.pointer (some ⟨k, 0, none⟩), .int .i64 0]) ∧ w.heap.size ≤ k ∧ RMk w' k s 0 ∧ Below w.heap.size w w' := by
  have d1 : decide (s < 0) = false := decide_eq_false (by omega)
  have d2 : decide (15 < s) = false := decide_eq_false (by omega)
  clear h1 h2
  go_enter Try.func20, Try.ntmps20
  go_wp2
  go_ret2
  exact ⟨w.heap.size, rfl, Nat.le_refl _, heap_alloc_new _ _, below_alloc (Below.refl _ _) _⟩
theorem RSee_ok (k : Nat) (t s t0 s0 : Int) (h : chk t s = 0) (w : World) (hm : RMk w k s0 t0) :
    Calls Try.prog 22 #[.pointer (some ⟨k, 0, none⟩), .agg #[.int .i64 t, .int .i64 s]] w fun e w' => e = .returned (.int .i64 0) ∧ RMk w' k s0 (if t0 < t then t else t0) ∧ But k w w' := by
  obtain ⟨q, hq⟩ : ∃ q, q = (if t0 < t then t else t0) := ⟨_, rfl⟩
  rw [← hq]
  have HQ := Lib.hid hq
  clear hq
  have H := fun w => RCheck_calls t s w
  rw [h] at H
  clear h
  go_enter Try.func22, Try.ntmps22
  go_upto_region 3 with (go_at_call 12; refine (H _).mono ?_; rintro e w1 ⟨rfl, hB⟩)
  have hg : k < w.heap.size := blk_lt hm
  have hB' : Below w.heap.size w w1 := below_then (below_alloc (Below.refl _ _) _) (by simp) (by simpa using hB)
  have m1 : RMk w1 k s0 t0 := (hB'.block k hg).trans hm
  have c1 := m1.c1
  have x0 : w1.cell? ⟨w.heap.size, 0, none⟩ = some (.int .i64 t) := (hB.cell (by simp)).trans (by simp)
  refine wp_region_still_tail 10 (by kernel_rfl) (by kernel_rfl) ?_
  show wpStill _ _ w1.drew _ _ _
  simp only [List.take_succ_cons, List.take_zero, List.drop_succ_cons, List.drop_zero]
  repeat still_step
  refine wpStill_nil ?_
  show wpList _ _ _ _ _ w1.drew
  have hq : q = max t0 t := by
    have := HQ.out
    split at this <;> omega
  rw [← hq]
  clear hq HQ
  have m2 : RMk w1.drew k s0 t0 := m1
  have hB2 : Below w.heap.size w w1.drew := below_drew hB'
  have c2 := m2.c1
  have f2 := m2.f1
  clear m1 c1 x0 hB hB' hm H
  generalize w1.drew = w2 at m2 hB2 c2 f2 ⊢
  have M2 := Lib.hid m2
  clear m2
  go_wp2
  go_ret
  refine ⟨rfl, ?_, ?_⟩
  · exact blk_put (cs := #[.int .i64 s0, .int .i64 t0]) M2.out 1 _ rfl
  · exact ⟨hB2.os, hB2.tape, hB2.output, by simpa using hB2.size, fun j hj hlt => (Below.heap_setCell w2 ⟨k, 1, none⟩ _ j hj).trans (hB2.block j hlt)⟩
theorem RMake_full (k : Nat) (s : Int) (w : World) (hm : RMk w k s 4294967295) : Calls Try.prog 25 #[.pointer (some ⟨k, 0, none⟩)] w fun e w' => e = .returned (.tuple #[.agg #[.int .i64 0, .int .i64 0], .int .i64 5]) ∧ Below w.heap.size w w' := by
  have hg : k < w.heap.size := blk_lt hm
  have c0 : (w.alloc (.cells #[.int .i64 0, .int .i64 0] 23)).cell? ⟨k, 1, none⟩ = some (.int .i64 4294967295) := ((below_alloc (Below.refl _ _) _).cell (by simpa using hg)).trans hm.c1
  clear hm
  have hg' : ¬ k = w.heap.size := by omega
  go_enter Try.func25, Try.ntmps25
  go_wp2
  have h0 : (w.alloc (.cells #[.int .i64 0, .int .i64 0] 23)).heap[w.heap.size]? = some (.cells #[.int .i64 0, .int .i64 0] 23 (0, 0)) := Array.getElem?_push_size
  refine bodyPost_ret (results_ct rfl _ _ w.heap.size 23 #[.int .i64 0, .int .i64 0] (0, 0) _ rfl h0 Try.underlying23 rfl (by kernel_rfl)) rfl ?_
  exact ⟨rfl, below_alloc (Below.refl _ _) _⟩
set_option maxHeartbeats 1000000 in
theorem RMake_ok (k : Nat) (t s : Int) (h1 : 0 ≤ t) (h2 : t < 4294967295) (w : World) (hm : RMk w k s t) :
    Calls Try.prog 25 #[.pointer (some ⟨k, 0, none⟩)] w fun e w' => e = .returned (.tuple #[.agg #[.int .i64 (t + 1), .int .i64 s], .int .i64 0]) ∧ RMk w' k s (t + 1) ∧ But k w w' := by
  have ht : t ≠ 4294967295 := by omega
  have hg : k < w.heap.size := blk_lt hm
  have m1 : RMk (w.alloc (.cells #[.int .i64 0, .int .i64 0] 23)) k s t := hm.below (below_alloc (Below.refl _ _) _)
  have c0 := m1.c0
  have c1 := m1.c1
  have f1 := m1.f1
  have M1 := Lib.hid m1
  clear m1 hm
  have hg' : ¬ k = w.heap.size := by omega
  have d1 : decide (t = 4294967295) = false := decide_eq_false ht
  have d2 : (t == 4294967295) = false := by simpa using ht
  have e1 : wrap64 (t + 1) = t + 1 := by unfold wrap64; omega
  go_enter Try.func25, Try.ntmps25
  go_upto_region 3 with fail
  have h0 : (w.alloc (.cells #[.int .i64 0, .int .i64 0] 23)).heap[w.heap.size]? = some (.cells #[.int .i64 0, .int .i64 0] 23 (0, 0)) := Array.getElem?_push_size
  have hB : Below w.heap.size w (w.alloc (.cells #[.int .i64 0, .int .i64 0] 23)) := below_alloc (Below.refl _ _) _
  generalize w.alloc (.cells #[.int .i64 0, .int .i64 0] 23) = w2 at c0 c1 f1 M1 h0 hB ⊢
  have m2 : RMk w2 k s t := M1.out
  have H0 := Lib.hid h0
  clear m2 h0
  go_upto_region 4 with fail
  have m3 : RMk (w2.setCell ⟨k, 1, none⟩ (.int .i64 (t + 1))) k s (t + 1) := blk_put (cs := #[.int .i64 s, .int .i64 t]) M1.out 1 _ rfl
  have h3 : (w2.setCell ⟨k, 1, none⟩ (.int .i64 (t + 1))).heap[w.heap.size]? = some (.cells #[.int .i64 0, .int .i64 0] 23 (0, 0)) := (Below.heap_setCell w2 ⟨k, 1, none⟩ _ w.heap.size (fun e => hg' e.symm)).trans H0.out
  have hX : But k w (w2.setCell ⟨k, 1, none⟩ (.int .i64 (t + 1))) := ⟨hB.os, hB.tape, hB.output, by simpa using hB.size, fun j hj hlt => (Below.heap_setCell w2 ⟨k, 1, none⟩ _ j hj).trans (hB.block j hlt)⟩
  clear c0 c1 f1 M1 H0 hB
  generalize w2.setCell ⟨k, 1, none⟩ (.int .i64 (t + 1)) = w3 at m3 h3 hX ⊢
  have c0 := m3.c0
  have c1 := m3.c1
  have M3 := Lib.hid m3
  have H3 := Lib.hid h3
  clear m3 h3
  refine wp_region_still_tail 9 (by kernel_rfl) (by kernel_rfl) ?_
  show wpStill _ _ w3.drew _ _ _
  simp only [List.take_succ_cons, List.take_zero, List.drop_succ_cons, List.drop_zero]
  repeat still_step
  refine wpStill_nil ?_
  show wpList _ _ _ _ _ w3.drew
  have M4 : Hid (RMk w3.drew k s (t + 1)) := M3
  have H4 : Hid (w3.drew.heap[w.heap.size]? = some (.cells #[.int .i64 0, .int .i64 0] 23 (0, 0))) := H3
  have hX4 : But k w w3.drew := ⟨hX.os, hX.tape, hX.output, hX.size, hX.block⟩
  clear c0 c1 M3 H3 hX
  generalize w3.drew = w4 at M4 H4 hX4 ⊢
  have r0 : w4.cell? ⟨w.heap.size, 0, none⟩ = some (.int .i64 0) := by unfold World.cell?; rw [H4.out]; rfl
  have r1 : w4.cell? ⟨w.heap.size, 1, none⟩ = some (.int .i64 0) := by unfold World.cell?; rw [H4.out]; rfl
  have q0 : w4.frozen? ⟨w.heap.size, 0, none⟩ = false := by unfold World.frozen?; rw [H4.out]; rfl
  have q1 : w4.frozen? ⟨w.heap.size, 1, none⟩ = false := by unfold World.frozen?; rw [H4.out]; rfl
  go_wp2
  have h2 := blk_put (cs := #[.int .i64 0, .int .i64 0]) H4.out 0 (.int .i64 (t + 1)) rfl
  have h3 := blk_put (cs := #[.int .i64 (t + 1), .int .i64 0]) h2 1 (.int .i64 s) rfl
  refine bodyPost_ret (results_ct rfl _ _ w.heap.size 23 #[.int .i64 (t + 1), .int .i64 s] (0, 0) _ rfl h3 Try.underlying23 rfl (by kernel_rfl)) rfl ?_
  refine ⟨rfl, ?_, ?_⟩
  · exact (Below.heap_setCell _ ⟨w.heap.size, 1, none⟩ _ k hg').trans ((Below.heap_setCell _ ⟨w.heap.size, 0, none⟩ _ k hg').trans M4.out)
  · refine ⟨hX4.os, hX4.tape, hX4.output, by simpa using hX4.size, fun j hj hlt => ?_⟩
    have hk' : j ≠ w.heap.size := by omega
    exact (Below.heap_setCell _ ⟨w.heap.size, 1, none⟩ _ j hk').trans ((Below.heap_setCell _ ⟨w.heap.size, 0, none⟩ _ j hk').trans (hX4.block j hj hlt))
end Go.Proofs.Ytoaaekgpabnneaa.Sta

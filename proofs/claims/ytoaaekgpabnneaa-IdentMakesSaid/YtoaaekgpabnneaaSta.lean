/- A maker of Ids, in its box. -/
import Derived.Test.YtoaaekgpabnneaaPx0
import Derived.Deep.LoopGhost
import Derived.Lib.Hide
import Derived.StillTailTactics
set_option linter.unusedVariables false
namespace Go.Proofs.Ytoaaekgpabnneaa.Sta
open Go.RowKit Go.Proofs.Ytoaaekgpabnneaa.P Go.Proofs.YtoaaekgpabnneaaW.PrintWords
/-- The box g holds a maker. -/
def Mk (w : World) (g : Nat) (t s : Int) : Prop := w.heap[g]? = some (.cells #[.int .i64 t, .int .i64 s] 56 (0, 0))
/-- Nothing but the box g may have changed. -/
structure But (g : Nat) (w w' : World) : Prop where
  os : w'.os = w.os
  tape : w'.tape = w.tape
  output : w'.output = w.output
  size : w.heap.size ≤ w'.heap.size
  block : ∀ k, k ≠ g → k < w.heap.size → w'.heap[k]? = w.heap[k]?
theorem Mk.c0 {w : World} {g : Nat} {t s : Int} (h : Mk w g t s) : w.cell? ⟨g, 0, none⟩ = some (.int .i64 t) := by
  unfold World.cell?; rw [show w.heap[g]? = _ from h]; rfl
theorem Mk.c1 {w : World} {g : Nat} {t s : Int} (h : Mk w g t s) : w.cell? ⟨g, 1, none⟩ = some (.int .i64 s) := by
  unfold World.cell?; rw [show w.heap[g]? = _ from h]; rfl
theorem Mk.f0 {w : World} {g : Nat} {t s : Int} (h : Mk w g t s) : w.frozen? ⟨g, 0, none⟩ = false := by
  unfold World.frozen?; rw [show w.heap[g]? = _ from h]; rfl
theorem Time_nil (w : World) : Calls Try.prog 23 #[.pointer none] w fun e w' => e = .returned (.int .i64 0) ∧ w' = w := by
  go_enter Try.func23, Try.ntmps23
  go_wp2
  go_ret
  exact ⟨rfl, rfl⟩
theorem Time_calls (w : World) (g : Nat) (t s : Int) (h : Mk w g t s) : Calls Try.prog 23 #[.pointer (some ⟨g, 0, none⟩)] w fun e w' => e = .returned (.int .i64 t) ∧ w' = w := by
  have h0 := h.c0
  go_enter Try.func23, Try.ntmps23
  go_wp2
  go_ret
  exact ⟨rfl, rfl⟩
def chk (t s : Int) : Int := if t < 1 then 1 else if 4294967295 < t then 1 else if s < 0 then 1 else if 16 ≤ s then 1 else 0
theorem Check_calls (t s : Int) (w : World) : Calls Try.prog 11 #[.agg #[.int .i64 t, .int .i64 s]] w fun e w' => e = .returned (.int .i64 (chk t s)) ∧ Below w.heap.size w w' := by
  by_cases h1 : t < 1
  · rw [show chk t s = 1 by unfold chk; rw [if_pos h1]]
    have d1 : decide (t < 1) = true := decide_eq_true h1
    clear h1
    go_enter Try.func11, Try.ntmps11
    go_wp2
    go_ret
    exact ⟨rfl, below_alloc (Below.refl _ _) _⟩
  · have d1 : decide (t < 1) = false := decide_eq_false h1
    by_cases h2 : 4294967295 < t
    · rw [show chk t s = 1 by unfold chk; rw [if_neg h1, if_pos h2]]
      have d2 : decide (4294967295 < t) = true := decide_eq_true h2
      clear h1 h2
      go_enter Try.func11, Try.ntmps11
      go_wp2
      go_ret
      exact ⟨rfl, below_alloc (Below.refl _ _) _⟩
    · have d2 : decide (4294967295 < t) = false := decide_eq_false h2
      by_cases h3 : s < 0
      · rw [show chk t s = 1 by unfold chk; rw [if_neg h1, if_neg h2, if_pos h3]]
        have d3 : decide (s < 0) = true := decide_eq_true h3
        clear h1 h2 h3
        go_enter Try.func11, Try.ntmps11
        go_wp2
        go_ret
        exact ⟨rfl, below_alloc (Below.refl _ _) _⟩
      · have d3 : decide (s < 0) = false := decide_eq_false h3
        by_cases h4 : 16 ≤ s
        · rw [show chk t s = 1 by unfold chk; rw [if_neg h1, if_neg h2, if_neg h3, if_pos h4]]
          have d4 : decide (16 ≤ s) = true := decide_eq_true h4
          clear h1 h2 h3 h4
          go_enter Try.func11, Try.ntmps11
          go_wp2
          go_ret
          exact ⟨rfl, below_alloc (Below.refl _ _) _⟩
        · rw [show chk t s = 0 by unfold chk; rw [if_neg h1, if_neg h2, if_neg h3, if_neg h4]]
          have d4 : decide (16 ≤ s) = false := decide_eq_false h4
          clear h1 h2 h3 h4
          go_enter Try.func11, Try.ntmps11
          go_wp2
          go_ret
          exact ⟨rfl, below_alloc (Below.refl _ _) _⟩
theorem New_bad (s : Int) (h : chk 1 s = 1) (w : World) : Calls Try.prog 19 #[.int .i64 s] w fun e w' => e = .returned (.tuple #[.pointer none, .int .i64 1]) ∧ Below w.heap.size w w' := by
  have H := fun w => Check_calls 1 s w
  rw [h] at H
  clear h
  go_enter Try.func19, Try.ntmps19
  go_wp2_with (go_at_call 11; refine (H _).mono ?_; rintro e w1 ⟨rfl, hB⟩)
  go_ret2
  exact ⟨rfl, below_then (below_alloc (Below.refl _ _) _) (by simp) (by simpa using hB)⟩
theorem New_ok (s : Int) (h : chk 1 s = 0) (w : World) : Calls Try.prog 19 #[.int .i64 s] w fun e w' => ∃ g, e = .returned (.tuple #[.pointer (some ⟨g, 0, none⟩), .int .i64 0]) ∧ w.heap.size ≤ g ∧ Mk w' g 0 s ∧ Below w.heap.size w w' := by
  have H := fun w => Check_calls 1 s w
  rw [h] at H
  clear h
  go_enter Try.func19, Try.ntmps19
  go_wp2_with (go_at_call 11; refine (H _).mono ?_; rintro e w1 ⟨rfl, hB⟩)
  go_ret2
  have hB' : Below w.heap.size w w1 := below_then (below_alloc (Below.refl _ _) _) (by simp) (by simpa using hB)
  exact ⟨w1.heap.size, rfl, hB'.size, (show (w1.heap.push _)[w1.heap.size]? = _ from Array.getElem?_push_size), below_alloc hB' _⟩
theorem See_nil (t s : Int) (w : World) : Calls Try.prog 21 #[.pointer none, .agg #[.int .i64 t, .int .i64 s]] w fun e w' => e = .returned (.int .i64 1) ∧ Below w.heap.size w w' := by
  go_enter Try.func21, Try.ntmps21
  go_wp2
  go_ret
  exact ⟨rfl, below_alloc (Below.refl _ _) _⟩
theorem Make_nil (w : World) : Calls Try.prog 24 #[.pointer none] w fun e w' => e = .returned (.tuple #[.agg #[.int .i64 0, .int .i64 0], .int .i64 1]) ∧ Below w.heap.size w w' := by
  go_enter Try.func24, Try.ntmps24
  go_wp2
  have h0 : (w.alloc (.cells #[.int .i64 0, .int .i64 0] 23)).heap[w.heap.size]? = some (.cells #[.int .i64 0, .int .i64 0] 23 (0, 0)) := Array.getElem?_push_size
  refine bodyPost_ret (results_ct rfl _ _ w.heap.size 23 #[.int .i64 0, .int .i64 0] (0, 0) _ rfl h0 Try.underlying23 rfl (by kernel_rfl)) rfl ?_
  exact ⟨rfl, below_alloc (Below.refl _ _) _⟩
theorem See_bad (g : Nat) (t s : Int) (h : chk t s = 1) (w : World) : Calls Try.prog 21 #[.pointer (some ⟨g, 0, none⟩), .agg #[.int .i64 t, .int .i64 s]] w fun e w' => e = .returned (.int .i64 1) ∧ Below w.heap.size w w' := by
  have H := fun w => Check_calls t s w
  rw [h] at H
  clear h
  go_enter Try.func21, Try.ntmps21
  go_wp2_with (go_at_call 11; refine (H _).mono ?_; rintro e w1 ⟨rfl, hB⟩)
  go_ret
  exact ⟨rfl, below_then (below_alloc (Below.refl _ _) _) (by simp) (by simpa using hB)⟩
theorem See_ok (g : Nat) (t s t0 s0 : Int) (h : chk t s = 0) (w : World) (hm : Mk w g t0 s0) :
    Calls Try.prog 21 #[.pointer (some ⟨g, 0, none⟩), .agg #[.int .i64 t, .int .i64 s]] w fun e w' => e = .returned (.int .i64 0) ∧ Mk w' g (if t0 < t then t else t0) s0 ∧ But g w w' := by
  obtain ⟨q, hq⟩ : ∃ q, q = (if t0 < t then t else t0) := ⟨_, rfl⟩
  rw [← hq]
  have HQ := Lib.hid hq
  clear hq
  have H := fun w => Check_calls t s w
  rw [h] at H
  clear h
  go_enter Try.func21, Try.ntmps21
  go_upto_region 3 with (go_at_call 11; refine (H _).mono ?_; rintro e w1 ⟨rfl, hB⟩)
  have hg : g < w.heap.size := by
    rcases Nat.lt_or_ge g w.heap.size with h | h
    · exact h
    · rw [Mk, Array.getElem?_eq_none h] at hm; cases hm
  have hB' : Below w.heap.size w w1 := below_then (below_alloc (Below.refl _ _) _) (by simp) (by simpa using hB)
  have m1 : Mk w1 g t0 s0 := (hB'.block g hg).trans hm
  have c0 := m1.c0
  have x0 : w1.cell? ⟨w.heap.size, 0, none⟩ = some (.int .i64 t) := (hB.cell (by simp)).trans (by simp)
  go_still_tail 12, (by kernel_rfl)
  show wpList _ _ _ _ _ w1.drew
  have hq : q = (if t0 < t then t else t0) := HQ
  rw [← hq]
  clear hq HQ
  have m2 : Mk w1.drew g t0 s0 := m1
  have hB2 : Below w.heap.size w w1.drew := below_drew hB'
  have c2 := m2.c0
  have f2 := m2.f0
  clear m1 c0 x0 hB hB' hm H
  generalize w1.drew = w2 at m2 hB2 c2 f2 ⊢
  have M2 := Lib.hid m2
  clear m2
  go_wp2
  go_ret
  refine ⟨rfl, ?_, ?_⟩
  · have m := M2
    exact blk_put (cs := #[.int .i64 t0, .int .i64 s0]) m 0 _ rfl
  · exact ⟨hB2.os, hB2.tape, hB2.output, by simpa using hB2.size, fun k hk hlt => (Below.heap_setCell w2 ⟨g, 0, none⟩ _ k hk).trans (hB2.block k hlt)⟩
theorem Make_full (g : Nat) (s : Int) (w : World) (hm : Mk w g 4294967295 s) : Calls Try.prog 24 #[.pointer (some ⟨g, 0, none⟩)] w fun e w' => e = .returned (.tuple #[.agg #[.int .i64 0, .int .i64 0], .int .i64 5]) ∧ Below w.heap.size w w' := by
  have hg : g < w.heap.size := by
    rcases Nat.lt_or_ge g w.heap.size with h | h
    · exact h
    · rw [Mk, Array.getElem?_eq_none h] at hm; cases hm
  have c0 : (w.alloc (.cells #[.int .i64 0, .int .i64 0] 23)).cell? ⟨g, 0, none⟩ = some (.int .i64 4294967295) := ((below_alloc (Below.refl _ _) _).cell (by simpa using hg)).trans hm.c0
  clear hm
  have hg' : ¬ g = w.heap.size := by omega
  go_enter Try.func24, Try.ntmps24
  go_wp2
  have h0 : (w.alloc (.cells #[.int .i64 0, .int .i64 0] 23)).heap[w.heap.size]? = some (.cells #[.int .i64 0, .int .i64 0] 23 (0, 0)) := Array.getElem?_push_size
  refine bodyPost_ret (results_ct rfl _ _ w.heap.size 23 #[.int .i64 0, .int .i64 0] (0, 0) _ rfl h0 Try.underlying23 rfl (by kernel_rfl)) rfl ?_
  exact ⟨rfl, below_alloc (Below.refl _ _) _⟩
theorem Make_ok (g : Nat) (t s : Int) (ht : t ≠ 4294967295) (h1 : 0 ≤ t) (h2 : t < 4294967295) (w : World) (hm : Mk w g t s) :
    Calls Try.prog 24 #[.pointer (some ⟨g, 0, none⟩)] w fun e w' => e = .returned (.tuple #[.agg #[.int .i64 (t + 1), .int .i64 s], .int .i64 0]) ∧ Mk w' g (t + 1) s ∧ But g w w' := by
  have hg : g < w.heap.size := by
    rcases Nat.lt_or_ge g w.heap.size with h | h
    · exact h
    · rw [Mk, Array.getElem?_eq_none h] at hm; cases hm
  have m1 : Mk (w.alloc (.cells #[.int .i64 0, .int .i64 0] 23)) g t s := ((below_alloc (Below.refl _ _) _ : Below w.heap.size w _).block g hg).trans hm
  have c0 := m1.c0
  have f0 := m1.f0
  have M1 := Lib.hid m1
  clear m1 hm
  have hg' : ¬ g = w.heap.size := by omega
  have d1 : decide (t = 4294967295) = false := decide_eq_false ht
  have d2 : (t == 4294967295) = false := by simpa using ht
  have e1 : wrap64 (t + 1) = t + 1 := by unfold wrap64; omega
  go_enter Try.func24, Try.ntmps24
  go_upto_region 5 with fail
  have h0 : (w.alloc (.cells #[.int .i64 0, .int .i64 0] 23)).heap[w.heap.size]? = some (.cells #[.int .i64 0, .int .i64 0] 23 (0, 0)) := Array.getElem?_push_size
  have hB : Below w.heap.size w (w.alloc (.cells #[.int .i64 0, .int .i64 0] 23)) := below_alloc (Below.refl _ _) _
  generalize w.alloc (.cells #[.int .i64 0, .int .i64 0] 23) = w2 at c0 f0 M1 h0 hB ⊢
  have m2 : Mk w2 g t s := M1
  have H0 := Lib.hid h0
  have c1 := m2.c1
  have r0 : w2.cell? ⟨w.heap.size, 0, none⟩ = some (.int .i64 0) := by unfold World.cell?; rw [h0]; rfl
  have r1 : w2.cell? ⟨w.heap.size, 1, none⟩ = some (.int .i64 0) := by unfold World.cell?; rw [h0]; rfl
  have q0 : w2.frozen? ⟨w.heap.size, 0, none⟩ = false := by unfold World.frozen?; rw [h0]; rfl
  have q1 : w2.frozen? ⟨w.heap.size, 1, none⟩ = false := by unfold World.frozen?; rw [h0]; rfl
  clear m2 h0
  go_wp2
  have h0 : w2.heap[w.heap.size]? = some (.cells #[.int .i64 0, .int .i64 0] 23 (0, 0)) := H0
  have m2 : Mk w2 g t s := M1
  have h1 : (w2.setCell ⟨g, 0, none⟩ (.int .i64 (t + 1))).heap[w.heap.size]? = some (.cells #[.int .i64 0, .int .i64 0] 23 (0, 0)) := (Below.heap_setCell w2 ⟨g, 0, none⟩ _ w.heap.size (fun e => hg' e.symm)).trans h0
  have h2 := blk_put (cs := #[.int .i64 0, .int .i64 0]) h1 0 (.int .i64 (t + 1)) rfl
  have h3 := blk_put (cs := #[.int .i64 (t + 1), .int .i64 0]) h2 1 (.int .i64 s) rfl
  refine bodyPost_ret (results_ct rfl _ _ w.heap.size 23 #[.int .i64 (t + 1), .int .i64 s] (0, 0) _ rfl h3 Try.underlying23 rfl (by kernel_rfl)) rfl ?_
  have g1 : (w2.setCell ⟨g, 0, none⟩ (.int .i64 (t + 1))).heap[g]? = some (.cells #[.int .i64 (t + 1), .int .i64 s] 56 (0, 0)) := blk_put (cs := #[.int .i64 t, .int .i64 s]) m2 0 _ rfl
  refine ⟨rfl, ?_, ?_⟩
  · exact (Below.heap_setCell _ ⟨w.heap.size, 1, none⟩ _ g hg').trans ((Below.heap_setCell _ ⟨w.heap.size, 0, none⟩ _ g hg').trans g1)
  · refine ⟨hB.os, hB.tape, hB.output, by simpa using hB.size, fun k hk hlt => ?_⟩
    have hk' : k ≠ w.heap.size := by omega
    exact (Below.heap_setCell _ ⟨w.heap.size, 1, none⟩ _ k hk').trans ((Below.heap_setCell _ ⟨w.heap.size, 0, none⟩ _ k hk').trans ((Below.heap_setCell w2 ⟨g, 0, none⟩ _ k hk).trans (hB.block k hlt)))
end Go.Proofs.Ytoaaekgpabnneaa.Sta

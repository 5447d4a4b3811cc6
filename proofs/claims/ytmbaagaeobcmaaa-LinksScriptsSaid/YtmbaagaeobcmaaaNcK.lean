/- links.New, is, has, Len: the walks. -/
import Derived.Test.YtmbaagaeobcmaaaNtK
import Derived.Laws.Rows
import Derived.StillTailTactics
import Derived.BigQuiet
import Derived.Deep.QuietTactic
import Derived.Deep.RegionHeld3
import Derived.OwnWalk
import Derived.IntWalk
set_option linter.unusedVariables false
set_option linter.unusedSimpArgs false
namespace Go.Proofs.Ytmbaagaeobcmaaa.NcK
open Go.RowKit Go.Proofs.Ytmbaagaeobcmaaa.NtK Go.Proofs.YtmbaagaeobcmaaaW.PrintWords Go.Proofs.YtmbaagaeobcmaaaW.PrintLast
def okNew (s r : Int) : Bool := decide (1 ≤ s) && (decide (s ≤ 16) && (decide (1 ≤ r) && decide (r ≤ 1000)))
theorem New_bad (s r : Int) (h : okNew s r = false) (w : World) : Calls Try.prog 8 #[.int .i64 s, .int .i64 r] w fun e w' => e = .returned (.tuple #[.pointer none, .int .i64 1]) ∧ Below w.heap.size w w' := by
  unfold okNew at h
  by_cases h1 : 1 ≤ s
  · by_cases h2 : s ≤ 16
    · by_cases h3 : 1 ≤ r
      · have h4 : ¬ r ≤ 1000 := by intro h4; simp [h1, h2, h3, h4] at h
        have d1 : decide (s < 1) = false := decide_eq_false (by omega)
        have d2 : decide (16 < s) = false := decide_eq_false (by omega)
        have d3 : decide (r < 1) = false := decide_eq_false (by omega)
        have d4 : decide (1000 < r) = true := decide_eq_true (by omega)
        clear h h1 h2 h3 h4
        go_enter Try.func8, Try.ntmps8
        go_wp2
        go_ret2
        exact ⟨rfl, Below.refl _ _⟩
      · have d1 : decide (s < 1) = false := decide_eq_false (by omega)
        have d2 : decide (16 < s) = false := decide_eq_false (by omega)
        have d3 : decide (r < 1) = true := decide_eq_true (by omega)
        clear h h1 h2 h3
        go_enter Try.func8, Try.ntmps8
        go_wp2
        go_ret2
        exact ⟨rfl, Below.refl _ _⟩
    · have d1 : decide (s < 1) = false := decide_eq_false (by omega)
      have d2 : decide (16 < s) = true := decide_eq_true (by omega)
      clear h h1 h2
      go_enter Try.func8, Try.ntmps8
      go_wp2
      go_ret2
      exact ⟨rfl, Below.refl _ _⟩
  · have d1 : decide (s < 1) = true := decide_eq_true (by omega)
    clear h h1
    go_enter Try.func8, Try.ntmps8
    go_wp2
    go_ret2
    exact ⟨rfl, Below.refl _ _⟩
def noBags : Int → Int → List ByteArray := fun _ _ => []
theorem New_ok (Kp : Nat → Option Obj) (s r : Int) (h : okNew s r = true) (w : World) (hKp : ∀ j o, Kp j = some o → w.heap[j]? = some o) : Calls Try.prog 8 #[.int .i64 s, .int .i64 r] w fun e w' => ∃ g, e = .returned (.tuple #[.pointer (some ⟨g, 0, none⟩), .int .i64 0]) ∧ Net Kp w w' g s r noBags := by
  unfold okNew at h
  simp at h
  obtain ⟨h1, h2, h3, h4⟩ := h
  have d1 : decide (s < 1) = false := decide_eq_false (by omega)
  have d2 : decide (16 < s) = false := decide_eq_false (by omega)
  have d3 : decide (r < 1) = false := decide_eq_false (by omega)
  have d4 : decide (1000 < r) = false := decide_eq_false (by omega)
  have H := Lib.hid (And.intro h1 (And.intro h2 (And.intro h3 h4)))
  have hmm := @run_makeMap Try.prog
  clear h1 h2 h3 h4
  go_enter Try.func8, Try.ntmps8
  go_wp2
  go_ret2
  obtain ⟨h1, h2, h3, h4⟩ := H.out
  refine ⟨w.heap.size + 1, by simp, ⟨below_alloc (below_alloc (Below.refl _ _) _) _, by omega, h1, h2, h3, h4, w.heap.size, #[], 0, ?_⟩⟩
  refine ⟨?_, ?_, Nat.le_refl _, ⟨by simp, by simp, by simp⟩, by simp, by simp, by intros; rfl, by simp, fun f t => by simp [noBags]; omega, fun f t x hx => by simp [noBags] at hx, fun j o hj => ?_⟩
  · rw [show w.heap.size + 1 = (w.alloc (Obj.map #[] 0)).heap.size by simp]; exact heap_alloc_new _ _
  · exact (Below.heap_alloc _ _ w.heap.size (by simp)).trans (heap_alloc_new _ _)
  · have hlt := blk_lt (hKp j o hj)
    exact ⟨((below_alloc (below_alloc (Below.refl w.heap.size w) _) _).block j hlt).trans (hKp j o hj), by omega, by omega, by simp⟩
/-- Is there a link? -/
def isB (s f t : Int) : Bool := decide (f ≠ t) && (decide (0 ≤ min f t) && decide (max f t < s))
theorem is_nil (f t : Int) (w : World) : Calls Try.prog 23 #[.pointer none, .int .i64 f, .int .i64 t] w fun e w' => e = .returned (.bool false) ∧ w' = w := by
  go_enter Try.func23, Try.ntmps23
  go_wp2
  go_ret
  exact ⟨rfl, rfl⟩
theorem is_calls (g : Nat) (s f t : Int) (w : World) (c0 : w.cell? ⟨g, 0, none⟩ = some (.int .i64 s)) : Calls Try.prog 23 #[.pointer (some ⟨g, 0, none⟩), .int .i64 f, .int .i64 t] w fun e w' => e = .returned (.bool (isB s f t)) ∧ w' = w := by
  unfold isB
  by_cases h1 : f = t
  · have d1 : (f != t) = false := by simpa using h1
    have d2 : decide (f ≠ t) = false := by simpa using h1
    have D2 := Lib.hid d2
    clear d2 h1
    go_enter Try.func23, Try.ntmps23
    go_wp2
    go_ret
    exact ⟨by rw [D2.out]; rfl, rfl⟩
  · have d1 : (f != t) = true := by simpa using h1
    have d2 : decide (f ≠ t) = true := by simpa using h1
    have D2 := Lib.hid d2
    clear d2 h1
    go_enter Try.func23, Try.ntmps23
    go_wp2
    all_goals
      go_ret
      refine ⟨congrArg (fun b => Ending.returned (.bool b)) ?_, rfl⟩
      have hd := D2.out
      rw [decide_eq_true_eq] at hd
      first
        | (show decide (_ < s) = _; rw [Bool.eq_iff_iff]; simp; omega)
        | (show false = _; rw [Bool.eq_iff_iff]; simp; omega)
theorem isB_spec {s f t : Int} (h : isB s f t = true) : f ≠ t ∧ 0 ≤ f ∧ 0 ≤ t ∧ f < s ∧ t < s := by
  unfold isB at h
  simp at h
  obtain ⟨h1, h2, h3⟩ := h
  refine ⟨h1, ?_, ?_, ?_, ?_⟩ <;> omega
theorem wf_of {n : Int} (h0 : 0 ≤ n) (h1 : n ≤ 1000) : Wf n := by unfold Wf; exact WalkArith.wf_i64 (by omega)
theorem isB_wf {s f t : Int} (hs : s ≤ 16) (h : isB s f t = true) : Wf f ∧ Wf t := by
  obtain ⟨_, h1, h2, h3, h4⟩ := isB_spec h
  exact ⟨wf_of h1 (by omega), wf_of h2 (by omega)⟩
theorem Len_nil (f t : Int) (w : World) : Calls Try.prog 21 #[.pointer none, .int .i64 f, .int .i64 t] w fun e w' => e = .returned (.int .i64 0) ∧ w' = w := by
  go_enter Try.func21, Try.ntmps21
  go_wp2
  go_ret
  exact ⟨rfl, rfl⟩
theorem Net.c2 {Kp : Nat → Option Obj} {w0 W : World} {g : Nat} {s r : Int} {B : Int → Int → List ByteArray} (h : Net Kp w0 W g s r B) (f t : Int) (hf : Wf f) (ht : Wf t) : ∃ bm A c, W.cell? ⟨g, 2, none⟩ = some (.map (some bm)) ∧
    (Instr.lookup 46 (.map (some bm)) (.agg #[.int .i64 f, .int .i64 t]) false).run Try.prog W = .ok (.slice A (B f t).length c) W ∧ W.ownsRow w0.heap.size 9 1 (.slice A (B f t).length c) (B f t).length (pw_strs (B f t)) := by
  obtain ⟨bm, es, ck, hN⟩ := h.ex
  obtain ⟨v, h1, h2⟩ := hN.look f t hf ht
  obtain ⟨A, c, rfl⟩ := own_slice h2
  exact ⟨bm, A, c, by rw [blk_cell hN.g]; rfl, h1, h2⟩
theorem Len_calls {Kp : Nat → Option Obj} {w0 W : World} {g : Nat} {s r : Int} {B : Int → Int → List ByteArray} (h : Net Kp w0 W g s r B) (f t : Int) (hf : Wf f) (ht : Wf t) :
    Calls Try.prog 21 #[.pointer (some ⟨g, 0, none⟩), .int .i64 f, .int .i64 t] W fun e w' => e = .returned (.int .i64 ((B f t).length : Nat)) ∧ w' = W := by
  obtain ⟨bm, A, c, h2, hl, _⟩ := Net.c2 h f t hf ht
  clear h
  generalize (B f t).length = n at hl ⊢
  go_enter Try.func21, Try.ntmps21
  go_wp2
  go_ret
  exact ⟨rfl, rfl⟩
def hasB (s f t i : Int) (n : Nat) : Bool := isB s f t && (decide (0 ≤ i) && decide (i < (n : Int)))
theorem has_nil (f t i : Int) (w : World) : Calls Try.prog 25 #[.pointer none, .int .i64 f, .int .i64 t, .int .i64 i] w fun e w' => e = .returned (.bool false) ∧ w' = w := by
  go_enter Try.func25, Try.ntmps25
  go_wp2_with (go_at_call 23; refine (is_nil _ _ _).mono ?_; rintro e w1 ⟨rfl, rfl⟩)
  go_ret
  exact ⟨rfl, rfl⟩
theorem has_calls {Kp : Nat → Option Obj} {w0 W : World} {g : Nat} {s r : Int} {B : Int → Int → List ByteArray} (h : Net Kp w0 W g s r B) (f t i : Int) :
    Calls Try.prog 25 #[.pointer (some ⟨g, 0, none⟩), .int .i64 f, .int .i64 t, .int .i64 i] W fun e w' => e = .returned (.bool (hasB s f t i (B f t).length)) ∧ w' = W := by
  have c0 := h.c0
  unfold hasB
  cases hi : isB s f t with
  | false =>
    have H := is_calls g s f t W c0
    rw [hi] at H
    clear h hi c0
    go_enter Try.func25, Try.ntmps25
    go_wp2_with (go_at_call 23; refine H.mono ?_; rintro e w1 ⟨rfl, rfl⟩)
    go_ret
    exact ⟨rfl, rfl⟩
  | true =>
    obtain ⟨hf, ht⟩ := isB_wf h.s1 hi
    obtain ⟨bm, A, c, h2, hl, _⟩ := Net.c2 h f t hf ht
    have H := is_calls g s f t W c0
    rw [hi] at H
    clear h hi c0 hf ht
    generalize (B f t).length = n at hl ⊢
    by_cases h0 : 0 ≤ i
    · have d0 : decide (0 ≤ i) = true := decide_eq_true h0
      go_enter Try.func25, Try.ntmps25
      go_wp2_with (go_at_call 23; refine H.mono ?_; rintro e w1 ⟨rfl, rfl⟩)
      go_ret
      exact ⟨by simp [d0], rfl⟩
    · have d0 : decide (0 ≤ i) = false := decide_eq_false h0
      go_enter Try.func25, Try.ntmps25
      go_wp2_with (go_at_call 23; refine H.mono ?_; rintro e w1 ⟨rfl, rfl⟩)
      go_ret
      exact ⟨by simp [d0], rfl⟩
end Go.Proofs.Ytmbaagaeobcmaaa.NcK

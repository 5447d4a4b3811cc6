-- Written by a program of this session (wip/tools/pp.py) out of the translation. Not trusted: Lean checks it.
import Derived.Test.YtoidlaonolkgkaaDoorPx0
import Derived.Test.YtoidlaonolkgkaaDoorPx3
import Derived.Test.YtoidlaonolkgkaaDoorGiv
namespace Go.Proofs.YtoidlaonolkgkaaDoor.P
open Go.RowKit Go.Proofs.YtoidlaonolkgkaaDoorW.PrintWords Go.Proofs.YtoidlaonolkgkaaDoorW.PrintLast Go.Proofs.YtoidlaonolkgkaaDoorW.PrintMore
open Go.Proofs.YtoidlaonolkgkaaDoor.Giv
attribute [local go_sem] max2_int min2_int max_two min_two max_three min_three max_four min_four   -- for this text's walks alone
set_option linter.unusedVariables false
set_option linter.unusedSimpArgs false

theorem a_ (l : List Value) (i : Nat) (a : Value) : l.toArray.setIfInBounds i a = (l.set i a).toArray := List.setIfInBounds_toArray l i a
theorem b_ (l : List Value) (a b : Value) : (a :: l).set 0 b = b :: l := List.set_cons_zero
theorem c_ (l : List Value) (n : Nat) (a b : Value) : (a :: l).set (n + 1) b = a :: l.set n b := List.set_cons_succ
/-! ### duetref21_Check: function 18 -/
mutual
def duetref21_Check.j0 : Nat → Int → Bool → List (List (S47)) → Int → Int → Option (Int)
 | 0, _, _, _, _, _ => none
 | k + 1, x1, x51, x212000, x212001, x212002 => if x51 = true then (some 1) else (duetref21_Check.l0 k x1 0 x212000 x212001 x212002)
def duetref21_Check.l0 : Nat → Int → Int → List (List (S47)) → Int → Int → Option (Int)
 | 0, _, _, _, _, _ => none
 | k + 1, x1, x5, x212000, x212001, x212002 => if x5 < (x212000.length : Int) then (if 0 ≤ x5 then (if ((rd_L6 x212000 x5).length : Int) = x1 then (duetref21_Check.l1 k x1 x5 (rd_L6 x212000 x5) 0 x212000 x212001 x212002) else (some 1)) else (none)) else (some 0)
def duetref21_Check.l1 : Nat → Int → Int → List (S47) → Int → List (List (S47)) → Int → Int → Option (Int)
 | 0, _, _, _, _, _, _, _ => none
 | k + 1, x1, x5, x6, x7, x212000, x212001, x212002 => if x7 < x1 then (if 0 ≤ x7 then (if x7 < (x6.length : Int) then ((duetref20_Width.f k ((rd_T47 x6 x7).f0)).bind fun t214 => (if ((rd_T47 x6 x7).f0) = 0 then (duetref21_Check.j3 k x1 x5 x6 x7 ((rd_T47 x6 x7).f0) t214 false x212000 x212001 x212002) else (if ((rd_T47 x6 x7).f0) = (-1) then (duetref21_Check.j3 k x1 x5 x6 x7 ((rd_T47 x6 x7).f0) t214 false x212000 x212001 x212002) else (duetref21_Check.j3 k x1 x5 x6 x7 ((rd_T47 x6 x7).f0) t214 (t214 == 0) x212000 x212001 x212002)))) else (none)) else (none)) else (duetref21_Check.l0 k x1 (wrap64 (x5 + 1)) x212000 x212001 x212002)
def duetref21_Check.j3 : Nat → Int → Int → List (S47) → Int → Int → Int → Bool → List (List (S47)) → Int → Int → Option (Int)
 | 0, _, _, _, _, _, _, _, _, _, _ => none
 | k + 1, x1, x5, x6, x7, x8, x9, x89, x212000, x212001, x212002 => if x89 = true then (some 1) else (if x8 = (-1) then (duetref21_Check.j4 k x1 x5 x6 x7 x8 false x212000 x212001 x212002) else (if x9 = 2 then (if (wrap64 (x7 + 1)) = x1 then (duetref21_Check.j4 k x1 x5 x6 x7 x8 true x212000 x212001 x212002) else (if 0 ≤ (wrap64 (x7 + 1)) then (if (wrap64 (x7 + 1)) < (x6.length : Int) then (duetref21_Check.j4 k x1 x5 x6 x7 x8 (((rd_T47 x6 (wrap64 (x7 + 1))).f0) != (-1)) x212000 x212001 x212002) else (none)) else (none))) else (duetref21_Check.j4 k x1 x5 x6 x7 x8 false x212000 x212001 x212002)))
def duetref21_Check.j4 : Nat → Int → Int → List (S47) → Int → Int → Bool → List (List (S47)) → Int → Int → Option (Int)
 | 0, _, _, _, _, _, _, _, _, _ => none
 | k + 1, x1, x5, x6, x7, x8, x110, x212000, x212001, x212002 => if x110 = true then (some 1) else (if x8 = (-1) then (if x7 = 0 then (some 1) else (if 0 ≤ (wrap64 (x7 - 1)) then (if (wrap64 (x7 - 1)) < (x6.length : Int) then (if ((rd_T47 x6 (wrap64 (x7 - 1))).f0) = (-1) then (some 1) else ((duetref20_Width.f k ((rd_T47 x6 (wrap64 (x7 - 1))).f0)).bind fun t218 => (if t218 = 2 then (if 0 ≤ x7 then (if x7 < (x6.length : Int) then (if (((rd_T47 x6 (wrap64 (x7 - 1))).f1) != ((rd_T47 x6 x7).f1)) = true then (some 1) else (duetref21_Check.l1 k x1 x5 x6 (wrap64 (x7 + 1)) x212000 x212001 x212002)) else (none)) else (none)) else (some 1)))) else (none)) else (none))) else (duetref21_Check.l1 k x1 x5 x6 (wrap64 (x7 + 1)) x212000 x212001 x212002))
end
def duetref21_Check.f (k : Nat) (l0_0 : List (List (S47))) (a0_1 : Int) (a0_2 : Int) (a1 : Int) : Option (Int) := if a1 < 2 then (duetref21_Check.j0 k a1 true l0_0 a0_1 a0_2) else (if a1 > 512 then (duetref21_Check.j0 k a1 true l0_0 a0_1 a0_2) else (if (l0_0.length : Int) < 1 then (duetref21_Check.j0 k a1 true l0_0 a0_1 a0_2) else (if (l0_0.length : Int) > 200 then (duetref21_Check.j0 k a1 true l0_0 a0_1 a0_2) else (if a0_1 < 0 then (duetref21_Check.j0 k a1 true l0_0 a0_1 a0_2) else (if a0_1 ≥ (l0_0.length : Int) then (duetref21_Check.j0 k a1 true l0_0 a0_1 a0_2) else (if a0_2 < 0 then (duetref21_Check.j0 k a1 true l0_0 a0_1 a0_2) else (duetref21_Check.j0 k a1 (decide (a0_2 ≥ a1)) l0_0 a0_1 a0_2)))))))
theorem duetref21_Check.mono_l : ∀ k, (∀ y0 y1 y2 y3 y4, LeO (duetref21_Check.j0 k y0 y1 y2 y3 y4) (duetref21_Check.j0 (k + 1) y0 y1 y2 y3 y4)) ∧ (∀ y0 y1 y2 y3 y4, LeO (duetref21_Check.l0 k y0 y1 y2 y3 y4) (duetref21_Check.l0 (k + 1) y0 y1 y2 y3 y4)) ∧ (∀ y0 y1 y2 y3 y4 y5 y6, LeO (duetref21_Check.l1 k y0 y1 y2 y3 y4 y5 y6) (duetref21_Check.l1 (k + 1) y0 y1 y2 y3 y4 y5 y6)) ∧ (∀ y0 y1 y2 y3 y4 y5 y6 y7 y8 y9, LeO (duetref21_Check.j3 k y0 y1 y2 y3 y4 y5 y6 y7 y8 y9) (duetref21_Check.j3 (k + 1) y0 y1 y2 y3 y4 y5 y6 y7 y8 y9)) ∧ (∀ y0 y1 y2 y3 y4 y5 y6 y7 y8, LeO (duetref21_Check.j4 k y0 y1 y2 y3 y4 y5 y6 y7 y8) (duetref21_Check.j4 (k + 1) y0 y1 y2 y3 y4 y5 y6 y7 y8))
 | 0 => ⟨fun _ _ _ _ _ r h => by simp [duetref21_Check.j0] at h, fun _ _ _ _ _ r h => by simp [duetref21_Check.l0] at h, fun _ _ _ _ _ _ _ r h => by simp [duetref21_Check.l1] at h, fun _ _ _ _ _ _ _ _ _ _ r h => by simp [duetref21_Check.j3] at h, fun _ _ _ _ _ _ _ _ _ r h => by simp [duetref21_Check.j4] at h⟩
 | k + 1 => by
  obtain ⟨ih0, ih1, ih2, ih3, ih4⟩ := duetref21_Check.mono_l k
  refine ⟨?_, ?_, ?_, ?_, ?_⟩
  ·intro y0 y1 y2 y3 y4
   unfold duetref21_Check.j0
   repeat' first
   | (with_reducible exact ih0 _ _ _ _ _)
   | (with_reducible exact ih1 _ _ _ _ _)
   | (with_reducible exact ih2 _ _ _ _ _ _ _)
   | (with_reducible exact ih3 _ _ _ _ _ _ _ _ _ _)
   | (with_reducible exact ih4 _ _ _ _ _ _ _ _ _)
   | (with_reducible exact duetref20_Width.mono _ _)
   | (with_reducible exact LeO.refl _)
   | (with_reducible exact LeO.none _)
   | (with_reducible refine LeO.ite ?_ ?_)
   | (with_reducible refine LeO.bind ?_ (fun _ => ?_))
   | exact ih0 _ _ _ _ _
   | exact ih1 _ _ _ _ _
   | exact ih2 _ _ _ _ _ _ _
   | exact ih3 _ _ _ _ _ _ _ _ _ _
   | exact ih4 _ _ _ _ _ _ _ _ _
   | exact duetref20_Width.mono _ _
   | exact LeO.none _
   | refine LeO.ite ?_ ?_
   | refine LeO.bind ?_ (fun _ => ?_)
  ·intro y0 y1 y2 y3 y4
   unfold duetref21_Check.l0
   repeat' first
   | (with_reducible exact ih0 _ _ _ _ _)
   | (with_reducible exact ih1 _ _ _ _ _)
   | (with_reducible exact ih2 _ _ _ _ _ _ _)
   | (with_reducible exact ih3 _ _ _ _ _ _ _ _ _ _)
   | (with_reducible exact ih4 _ _ _ _ _ _ _ _ _)
   | (with_reducible exact duetref20_Width.mono _ _)
   | (with_reducible exact LeO.refl _)
   | (with_reducible exact LeO.none _)
   | (with_reducible refine LeO.ite ?_ ?_)
   | (with_reducible refine LeO.bind ?_ (fun _ => ?_))
   | exact ih0 _ _ _ _ _
   | exact ih1 _ _ _ _ _
   | exact ih2 _ _ _ _ _ _ _
   | exact ih3 _ _ _ _ _ _ _ _ _ _
   | exact ih4 _ _ _ _ _ _ _ _ _
   | exact duetref20_Width.mono _ _
   | exact LeO.none _
   | refine LeO.ite ?_ ?_
   | refine LeO.bind ?_ (fun _ => ?_)
  ·intro y0 y1 y2 y3 y4 y5 y6
   unfold duetref21_Check.l1
   repeat' first
   | (with_reducible exact ih0 _ _ _ _ _)
   | (with_reducible exact ih1 _ _ _ _ _)
   | (with_reducible exact ih2 _ _ _ _ _ _ _)
   | (with_reducible exact ih3 _ _ _ _ _ _ _ _ _ _)
   | (with_reducible exact ih4 _ _ _ _ _ _ _ _ _)
   | (with_reducible exact duetref20_Width.mono _ _)
   | (with_reducible exact LeO.refl _)
   | (with_reducible exact LeO.none _)
   | (with_reducible refine LeO.ite ?_ ?_)
   | (with_reducible refine LeO.bind ?_ (fun _ => ?_))
   | exact ih0 _ _ _ _ _
   | exact ih1 _ _ _ _ _
   | exact ih2 _ _ _ _ _ _ _
   | exact ih3 _ _ _ _ _ _ _ _ _ _
   | exact ih4 _ _ _ _ _ _ _ _ _
   | exact duetref20_Width.mono _ _
   | exact LeO.none _
   | refine LeO.ite ?_ ?_
   | refine LeO.bind ?_ (fun _ => ?_)
  ·intro y0 y1 y2 y3 y4 y5 y6 y7 y8 y9
   unfold duetref21_Check.j3
   repeat' first
   | (with_reducible exact ih0 _ _ _ _ _)
   | (with_reducible exact ih1 _ _ _ _ _)
   | (with_reducible exact ih2 _ _ _ _ _ _ _)
   | (with_reducible exact ih3 _ _ _ _ _ _ _ _ _ _)
   | (with_reducible exact ih4 _ _ _ _ _ _ _ _ _)
   | (with_reducible exact duetref20_Width.mono _ _)
   | (with_reducible exact LeO.refl _)
   | (with_reducible exact LeO.none _)
   | (with_reducible refine LeO.ite ?_ ?_)
   | (with_reducible refine LeO.bind ?_ (fun _ => ?_))
   | exact ih0 _ _ _ _ _
   | exact ih1 _ _ _ _ _
   | exact ih2 _ _ _ _ _ _ _
   | exact ih3 _ _ _ _ _ _ _ _ _ _
   | exact ih4 _ _ _ _ _ _ _ _ _
   | exact duetref20_Width.mono _ _
   | exact LeO.none _
   | refine LeO.ite ?_ ?_
   | refine LeO.bind ?_ (fun _ => ?_)
  ·intro y0 y1 y2 y3 y4 y5 y6 y7 y8
   unfold duetref21_Check.j4
   repeat' first
   | (with_reducible exact ih0 _ _ _ _ _)
   | (with_reducible exact ih1 _ _ _ _ _)
   | (with_reducible exact ih2 _ _ _ _ _ _ _)
   | (with_reducible exact ih3 _ _ _ _ _ _ _ _ _ _)
   | (with_reducible exact ih4 _ _ _ _ _ _ _ _ _)
   | (with_reducible exact duetref20_Width.mono _ _)
   | (with_reducible exact LeO.refl _)
   | (with_reducible exact LeO.none _)
   | (with_reducible refine LeO.ite ?_ ?_)
   | (with_reducible refine LeO.bind ?_ (fun _ => ?_))
   | exact ih0 _ _ _ _ _
   | exact ih1 _ _ _ _ _
   | exact ih2 _ _ _ _ _ _ _
   | exact ih3 _ _ _ _ _ _ _ _ _ _
   | exact ih4 _ _ _ _ _ _ _ _ _
   | exact duetref20_Width.mono _ _
   | exact LeO.none _
   | refine LeO.ite ?_ ?_
   | refine LeO.bind ?_ (fun _ => ?_)
theorem duetref21_Check.mono : ∀ a0 a1 a2 a3 k, LeO (duetref21_Check.f k a0 a1 a2 a3) (duetref21_Check.f (k + 1) a0 a1 a2 a3) := by
 intro a0 a1 a2 a3 k
 obtain ⟨ih0, ih1, ih2, ih3, ih4⟩ := duetref21_Check.mono_l k
 unfold duetref21_Check.f
 repeat' first
   | (with_reducible exact ih0 _ _ _ _ _)
   | (with_reducible exact ih1 _ _ _ _ _)
   | (with_reducible exact ih2 _ _ _ _ _ _ _)
   | (with_reducible exact ih3 _ _ _ _ _ _ _ _ _ _)
   | (with_reducible exact ih4 _ _ _ _ _ _ _ _ _)
   | (with_reducible exact duetref20_Width.mono _ _)
   | (with_reducible exact LeO.refl _)
   | (with_reducible exact LeO.none _)
   | (with_reducible refine LeO.ite ?_ ?_)
   | (with_reducible refine LeO.bind ?_ (fun _ => ?_))
   | exact ih0 _ _ _ _ _
   | exact ih1 _ _ _ _ _
   | exact ih2 _ _ _ _ _ _ _
   | exact ih3 _ _ _ _ _ _ _ _ _ _
   | exact ih4 _ _ _ _ _ _ _ _ _
   | exact duetref20_Width.mono _ _
   | exact LeO.none _
   | refine LeO.ite ?_ ?_
   | refine LeO.bind ?_ (fun _ => ?_)
def duetref21_Check.T18 : Bool × List (List Nat × List Nat) := (true, [([], []), ([0], [0]), ([1], [1]), ([2], [2]), ([3,2], [2,3]), ([4,2,2], [2,4]), ([5], [5]), ([5], [5]), ([7,5], [5,7]), ([6,8,5], [5,6,8]), ([9,5], [5,9]), ([10,5], [5,10]), ([11,5], [5,11]), ([5,12,2], [2,5,12]), ([13,5,2], [2,13]), ([14], [14]), ([14], [14]), ([16,14], [14,16]), ([15,17,14], [14,15,17]), ([18,14], [14,18]), ([19,14], [14,19]), ([20,14,14], [14,20]), ([21,14], [14,21]), ([14,22,2], [2,14,22]), ([23,21,2], [2,23]), ([24], [24]), ([24], [24]), ([26,24], [24,26]), ([25,27,24], [24,25,27]), ([28,24], [24,28]), ([29,24], [24,29]), ([24], [24]), ([24], [24]), ([31,32,24], [24,31,32]), ([33,24], [24,33]), ([34,24], [24,34]), ([30,35,24], [24,30,35]), ([24,36,2], [2,24,36]), ([2,37], [2,37])])
def duetref21_Check.B18 : List Nat := [0,1,3,7,15,31,63,63,191,511,1023,2047,4095,8191,16383,32767,32767,98303,262143,524287,1048575,2097151,4194303,8388607,16777215,33554431,33554431,100663295,268435455,536870911,1073741823,33554431,33554431,6476005375,15065939967,32245809151,68719476735,137438953471,274877906943]
theorem duetref21_Check.tab18 : rtab .any (opsOf Tryd.f18 18) = duetref21_Check.T18 := by kernel_rfl
theorem duetref21_Check.bits18 : waitsOk duetref21_Check.T18.2 duetref21_Check.B18 = true := by kernel_rfl
set_option maxHeartbeats 8000000 in
set_option maxRecDepth 100000 in
theorem duetref21_Check.calls (k : Nat) (A0_0 : Option Addr) (c0_0 : Nat) (l0_0 : List (List (S47))) (a0_1 : Int) (a0_2 : Int) (a1 : Int) (r : Int) (w : World) (hr0_0 : Kd.C (Kd.slice 47 k47) w A0_0 l0_0.length l0_0) (hc0_0 : l0_0.length ≤ c0_0) (h : duetref21_Check.f k l0_0 a0_1 a0_2 a1 = some r) :
  Calls Tryd.prog 18 #[.agg #[.slice A0_0 l0_0.length c0_0, .int .i64 a0_1, .int .i64 a0_2], .int .i64 a1] w fun e w' => e = .returned (.int .i64 r) ∧ Below w.heap.size w w' := by
 have hu32 := Tryd.underlying32
 have HR0_0 := Aside0.mk hr0_0
 have HC0_0 := Aside0.mk hc0_0
 clear hr0_0 hc0_0
 have HB := Aside0.mk (Below.refl w.heap.size w)
 have H : (if a1 < 2 then (duetref21_Check.j0 k a1 true l0_0 a0_1 a0_2) else (if a1 > 512 then (duetref21_Check.j0 k a1 true l0_0 a0_1 a0_2) else (if (l0_0.length : Int) < 1 then (duetref21_Check.j0 k a1 true l0_0 a0_1 a0_2) else (if (l0_0.length : Int) > 200 then (duetref21_Check.j0 k a1 true l0_0 a0_1 a0_2) else (if a0_1 < 0 then (duetref21_Check.j0 k a1 true l0_0 a0_1 a0_2) else (if a0_1 ≥ (l0_0.length : Int) then (duetref21_Check.j0 k a1 true l0_0 a0_1 a0_2) else (if a0_2 < 0 then (duetref21_Check.j0 k a1 true l0_0 a0_1 a0_2) else (duetref21_Check.j0 k a1 (decide (a0_2 ≥ a1)) l0_0 a0_1 a0_2)))))))) = some r := h
 clear h
 have HC3 := Aside0.mk H
 clear H
 go_enter Tryd.func18, Tryd.ntmps18
 go_upto_region 1 with (first | ((with_reducible refine gate_dst (N := 2) rfl ?_); (try (refine gate_guard (by rfl) ?_; dsimp only)); refine box_event ?hg (N := 2) ?hd (cs := #[.slice A0_0 l0_0.length c0_0, .int .i64 a0_1, .int .i64 a0_2]) (t := 32) ?hr ?_; (case hd => rfl); (case hg => rfl); (case hr => first | (go_simp; done) | (go_simp; rfl)); intro gb211 hg w4 hbox hb; have n0_ := Aside0.mk (below_step (by repeat (first | (with_reducible first | exact HB.out | apply below_alloc | apply pw_below_drewN | apply below_drew1) | exact HB.out)) hb); have n1_ := Aside0.mk (hbox); have n2_ := Aside0.mk ((by rw [hg]; exact (below_size (by repeat (first | (with_reducible first | exact HB.out | apply below_alloc | apply pw_below_drewN | apply below_drew1) | exact HB.out))) : w.heap.size ≤ gb211)); have n3_ := Aside0.mk ((by rw [hg]; exact (below_size (by repeat (first | (with_reducible first | exact HB.out | apply below_alloc | apply pw_below_drewN | apply below_drew1) | exact HB.out))) : w.heap.size ≤ gb211)); clear HB; have HB := n0_; have BK211 := n1_; have GW211 := n2_; have GE211 := n3_; clear n0_ n1_ n2_ n3_; clear hb hbox hg))
 (try simp only [Act.put, List.setIfInBounds_toArray, List.set_cons_zero, List.set_cons_succ])
 go_cut [51] (fun v51 wc => ∃ (kq : Nat) (x51_2 : Bool), v51 = .bool x51_2 ∧ Aside0 (duetref21_Check.j0 kq a1 x51_2 l0_0 a0_1 a0_2 = some r) ∧ Aside0 (kq ≤ k) ∧ Aside0 (wc.heap[gb211]? = some (.cells #[(.slice A0_0 l0_0.length c0_0), .int .i64 a0_1, .int .i64 a0_2] 32 (0,0))) ∧ Aside0 (Below w.heap.size w wc))
 case first =>
  have H := HC3.out
  clear HC3
  by_cases c5 : a1 < 2
  ·rw [if_pos c5] at H
   have c5b0 : decide (a1 < 2) = true := decide_eq_true c5
   clear c5
   (first | rw [c5b0] | (simp only [i64_w, i32_w]; rw [c5b0]) | skip)
   have H' := Aside0.mk H
   clear H
   go_wp2
   go_meet
   case rel => exact ⟨_, (true), (by first | rfl | (simp; done) | (simp [*]; done)), H', ⟨by first | omega | exact Nat.le_refl _⟩, ⟨by (with_reducible repeat (first | refine blk_drewN ?_ _ | refine blk_drew ?_ | refine blk_alloc ?_ _)); exact BK211.out⟩, ⟨by repeat (first | (with_reducible first | exact HB.out | apply below_alloc | apply pw_below_drewN | apply below_drew1 | refine below_set ?_ GE211.out) | exact HB.out)⟩⟩
  ·rw [if_neg c5] at H
   have c5b0 : decide (a1 < 2) = false := decide_eq_false c5
   clear c5
   (first | rw [c5b0] | (simp only [i64_w, i32_w]; rw [c5b0]) | skip)
   by_cases c6 : a1 > 512
   ·rw [if_pos c6] at H
    have c6b0 : decide (512 < a1) = true := decide_eq_true c6
    clear c6
    have H' := Aside0.mk H
    clear H
    go_wp2
    go_meet
    case rel => exact ⟨_, (true), (by first | rfl | (simp; done) | (simp [*]; done)), H', ⟨by first | omega | exact Nat.le_refl _⟩, ⟨by (with_reducible repeat (first | refine blk_drewN ?_ _ | refine blk_drew ?_ | refine blk_alloc ?_ _)); exact BK211.out⟩, ⟨by repeat (first | (with_reducible first | exact HB.out | apply below_alloc | apply pw_below_drewN | apply below_drew1 | refine below_set ?_ GE211.out) | exact HB.out)⟩⟩
   ·rw [if_neg c6] at H
    have c6b0 : decide (512 < a1) = false := decide_eq_false c6
    clear c6
    by_cases c7 : (l0_0.length : Int) < 1
    ·rw [if_pos c7] at H
     have c7b0 : decide ((l0_0.length : Int) < 1) = true := decide_eq_true c7
     have c7b1 : decide (l0_0.length < 1) = true := decide_eq_true (by omega)
     clear c7
     have H' := Aside0.mk H
     clear H
     have hcz8_0 : w4.cell? ⟨gb211,0, none⟩ = some (.slice A0_0 l0_0.length c0_0) := (blk_cell BK211.out 0).trans rfl
     have hcz8_1 : w4.cell? ⟨gb211,1, none⟩ = some (.int .i64 a0_1) := (blk_cell BK211.out 1).trans rfl
     have hcz8_2 : w4.cell? ⟨gb211,2, none⟩ = some (.int .i64 a0_2) := (blk_cell BK211.out 2).trans rfl
     have hfz8_0 := blk_frozen BK211.out 0
     have hfz8_1 := blk_frozen BK211.out 1
     have hfz8_2 := blk_frozen BK211.out 2
     go_wp2
     go_meet
     case rel => exact ⟨_, (true), (by first | rfl | (simp; done) | (simp [*]; done)), H', ⟨by first | omega | exact Nat.le_refl _⟩, ⟨by (with_reducible repeat (first | refine blk_drewN ?_ _ | refine blk_drew ?_ | refine blk_alloc ?_ _)); exact BK211.out⟩, ⟨by repeat (first | (with_reducible first | exact HB.out | apply below_alloc | apply pw_below_drewN | apply below_drew1 | refine below_set ?_ GE211.out) | exact HB.out)⟩⟩
    ·rw [if_neg c7] at H
     have c7b0 : decide ((l0_0.length : Int) < 1) = false := decide_eq_false c7
     have c7b1 : decide (l0_0.length < 1) = false := decide_eq_false (by omega)
     clear c7
     by_cases c9 : (l0_0.length : Int) > 200
     ·rw [if_pos c9] at H
      have c9b0 : decide (200 < (l0_0.length : Int)) = true := decide_eq_true c9
      have c9b1 : decide (200 < l0_0.length) = true := decide_eq_true (by omega)
      clear c9
      have H' := Aside0.mk H
      clear H
      have hcz10_0 : w4.cell? ⟨gb211,0, none⟩ = some (.slice A0_0 l0_0.length c0_0) := (blk_cell BK211.out 0).trans rfl
      have hcz10_1 : w4.cell? ⟨gb211,1, none⟩ = some (.int .i64 a0_1) := (blk_cell BK211.out 1).trans rfl
      have hcz10_2 : w4.cell? ⟨gb211,2, none⟩ = some (.int .i64 a0_2) := (blk_cell BK211.out 2).trans rfl
      have hfz10_0 := blk_frozen BK211.out 0
      have hfz10_1 := blk_frozen BK211.out 1
      have hfz10_2 := blk_frozen BK211.out 2
      go_wp2
      go_meet
      case rel => exact ⟨_, (true), (by first | rfl | (simp; done) | (simp [*]; done)), H', ⟨by first | omega | exact Nat.le_refl _⟩, ⟨by (with_reducible repeat (first | refine blk_drewN ?_ _ | refine blk_drew ?_ | refine blk_alloc ?_ _)); exact BK211.out⟩, ⟨by repeat (first | (with_reducible first | exact HB.out | apply below_alloc | apply pw_below_drewN | apply below_drew1 | refine below_set ?_ GE211.out) | exact HB.out)⟩⟩
     ·rw [if_neg c9] at H
      have c9b0 : decide (200 < (l0_0.length : Int)) = false := decide_eq_false c9
      have c9b1 : decide (200 < l0_0.length) = false := decide_eq_false (by omega)
      clear c9
      by_cases c11 : a0_1 < 0
      ·rw [if_pos c11] at H
       have c11b0 : decide (a0_1 < 0) = true := decide_eq_true c11
       clear c11
       have H' := Aside0.mk H
       clear H
       have hcz12_0 : w4.cell? ⟨gb211,0, none⟩ = some (.slice A0_0 l0_0.length c0_0) := (blk_cell BK211.out 0).trans rfl
       have hcz12_1 : w4.cell? ⟨gb211,1, none⟩ = some (.int .i64 a0_1) := (blk_cell BK211.out 1).trans rfl
       have hcz12_2 : w4.cell? ⟨gb211,2, none⟩ = some (.int .i64 a0_2) := (blk_cell BK211.out 2).trans rfl
       have hfz12_0 := blk_frozen BK211.out 0
       have hfz12_1 := blk_frozen BK211.out 1
       have hfz12_2 := blk_frozen BK211.out 2
       go_wp2
       go_meet
       case rel => exact ⟨_, (true), (by first | rfl | (simp; done) | (simp [*]; done)), H', ⟨by first | omega | exact Nat.le_refl _⟩, ⟨by (with_reducible repeat (first | refine blk_drewN ?_ _ | refine blk_drew ?_ | refine blk_alloc ?_ _)); exact BK211.out⟩, ⟨by repeat (first | (with_reducible first | exact HB.out | apply below_alloc | apply pw_below_drewN | apply below_drew1 | refine below_set ?_ GE211.out) | exact HB.out)⟩⟩
      ·rw [if_neg c11] at H
       have c11b0 : decide (a0_1 < 0) = false := decide_eq_false c11
       clear c11
       by_cases c13 : a0_1 ≥ (l0_0.length : Int)
       ·rw [if_pos c13] at H
        have c13b0 : decide ((l0_0.length : Int) ≤ a0_1) = true := decide_eq_true c13
        clear c13
        have H' := Aside0.mk H
        clear H
        have hcz14_0 : w4.cell? ⟨gb211,0, none⟩ = some (.slice A0_0 l0_0.length c0_0) := (blk_cell BK211.out 0).trans rfl
        have hcz14_1 : w4.cell? ⟨gb211,1, none⟩ = some (.int .i64 a0_1) := (blk_cell BK211.out 1).trans rfl
        have hcz14_2 : w4.cell? ⟨gb211,2, none⟩ = some (.int .i64 a0_2) := (blk_cell BK211.out 2).trans rfl
        have hfz14_0 := blk_frozen BK211.out 0
        have hfz14_1 := blk_frozen BK211.out 1
        have hfz14_2 := blk_frozen BK211.out 2
        go_wp2
        go_meet
        case rel => exact ⟨_, (true), (by first | rfl | (simp; done) | (simp [*]; done)), H', ⟨by first | omega | exact Nat.le_refl _⟩, ⟨by (with_reducible repeat (first | refine blk_drewN ?_ _ | refine blk_drew ?_ | refine blk_alloc ?_ _)); exact BK211.out⟩, ⟨by repeat (first | (with_reducible first | exact HB.out | apply below_alloc | apply pw_below_drewN | apply below_drew1 | refine below_set ?_ GE211.out) | exact HB.out)⟩⟩
       ·rw [if_neg c13] at H
        have c13b0 : decide ((l0_0.length : Int) ≤ a0_1) = false := decide_eq_false c13
        clear c13
        by_cases c15 : a0_2 < 0
        ·rw [if_pos c15] at H
         have c15b0 : decide (a0_2 < 0) = true := decide_eq_true c15
         clear c15
         have H' := Aside0.mk H
         clear H
         have hcz16_0 : w4.cell? ⟨gb211,0, none⟩ = some (.slice A0_0 l0_0.length c0_0) := (blk_cell BK211.out 0).trans rfl
         have hcz16_1 : w4.cell? ⟨gb211,1, none⟩ = some (.int .i64 a0_1) := (blk_cell BK211.out 1).trans rfl
         have hcz16_2 : w4.cell? ⟨gb211,2, none⟩ = some (.int .i64 a0_2) := (blk_cell BK211.out 2).trans rfl
         have hfz16_0 := blk_frozen BK211.out 0
         have hfz16_1 := blk_frozen BK211.out 1
         have hfz16_2 := blk_frozen BK211.out 2
         go_wp2
         go_meet
         case rel => exact ⟨_, (true), (by first | rfl | (simp; done) | (simp [*]; done)), H', ⟨by first | omega | exact Nat.le_refl _⟩, ⟨by (with_reducible repeat (first | refine blk_drewN ?_ _ | refine blk_drew ?_ | refine blk_alloc ?_ _)); exact BK211.out⟩, ⟨by repeat (first | (with_reducible first | exact HB.out | apply below_alloc | apply pw_below_drewN | apply below_drew1 | refine below_set ?_ GE211.out) | exact HB.out)⟩⟩
        ·rw [if_neg c15] at H
         have c15b0 : decide (a0_2 < 0) = false := decide_eq_false c15
         clear c15
         have H' := Aside0.mk H
         clear H
         have hcz17_0 : w4.cell? ⟨gb211,0, none⟩ = some (.slice A0_0 l0_0.length c0_0) := (blk_cell BK211.out 0).trans rfl
         have hcz17_1 : w4.cell? ⟨gb211,1, none⟩ = some (.int .i64 a0_1) := (blk_cell BK211.out 1).trans rfl
         have hcz17_2 : w4.cell? ⟨gb211,2, none⟩ = some (.int .i64 a0_2) := (blk_cell BK211.out 2).trans rfl
         have hfz17_0 := blk_frozen BK211.out 0
         have hfz17_1 := blk_frozen BK211.out 1
         have hfz17_2 := blk_frozen BK211.out 2
         go_wp2
         go_meet
         case rel => exact ⟨_, (decide (a0_2 ≥ a1)), (by first | rfl | (simp; done) | (simp [*]; done)), H', ⟨by first | omega | exact Nat.le_refl _⟩, ⟨by (with_reducible repeat (first | refine blk_drewN ?_ _ | refine blk_drew ?_ | refine blk_alloc ?_ _)); exact BK211.out⟩, ⟨by repeat (first | (with_reducible first | exact HB.out | apply below_alloc | apply pw_below_drewN | apply below_drew1 | refine below_set ?_ GE211.out) | exact HB.out)⟩⟩
 case rest =>
  clear HC3
  try clear c1
  try clear p2
  try clear c5
  try clear c5b0
  try clear c6
  try clear c6b0
  try clear c7
  try clear c7b0
  try clear c7b1
  try clear c9
  try clear c9b0
  try clear c9b1
  try clear c11
  try clear c11b0
  try clear c13
  try clear c13b0
  try clear c15
  try clear c15b0
  try clear hcz10_0
  try clear hcz10_1
  try clear hcz10_2
  try clear hcz12_0
  try clear hcz12_1
  try clear hcz12_2
  try clear hcz14_0
  try clear hcz14_1
  try clear hcz14_2
  try clear hcz16_0
  try clear hcz16_1
  try clear hcz16_2
  try clear hcz17_0
  try clear hcz17_1
  try clear hcz17_2
  try clear hcz8_0
  try clear hcz8_1
  try clear hcz8_2
  try clear hfz10_0
  try clear hfz10_1
  try clear hfz10_2
  try clear hfz12_0
  try clear hfz12_1
  try clear hfz12_2
  try clear hfz14_0
  try clear hfz14_1
  try clear hfz14_2
  try clear hfz16_0
  try clear hfz16_1
  try clear hfz16_2
  try clear hfz17_0
  try clear hfz17_1
  try clear hfz17_2
  try clear hfz8_0
  try clear hfz8_1
  try clear hfz8_2
  obtain ⟨kq, x51_2, rfl, HA, HJ2, BK211, HB⟩ := hcut
  cases kq with
  | zero => exact absurd HA.out (by simp [duetref21_Check.j0])
  | succ kj2 =>
   have H := HA.out
   clear HA
   simp only [duetref21_Check.j0] at H
   by_cases c18 : x51_2 = true
   ·subst c18
    have H1 : (some 1) = some r := by rw [if_pos rfl] at H; exact H
    clear H
    have H := H1
    clear H1
    obtain rfl := Option.some.inj H
    go_wp2
    go_ret
    exact ⟨by first | rfl | (simp [errW_none, errW_some] <;> rfl) | (simp [*, errW_none, errW_some] <;> rfl), by repeat (first | (with_reducible first | exact HB.out | apply below_alloc | apply pw_below_drewN | apply below_drew1 | refine below_set ?_ GE211.out) | exact HB.out)⟩
   ·replace c18 := Bool.eq_false_iff.mpr c18
    subst c18
    have H1 : (duetref21_Check.l0 kj2 a1 0 l0_0 a0_1 a0_2) = some r := by rw [if_neg (show ¬ (false = true) by decide)] at H; exact H
    clear H
    have H := H1
    clear H1
    have H' := Aside0.mk H
    clear H
    go_wp2
    go_loopg [5] kj2 (fun kq v5 w' => ∃ (x5_2 : Int), v5 = .int .i64 x5_2 ∧ Aside0 (duetref21_Check.l0 kq a1 x5_2 l0_0 a0_1 a0_2 = some r) ∧ Aside0 (kq ≤ kj2) ∧ Aside0 (w'.heap[gb211]? = some (.cells #[(.slice A0_0 l0_0.length c0_0), .int .i64 a0_1, .int .i64 a0_2] 32 (0,0))) ∧ Aside0 (Below w.heap.size w w'))
    case atStart => exact ⟨(0), (by first | rfl | (simp; done) | (simp [*]; done)), H', ⟨Nat.le_refl _⟩, ⟨by (with_reducible repeat (first | refine blk_drewN ?_ _ | refine blk_drew ?_ | refine blk_alloc ?_ _)); exact BK211.out⟩, ⟨by repeat (first | (with_reducible first | exact HB.out | apply below_alloc | apply pw_below_drewN | apply below_drew1 | refine below_set ?_ GE211.out) | exact HB.out)⟩⟩
    case round =>
     clear H'
     try clear c1
     try clear p2
     try clear c5
     try clear c5b0
     try clear c6
     try clear c6b0
     try clear c7
     try clear c7b0
     try clear c7b1
     try clear c9
     try clear c9b0
     try clear c9b1
     try clear c11
     try clear c11b0
     try clear c13
     try clear c13b0
     try clear c15
     try clear c15b0
     try clear c18
     try clear hcz10_0
     try clear hcz10_1
     try clear hcz10_2
     try clear hcz12_0
     try clear hcz12_1
     try clear hcz12_2
     try clear hcz14_0
     try clear hcz14_1
     try clear hcz14_2
     try clear hcz16_0
     try clear hcz16_1
     try clear hcz16_2
     try clear hcz17_0
     try clear hcz17_1
     try clear hcz17_2
     try clear hcz8_0
     try clear hcz8_1
     try clear hcz8_2
     try clear hfz10_0
     try clear hfz10_1
     try clear hfz10_2
     try clear hfz12_0
     try clear hfz12_1
     try clear hfz12_2
     try clear hfz14_0
     try clear hfz14_1
     try clear hfz14_2
     try clear hfz16_0
     try clear hfz16_1
     try clear hfz16_2
     try clear hfz17_0
     try clear hfz17_1
     try clear hfz17_2
     try clear hfz8_0
     try clear hfz8_1
     try clear hfz8_2
     try clear p2
     obtain ⟨x5_2, rfl, HA, HK2, BK211, HB⟩ := hrel
     cases gk with
     | zero => exact absurd HA.out (by simp [duetref21_Check.l0])
     | succ k2 =>
      have H := HA.out
      clear HA
      simp only [duetref21_Check.l0] at H
      by_cases c19 : x5_2 < (l0_0.length : Int)
      ·rw [if_pos c19] at H
       have c19b0 : decide (x5_2 < (l0_0.length : Int)) = true := decide_eq_true c19
       clear c19
       by_cases c20 : 0 ≤ x5_2
       ·rw [if_pos c20] at H
        have c20b0 : decide (0 ≤ x5_2) = true := decide_eq_true c20
        clear c20
        by_cases c21 : ((rd_L6 l0_0 x5_2).length : Int) = a1
        ·rw [if_pos c21] at H
         have c21b0 : (((rd_L6 l0_0 x5_2).length : Int) == a1) = true := beq_iff_eq.mpr c21
         have c21b1 : (((rd_L6 l0_0 x5_2).length : Int) != a1) = false := bne_eq_false_iff_eq.mpr c21
         clear c21
         have H' := Aside0.mk H
         clear H
         have hcz22_0 : wr.cell? ⟨gb211,0, none⟩ = some (.slice A0_0 l0_0.length c0_0) := (blk_cell BK211.out 0).trans rfl
         have hcz22_1 : wr.cell? ⟨gb211,1, none⟩ = some (.int .i64 a0_1) := (blk_cell BK211.out 1).trans rfl
         have hcz22_2 : wr.cell? ⟨gb211,2, none⟩ = some (.int .i64 a0_2) := (blk_cell BK211.out 2).trans rfl
         have hfz22_0 := blk_frozen BK211.out 0
         have hfz22_1 := blk_frozen BK211.out 1
         have hfz22_2 := blk_frozen BK211.out 2
         have p212 : 0 ≤ (x5_2 : Int) := of_decide_eq_true (by first | (with_reducible assumption) | assumption)
         have q212 : x5_2 < (l0_0.length : Int) := of_decide_eq_true (by first | (with_reducible assumption) | assumption)
         obtain ⟨ad212, A212_0, c212_0, e212, hx212_0, hl212_0, hi212_0⟩ := at_L6 HR0_0.out x5_2 p212 q212
         cases e212
         (try replace hx212_0 := (HB.out.cell (World.block_lt_of_cell? w _ hx212_0)).trans hx212_0)
         have HR212_0 := Aside0.mk hi212_0
         have HC212_0 := Aside0.mk hl212_0
         clear hi212_0 hl212_0
         replace p212 := eq_true p212
         replace q212 := eq_true q212
         go_wp2
         go_loopg [7] k2 (fun kq v7 w' => ∃ (x7_3 : Int), v7 = .int .i64 x7_3 ∧ Aside0 (duetref21_Check.l1 kq a1 x5_2 (rd_L6 l0_0 x5_2) x7_3 l0_0 a0_1 a0_2 = some r) ∧ Aside0 (kq ≤ k2) ∧ Aside0 (w'.heap[gb211]? = some (.cells #[(.slice (some ad212) l0_0.length c0_0), .int .i64 a0_1, .int .i64 a0_2] 32 (0,0))) ∧ Aside0 (Below w.heap.size w w'))
         case atStart => exact ⟨(0), (by first | rfl | (simp; done) | (simp [*]; done)), H', ⟨Nat.le_refl _⟩, ⟨by (with_reducible repeat (first | refine blk_drewN ?_ _ | refine blk_drew ?_ | refine blk_alloc ?_ _)); exact BK211.out⟩, ⟨by repeat (first | (with_reducible first | exact HB.out | apply below_alloc | apply pw_below_drewN | apply below_drew1 | refine below_set ?_ GE211.out) | exact HB.out)⟩⟩
         case round =>
          clear H'
          try clear c1
          try clear c2
          try clear p2
          try clear q2
          try clear hx2
          try clear c5
          try clear c5b0
          try clear c6
          try clear c6b0
          try clear c7
          try clear c7b0
          try clear c7b1
          try clear c9
          try clear c9b0
          try clear c9b1
          try clear c11
          try clear c11b0
          try clear c13
          try clear c13b0
          try clear c15
          try clear c15b0
          try clear c18
          try clear c19
          try clear c19b0
          try clear c20
          try clear c20b0
          try clear c21
          try clear c21b0
          try clear c21b1
          try clear p21
          try clear q21
          try clear hx21
          try clear hcz10_0
          try clear hcz10_1
          try clear hcz10_2
          try clear hcz12_0
          try clear hcz12_1
          try clear hcz12_2
          try clear hcz14_0
          try clear hcz14_1
          try clear hcz14_2
          try clear hcz16_0
          try clear hcz16_1
          try clear hcz16_2
          try clear hcz17_0
          try clear hcz17_1
          try clear hcz17_2
          try clear hcz22_0
          try clear hcz22_1
          try clear hcz22_2
          try clear hcz8_0
          try clear hcz8_1
          try clear hcz8_2
          try clear hfz10_0
          try clear hfz10_1
          try clear hfz10_2
          try clear hfz12_0
          try clear hfz12_1
          try clear hfz12_2
          try clear hfz14_0
          try clear hfz14_1
          try clear hfz14_2
          try clear hfz16_0
          try clear hfz16_1
          try clear hfz16_2
          try clear hfz17_0
          try clear hfz17_1
          try clear hfz17_2
          try clear hfz22_0
          try clear hfz22_1
          try clear hfz22_2
          try clear hfz8_0
          try clear hfz8_1
          try clear hfz8_2
          try clear hx212_0
          try clear p2
          try clear p212
          try clear q212
          obtain ⟨x7_3, rfl, HA, HK3, BK211, HB⟩ := hrel
          cases gk with
          | zero => exact absurd HA.out (by simp [duetref21_Check.l1])
          | succ k3 =>
           have H := HA.out
           clear HA
           simp only [duetref21_Check.l1] at H
           by_cases c23 : x7_3 < a1
           ·rw [if_pos c23] at H
            have c23b0 : decide (x7_3 < a1) = true := decide_eq_true c23
            clear c23
            by_cases c24 : 0 ≤ x7_3
            ·rw [if_pos c24] at H
             have c24b0 : decide (0 ≤ x7_3) = true := decide_eq_true c24
             clear c24
             by_cases c25 : x7_3 < ((rd_L6 l0_0 x5_2).length : Int)
             ·rw [if_pos c25] at H
              have c25b0 : decide (x7_3 < ((rd_L6 l0_0 x5_2).length : Int)) = true := decide_eq_true c25
              clear c25
              replace H := Option.bind_eq_some_iff.mp H
              obtain ⟨t214, A260, H⟩ := H
              replace H : (if ((rd_T47 (rd_L6 l0_0 x5_2) x7_3).f0) = 0 then (duetref21_Check.j3 k3 a1 x5_2 (rd_L6 l0_0 x5_2) x7_3 ((rd_T47 (rd_L6 l0_0 x5_2) x7_3).f0) t214 false l0_0 a0_1 a0_2) else (if ((rd_T47 (rd_L6 l0_0 x5_2) x7_3).f0) = (-1) then (duetref21_Check.j3 k3 a1 x5_2 (rd_L6 l0_0 x5_2) x7_3 ((rd_T47 (rd_L6 l0_0 x5_2) x7_3).f0) t214 false l0_0 a0_1 a0_2) else (duetref21_Check.j3 k3 a1 x5_2 (rd_L6 l0_0 x5_2) x7_3 ((rd_T47 (rd_L6 l0_0 x5_2) x7_3).f0) t214 (t214 == 0) l0_0 a0_1 a0_2))) = some r := H
              have A26 := Aside0.mk A260
              clear A260
              have HC27 := Aside0.mk H
              clear H
              have p213 : 0 ≤ (x7_3 : Int) := of_decide_eq_true (by first | (with_reducible assumption) | assumption)
              have q213 : x7_3 < ((rd_L6 l0_0 x5_2).length : Int) := of_decide_eq_true (by first | (with_reducible assumption) | assumption)
              obtain ⟨ad213, e213, hx213_0, hx213_1⟩ := at_T47 HR212_0.out x7_3 p213 q213
              cases e213
              (try replace hx213_0 := (HB.out.cell (World.block_lt_of_cell? w _ hx213_0)).trans hx213_0)
              (try replace hx213_1 := (HB.out.cell (World.block_lt_of_cell? w _ hx213_1)).trans hx213_1)
              replace p213 := eq_true p213
              replace q213 := eq_true q213
              go_upto_region 14 with (first | ((with_reducible refine gate_callee (f := 20) rfl ?_); refine goesL_ (some 79) rfl rfl Tryd.func20 (by kernel_rfl) rfl #[.int .i64 ((rd_T47 (rd_L6 l0_0 x5_2) x7_3).f0)] rfl (by (try simp only [List.map_toArray, List.map_cons, List.map_nil]); first | done | rfl | (simp only [List.length_drop, List.length_take]; rfl)) ?_; (with_reducible refine (duetref20_Width.calls k3 ((rd_T47 (rd_L6 l0_0 x5_2) x7_3).f0) t214 _ A26.out).mono ?_); rintro e w' ⟨rfl, ⟨nd, rfl⟩⟩; refine ⟨_, rfl, ?_⟩))
              (try simp only [Act.put, List.setIfInBounds_toArray, List.set_cons_zero, List.set_cons_succ])
              go_cut [89] (fun v89 wc => ∃ (kq : Nat) (x89_26 : Bool), v89 = .bool x89_26 ∧ Aside0 (duetref21_Check.j3 kq a1 x5_2 (rd_L6 l0_0 x5_2) x7_3 ((rd_T47 (rd_L6 l0_0 x5_2) x7_3).f0) t214 x89_26 l0_0 a0_1 a0_2 = some r) ∧ Aside0 (kq ≤ k3) ∧ Aside0 (wc.heap[gb211]? = some (.cells #[(.slice (some ad212) l0_0.length c0_0), .int .i64 a0_1, .int .i64 a0_2] 32 (0,0))) ∧ Aside0 (Below w.heap.size w wc))
              case first =>
               have H := HC27.out
               clear HC27
               by_cases c28 : ((rd_T47 (rd_L6 l0_0 x5_2) x7_3).f0) = 0
               ·rw [if_pos c28] at H
                have c28b0 : (((rd_T47 (rd_L6 l0_0 x5_2) x7_3).f0) == 0) = true := beq_iff_eq.mpr c28
                have c28b1 : (((rd_T47 (rd_L6 l0_0 x5_2) x7_3).f0) != 0) = false := bne_eq_false_iff_eq.mpr c28
                clear c28
                (first | rw [c28b0] | (simp only [i64_w, i32_w]; rw [c28b0]) | skip)
                have H' := Aside0.mk H
                clear H
                go_wp2
                go_meet
                case rel => exact ⟨_, (false), (by first | rfl | (simp; done) | (simp [*]; done)), H', ⟨by have := HJ2.out; have := HK2.out; have := HK3.out; first | omega | exact Nat.le_refl _⟩, ⟨by (with_reducible repeat (first | refine blk_drewN ?_ _ | refine blk_drew ?_ | refine blk_alloc ?_ _)); exact BK211.out⟩, ⟨by repeat (first | (with_reducible first | exact HB.out | apply below_alloc | apply pw_below_drewN | apply below_drew1 | refine below_set ?_ GE211.out) | exact HB.out)⟩⟩
               ·rw [if_neg c28] at H
                have c28b0 : (((rd_T47 (rd_L6 l0_0 x5_2) x7_3).f0) == 0) = false := beq_eq_false_iff_ne.mpr c28
                have c28b1 : (((rd_T47 (rd_L6 l0_0 x5_2) x7_3).f0) != 0) = true := bne_iff_ne.mpr c28
                (first | rw [c28b0] | (simp only [i64_w, i32_w]; rw [c28b0]) | skip)
                by_cases c29 : ((rd_T47 (rd_L6 l0_0 x5_2) x7_3).f0) = (-1)
                ·rw [if_pos c29] at H
                 have c29b0 : (((rd_T47 (rd_L6 l0_0 x5_2) x7_3).f0) == (-1)) = true := beq_iff_eq.mpr c29
                 have c29b1 : (((rd_T47 (rd_L6 l0_0 x5_2) x7_3).f0) != (-1)) = false := bne_eq_false_iff_eq.mpr c29
                 clear c29
                 have H' := Aside0.mk H
                 clear H
                 go_wp2
                 go_meet
                 case rel => exact ⟨_, (false), (by first | rfl | (simp; done) | (simp [*]; done)), H', ⟨by have := HJ2.out; have := HK2.out; have := HK3.out; first | omega | exact Nat.le_refl _⟩, ⟨by (with_reducible repeat (first | refine blk_drewN ?_ _ | refine blk_drew ?_ | refine blk_alloc ?_ _)); exact BK211.out⟩, ⟨by repeat (first | (with_reducible first | exact HB.out | apply below_alloc | apply pw_below_drewN | apply below_drew1 | refine below_set ?_ GE211.out) | exact HB.out)⟩⟩
                ·rw [if_neg c29] at H
                 have c29b0 : (((rd_T47 (rd_L6 l0_0 x5_2) x7_3).f0) == (-1)) = false := beq_eq_false_iff_ne.mpr c29
                 have c29b1 : (((rd_T47 (rd_L6 l0_0 x5_2) x7_3).f0) != (-1)) = true := bne_iff_ne.mpr c29
                 have H' := Aside0.mk H
                 clear H
                 go_wp2
                 go_meet
                 case rel => exact ⟨_, ((t214 == 0)), (by first | rfl | (simp; done) | (simp [*]; done)), H', ⟨by have := HJ2.out; have := HK2.out; have := HK3.out; first | omega | exact Nat.le_refl _⟩, ⟨by (with_reducible repeat (first | refine blk_drewN ?_ _ | refine blk_drew ?_ | refine blk_alloc ?_ _)); exact BK211.out⟩, ⟨by repeat (first | (with_reducible first | exact HB.out | apply below_alloc | apply pw_below_drewN | apply below_drew1 | refine below_set ?_ GE211.out) | exact HB.out)⟩⟩
              case rest =>
               clear HC27
               try clear c1
               try clear c2
               try clear p2
               try clear q2
               try clear hx2
               try clear c5
               try clear c5b0
               try clear c6
               try clear c6b0
               try clear c7
               try clear c7b0
               try clear c7b1
               try clear c9
               try clear c9b0
               try clear c9b1
               try clear c11
               try clear c11b0
               try clear c13
               try clear c13b0
               try clear c15
               try clear c15b0
               try clear c18
               try clear c19
               try clear c19b0
               try clear c20
               try clear c20b0
               try clear c21
               try clear c21b0
               try clear c21b1
               try clear p21
               try clear q21
               try clear hx21
               try clear c23
               try clear c23b0
               try clear c24
               try clear c24b0
               try clear c25
               try clear c25b0
               try clear c28
               try clear c28b0
               try clear c28b1
               try clear c29
               try clear c29b0
               try clear c29b1
               try clear hcz10_0
               try clear hcz10_1
               try clear hcz10_2
               try clear hcz12_0
               try clear hcz12_1
               try clear hcz12_2
               try clear hcz14_0
               try clear hcz14_1
               try clear hcz14_2
               try clear hcz16_0
               try clear hcz16_1
               try clear hcz16_2
               try clear hcz17_0
               try clear hcz17_1
               try clear hcz17_2
               try clear hcz22_0
               try clear hcz22_1
               try clear hcz22_2
               try clear hcz8_0
               try clear hcz8_1
               try clear hcz8_2
               try clear hfz10_0
               try clear hfz10_1
               try clear hfz10_2
               try clear hfz12_0
               try clear hfz12_1
               try clear hfz12_2
               try clear hfz14_0
               try clear hfz14_1
               try clear hfz14_2
               try clear hfz16_0
               try clear hfz16_1
               try clear hfz16_2
               try clear hfz17_0
               try clear hfz17_1
               try clear hfz17_2
               try clear hfz22_0
               try clear hfz22_1
               try clear hfz22_2
               try clear hfz8_0
               try clear hfz8_1
               try clear hfz8_2
               try clear hx212_0
               try clear hx213_0
               try clear hx213_1
               try clear p2
               try clear p21
               try clear p212
               try clear p213
               try clear q2
               try clear q21
               try clear q212
               try clear q213
               obtain ⟨kq, x89_26, rfl, HA, HJ26, BK211, HB⟩ := hcut
               cases kq with
               | zero => exact absurd HA.out (by simp [duetref21_Check.j3])
               | succ kj26 =>
                have H := HA.out
                clear HA
                simp only [duetref21_Check.j3] at H
                by_cases c30 : x89_26 = true
                ·subst c30
                 have H1 : (some 1) = some r := by rw [if_pos rfl] at H; exact H
                 clear H
                 have H := H1
                 clear H1
                 obtain rfl := Option.some.inj H
                 go_wp2
                 go_ret
                 exact ⟨by first | rfl | (simp [errW_none, errW_some] <;> rfl) | (simp [*, errW_none, errW_some] <;> rfl), by repeat (first | (with_reducible first | exact HB.out | apply below_alloc | apply pw_below_drewN | apply below_drew1 | refine below_set ?_ GE211.out) | exact HB.out)⟩
                ·replace c30 := Bool.eq_false_iff.mpr c30
                 subst c30
                 have H1 : (if ((rd_T47 (rd_L6 l0_0 x5_2) x7_3).f0) = (-1) then (duetref21_Check.j4 kj26 a1 x5_2 (rd_L6 l0_0 x5_2) x7_3 ((rd_T47 (rd_L6 l0_0 x5_2) x7_3).f0) false l0_0 a0_1 a0_2) else (if t214 = 2 then (if (wrap64 (x7_3 + 1)) = a1 then (duetref21_Check.j4 kj26 a1 x5_2 (rd_L6 l0_0 x5_2) x7_3 ((rd_T47 (rd_L6 l0_0 x5_2) x7_3).f0) true l0_0 a0_1 a0_2) else (if 0 ≤ (wrap64 (x7_3 + 1)) then (if (wrap64 (x7_3 + 1)) < ((rd_L6 l0_0 x5_2).length : Int) then (duetref21_Check.j4 kj26 a1 x5_2 (rd_L6 l0_0 x5_2) x7_3 ((rd_T47 (rd_L6 l0_0 x5_2) x7_3).f0) (((rd_T47 (rd_L6 l0_0 x5_2) (wrap64 (x7_3 + 1))).f0) != (-1)) l0_0 a0_1 a0_2) else (none)) else (none))) else (duetref21_Check.j4 kj26 a1 x5_2 (rd_L6 l0_0 x5_2) x7_3 ((rd_T47 (rd_L6 l0_0 x5_2) x7_3).f0) false l0_0 a0_1 a0_2))) = some r := by rw [if_neg (show ¬ (false = true) by decide)] at H; exact H
                 clear H
                 have H := H1
                 clear H1
                 have HC31 := Aside0.mk H
                 clear H
                 go_upto_region 16 with (fail)
                 go_cut [110] (fun v110 wc => ∃ (kq : Nat) (x110_30 : Bool), v110 = .bool x110_30 ∧ Aside0 (duetref21_Check.j4 kq a1 x5_2 (rd_L6 l0_0 x5_2) x7_3 ((rd_T47 (rd_L6 l0_0 x5_2) x7_3).f0) x110_30 l0_0 a0_1 a0_2 = some r) ∧ Aside0 (kq ≤ kj26) ∧ Aside0 (wc.heap[gb211]? = some (.cells #[(.slice (some ad212) l0_0.length c0_0), .int .i64 a0_1, .int .i64 a0_2] 32 (0,0))) ∧ Aside0 (Below w.heap.size w wc))
                 case first =>
                  have H := HC31.out
                  clear HC31
                  by_cases c32 : ((rd_T47 (rd_L6 l0_0 x5_2) x7_3).f0) = (-1)
                  ·rw [if_pos c32] at H
                   have c32b0 : (((rd_T47 (rd_L6 l0_0 x5_2) x7_3).f0) == (-1)) = true := beq_iff_eq.mpr c32
                   have c32b1 : (((rd_T47 (rd_L6 l0_0 x5_2) x7_3).f0) != (-1)) = false := bne_eq_false_iff_eq.mpr c32
                   clear c32
                   (first | rw [c32b0] | (simp only [i64_w, i32_w]; rw [c32b0]) | skip)
                   have H' := Aside0.mk H
                   clear H
                   go_wp2
                   go_meet
                   case rel => exact ⟨_, (false), (by first | rfl | (simp; done) | (simp [*]; done)), H', ⟨by have := HJ2.out; have := HK2.out; have := HK3.out; have := HJ26.out; first | omega | exact Nat.le_refl _⟩, ⟨by (with_reducible repeat (first | refine blk_drewN ?_ _ | refine blk_drew ?_ | refine blk_alloc ?_ _)); exact BK211.out⟩, ⟨by repeat (first | (with_reducible first | exact HB.out | apply below_alloc | apply pw_below_drewN | apply below_drew1 | refine below_set ?_ GE211.out) | exact HB.out)⟩⟩
                  ·rw [if_neg c32] at H
                   have c32b0 : (((rd_T47 (rd_L6 l0_0 x5_2) x7_3).f0) == (-1)) = false := beq_eq_false_iff_ne.mpr c32
                   have c32b1 : (((rd_T47 (rd_L6 l0_0 x5_2) x7_3).f0) != (-1)) = true := bne_iff_ne.mpr c32
                   (first | rw [c32b0] | (simp only [i64_w, i32_w]; rw [c32b0]) | skip)
                   by_cases c33 : t214 = 2
                   ·rw [if_pos c33] at H
                    have c33b0 : (t214 == 2) = true := beq_iff_eq.mpr c33
                    have c33b1 : (t214 != 2) = false := bne_eq_false_iff_eq.mpr c33
                    clear c33
                    by_cases c34 : (wrap64 (x7_3 + 1)) = a1
                    ·rw [if_pos c34] at H
                     have c34b0 : ((wrap64 (x7_3 + 1)) == a1) = true := beq_iff_eq.mpr c34
                     have c34b1 : ((wrap64 (x7_3 + 1)) != a1) = false := bne_eq_false_iff_eq.mpr c34
                     clear c34
                     have H' := Aside0.mk H
                     clear H
                     go_wp2
                     go_meet
                     case rel => exact ⟨_, (true), (by first | rfl | (simp; done) | (simp [*]; done)), H', ⟨by have := HJ2.out; have := HK2.out; have := HK3.out; have := HJ26.out; first | omega | exact Nat.le_refl _⟩, ⟨by (with_reducible repeat (first | refine blk_drewN ?_ _ | refine blk_drew ?_ | refine blk_alloc ?_ _)); exact BK211.out⟩, ⟨by repeat (first | (with_reducible first | exact HB.out | apply below_alloc | apply pw_below_drewN | apply below_drew1 | refine below_set ?_ GE211.out) | exact HB.out)⟩⟩
                    ·rw [if_neg c34] at H
                     have c34b0 : ((wrap64 (x7_3 + 1)) == a1) = false := beq_eq_false_iff_ne.mpr c34
                     have c34b1 : ((wrap64 (x7_3 + 1)) != a1) = true := bne_iff_ne.mpr c34
                     obtain ⟨ji35, hji35⟩ : ∃ j_ : Int, (wrap64 (x7_3 + 1)) = j_ := ⟨_, rfl⟩
                     replace H : (if 0 ≤ (ji35) then (if (ji35) < ((rd_L6 l0_0 x5_2).length : Int) then (duetref21_Check.j4 kj26 a1 x5_2 (rd_L6 l0_0 x5_2) x7_3 ((rd_T47 (rd_L6 l0_0 x5_2) x7_3).f0) (((rd_T47 (rd_L6 l0_0 x5_2) (ji35)).f0) != (-1)) l0_0 a0_1 a0_2) else (none)) else (none)) = some r := by first | (rw [hji35] at H; exact H) | (simp only [hji35] at H ⊢; exact H)
                     (try rw [hji35] at c34b0)
                     (try rw [hji35] at c34b1)
                     have hji35w : (IntKind.i64.wrap (x7_3 + 1)) = ji35 := (i64_w _).trans hji35
                     by_cases c36 : 0 ≤ (ji35)
                     ·rw [if_pos c36] at H
                      have c36b0 : decide (0 ≤ (ji35)) = true := decide_eq_true c36
                      clear c36
                      by_cases c37 : (ji35) < ((rd_L6 l0_0 x5_2).length : Int)
                      ·rw [if_pos c37] at H
                       have c37b0 : decide ((ji35) < ((rd_L6 l0_0 x5_2).length : Int)) = true := decide_eq_true c37
                       clear c37
                       have H' := Aside0.mk H
                       clear H
                       have p215 : 0 ≤ ((ji35) : Int) := of_decide_eq_true (by first | (with_reducible assumption) | assumption)
                       have q215 : (ji35) < ((rd_L6 l0_0 x5_2).length : Int) := of_decide_eq_true (by first | (with_reducible assumption) | assumption)
                       obtain ⟨ad215, e215, hx215_0, hx215_1⟩ := at_T47 HR212_0.out (ji35) p215 q215
                       obtain rfl : ad213 = ad215 := (by injection e215)
                       (try replace hx215_0 := (HB.out.cell (World.block_lt_of_cell? w _ hx215_0)).trans hx215_0)
                       (try replace hx215_1 := (HB.out.cell (World.block_lt_of_cell? w _ hx215_1)).trans hx215_1)
                       replace p215 := eq_true p215
                       replace q215 := eq_true q215
                       go_wp2
                       go_meet
                       case rel => exact ⟨_, ((((rd_T47 (rd_L6 l0_0 x5_2) (ji35)).f0) != (-1))), (by first | rfl | (simp; done) | (simp only [← hji35] <;> (first | rfl | simp)) | (simp [*]; done)), H', ⟨by have := HJ2.out; have := HK2.out; have := HK3.out; have := HJ26.out; first | omega | exact Nat.le_refl _⟩, ⟨by (with_reducible repeat (first | refine blk_drewN ?_ _ | refine blk_drew ?_ | refine blk_alloc ?_ _)); exact BK211.out⟩, ⟨by repeat (first | (with_reducible first | exact HB.out | apply below_alloc | apply pw_below_drewN | apply below_drew1 | refine below_set ?_ GE211.out) | exact HB.out)⟩⟩
                      ·rw [if_neg c37] at H
                       exact absurd H (by simp)
                     ·rw [if_neg c36] at H
                      exact absurd H (by simp)
                   ·rw [if_neg c33] at H
                    have c33b0 : (t214 == 2) = false := beq_eq_false_iff_ne.mpr c33
                    have c33b1 : (t214 != 2) = true := bne_iff_ne.mpr c33
                    have H' := Aside0.mk H
                    clear H
                    go_wp2
                    go_meet
                    case rel => exact ⟨_, (false), (by first | rfl | (simp; done) | (simp [*]; done)), H', ⟨by have := HJ2.out; have := HK2.out; have := HK3.out; have := HJ26.out; first | omega | exact Nat.le_refl _⟩, ⟨by (with_reducible repeat (first | refine blk_drewN ?_ _ | refine blk_drew ?_ | refine blk_alloc ?_ _)); exact BK211.out⟩, ⟨by repeat (first | (with_reducible first | exact HB.out | apply below_alloc | apply pw_below_drewN | apply below_drew1 | refine below_set ?_ GE211.out) | exact HB.out)⟩⟩
                 case rest =>
                  clear HC31
                  try clear c1
                  try clear c2
                  try clear p2
                  try clear q2
                  try clear hx2
                  try clear c3
                  try clear c5
                  try clear c5b0
                  try clear c6
                  try clear c6b0
                  try clear p6
                  try clear c7
                  try clear c7b0
                  try clear c7b1
                  try clear c9
                  try clear c9b0
                  try clear c9b1
                  try clear c11
                  try clear c11b0
                  try clear c13
                  try clear c13b0
                  try clear c15
                  try clear c15b0
                  try clear c18
                  try clear c19
                  try clear c19b0
                  try clear c20
                  try clear c20b0
                  try clear c21
                  try clear c21b0
                  try clear c21b1
                  try clear p21
                  try clear q21
                  try clear hx21
                  try clear c23
                  try clear c23b0
                  try clear c24
                  try clear c24b0
                  try clear c25
                  try clear c25b0
                  try clear c28
                  try clear c28b0
                  try clear c28b1
                  try clear c29
                  try clear c29b0
                  try clear c29b1
                  try clear c30
                  try clear c32
                  try clear c32b0
                  try clear c32b1
                  try clear c33
                  try clear c33b0
                  try clear c33b1
                  try clear c34
                  try clear c34b0
                  try clear c34b1
                  try clear c36
                  try clear c36b0
                  try clear c37
                  try clear c37b0
                  try clear hcz10_0
                  try clear hcz10_1
                  try clear hcz10_2
                  try clear hcz12_0
                  try clear hcz12_1
                  try clear hcz12_2
                  try clear hcz14_0
                  try clear hcz14_1
                  try clear hcz14_2
                  try clear hcz16_0
                  try clear hcz16_1
                  try clear hcz16_2
                  try clear hcz17_0
                  try clear hcz17_1
                  try clear hcz17_2
                  try clear hcz22_0
                  try clear hcz22_1
                  try clear hcz22_2
                  try clear hcz8_0
                  try clear hcz8_1
                  try clear hcz8_2
                  try clear hfz10_0
                  try clear hfz10_1
                  try clear hfz10_2
                  try clear hfz12_0
                  try clear hfz12_1
                  try clear hfz12_2
                  try clear hfz14_0
                  try clear hfz14_1
                  try clear hfz14_2
                  try clear hfz16_0
                  try clear hfz16_1
                  try clear hfz16_2
                  try clear hfz17_0
                  try clear hfz17_1
                  try clear hfz17_2
                  try clear hfz22_0
                  try clear hfz22_1
                  try clear hfz22_2
                  try clear hfz8_0
                  try clear hfz8_1
                  try clear hfz8_2
                  try clear hx212_0
                  try clear hx213_0
                  try clear hx213_1
                  try clear hx215_0
                  try clear hx215_1
                  try clear p2
                  try clear p21
                  try clear p212
                  try clear p213
                  try clear p215
                  try clear q2
                  try clear q21
                  try clear q212
                  try clear q213
                  try clear q215
                  obtain ⟨kq, x110_30, rfl, HA, HJ30, BK211, HB⟩ := hcut
                  cases kq with
                  | zero => exact absurd HA.out (by simp [duetref21_Check.j4])
                  | succ kj30 =>
                   have H := HA.out
                   clear HA
                   simp only [duetref21_Check.j4] at H
                   by_cases c38 : x110_30 = true
                   ·subst c38
                    have H1 : (some 1) = some r := by rw [if_pos rfl] at H; exact H
                    clear H
                    have H := H1
                    clear H1
                    obtain rfl := Option.some.inj H
                    go_wp2
                    go_ret
                    exact ⟨by first | rfl | (simp [errW_none, errW_some] <;> rfl) | (simp [*, errW_none, errW_some] <;> rfl), by repeat (first | (with_reducible first | exact HB.out | apply below_alloc | apply pw_below_drewN | apply below_drew1 | refine below_set ?_ GE211.out) | exact HB.out)⟩
                   ·replace c38 := Bool.eq_false_iff.mpr c38
                    subst c38
                    have H1 : (if ((rd_T47 (rd_L6 l0_0 x5_2) x7_3).f0) = (-1) then (if x7_3 = 0 then (some 1) else (if 0 ≤ (wrap64 (x7_3 - 1)) then (if (wrap64 (x7_3 - 1)) < ((rd_L6 l0_0 x5_2).length : Int) then (if ((rd_T47 (rd_L6 l0_0 x5_2) (wrap64 (x7_3 - 1))).f0) = (-1) then (some 1) else ((duetref20_Width.f kj30 ((rd_T47 (rd_L6 l0_0 x5_2) (wrap64 (x7_3 - 1))).f0)).bind fun t218 => (if t218 = 2 then (if 0 ≤ x7_3 then (if x7_3 < ((rd_L6 l0_0 x5_2).length : Int) then (if (((rd_T47 (rd_L6 l0_0 x5_2) (wrap64 (x7_3 - 1))).f1) != ((rd_T47 (rd_L6 l0_0 x5_2) x7_3).f1)) = true then (some 1) else (duetref21_Check.l1 kj30 a1 x5_2 (rd_L6 l0_0 x5_2) (wrap64 (x7_3 + 1)) l0_0 a0_1 a0_2)) else (none)) else (none)) else (some 1)))) else (none)) else (none))) else (duetref21_Check.l1 kj30 a1 x5_2 (rd_L6 l0_0 x5_2) (wrap64 (x7_3 + 1)) l0_0 a0_1 a0_2)) = some r := by rw [if_neg (show ¬ (false = true) by decide)] at H; exact H
                    clear H
                    have H := H1
                    clear H1
                    by_cases c39 : ((rd_T47 (rd_L6 l0_0 x5_2) x7_3).f0) = (-1)
                    ·rw [if_pos c39] at H
                     have c39b0 : (((rd_T47 (rd_L6 l0_0 x5_2) x7_3).f0) == (-1)) = true := beq_iff_eq.mpr c39
                     have c39b1 : (((rd_T47 (rd_L6 l0_0 x5_2) x7_3).f0) != (-1)) = false := bne_eq_false_iff_eq.mpr c39
                     clear c39
                     by_cases c40 : x7_3 = 0
                     ·rw [if_pos c40] at H
                      have c40b0 : (x7_3 == 0) = true := beq_iff_eq.mpr c40
                      have c40b1 : (x7_3 != 0) = false := bne_eq_false_iff_eq.mpr c40
                      clear c40
                      obtain rfl := Option.some.inj H
                      try go_wp2
                      have n0_ := Aside0.mk (blk_drew BK211.out)
                      have n1_ := Aside0.mk (below_drew1 HB.out)
                      clear BK211
                      clear HB
                      have BK211 := n0_
                      have HB := n1_
                      clear n0_ n1_
                      refine start_ (n := 39) (S := fun w' => True) (ds := []) #[false,false,false,false,false,false,false,false,false,false,false,false,false,false,false,false,false,false,false,false,false,false,false,false,false,false,false,false,false,false,false,false,false,false,false,false,false,false,false] (by kernel_rfl) rfl rfl trivial (fun hHeld => ?_); refine with_tabW duetref21_Check.tab18 duetref21_Check.bits18 (fun HT_ HW_ => ?_)
                      generalize wc.drew = w41 at BK211 HB hHeld ⊢
                      refine pure_ (i := 0) (N := some 111) (v := ?_) (a' := ?_) #[true,false,false,false,false,false,false,false,false,false,false,false,false,false,false,false,false,false,false,false,false,false,false,false,false,false,false,false,false,false,false,false,false,false,false,false,false,false,false] rfl rfl (any_of HT_.out (by kernel_rfl)) (fun _ _ _ h => h) (Or.inl ⟨by rfl, ?_⟩) ?_ ?_
                      rotate_left
                      ·intro w'
                       go_simp
                       with_reducible rfl
                      rotate_left
                      ·simp only [Act.put,a_,b_,c_,i64_w,i32_w]
                       rfl
                      refine pure_ (i := 1) (N := some 112) (v := ?_) (a' := ?_) #[true,true,false,false,false,false,false,false,false,false,false,false,false,false,false,false,false,false,false,false,false,false,false,false,false,false,false,false,false,false,false,false,false,false,false,false,false,false,false] rfl rfl (any_of HT_.out (by kernel_rfl)) (fun _ _ _ h => h) (Or.inl ⟨by rfl, ?_⟩) ?_ ?_
                      rotate_left
                      ·intro w'
                       go_simp
                       with_reducible rfl
                      rotate_left
                      ·simp only [Act.put,a_,b_,c_,i64_w,i32_w]
                       rfl
                      refine pure_ (i := 2) (N := some 113) (v := ?_) (a' := ?_) #[true,true,true,false,false,false,false,false,false,false,false,false,false,false,false,false,false,false,false,false,false,false,false,false,false,false,false,false,false,false,false,false,false,false,false,false,false,false,false] rfl rfl (any_of HT_.out (by kernel_rfl)) (fun _ _ _ h => h) (Or.inl ⟨by rfl, ?_⟩) ?_ ?_
                      rotate_left
                      ·intro w'
                       go_simp
                       with_reducible rfl
                      rotate_left
                      ·simp only [Act.put,a_,b_,c_,i64_w,i32_w]
                       rfl
                      refine pure_ (i := 3) (N := some 114) (v := ?_) (a' := ?_) #[true,true,true,true,false,false,false,false,false,false,false,false,false,false,false,false,false,false,false,false,false,false,false,false,false,false,false,false,false,false,false,false,false,false,false,false,false,false,false] rfl rfl (any_of HT_.out (by kernel_rfl)) (fun _ _ _ h => h) (Or.inl ⟨by rfl, ?_⟩) ?_ ?_
                      rotate_left
                      ·intro w'
                       go_simp
                       with_reducible rfl
                      rotate_left
                      ·simp only [Act.put,a_,b_,c_,i64_w,i32_w]
                       rfl
                      refine pure_ (i := 4) (N := some 115) (v := ?_) (a' := ?_) #[true,true,true,true,true,false,false,false,false,false,false,false,false,false,false,false,false,false,false,false,false,false,false,false,false,false,false,false,false,false,false,false,false,false,false,false,false,false,false] rfl rfl (any_of HT_.out (by kernel_rfl)) (fun _ _ _ h => h) (Or.inl ⟨by rfl, ?_⟩) ?_ ?_
                      rotate_left
                      ·intro w'
                       go_simp
                       with_reducible rfl
                      rotate_left
                      ·simp only [Act.put,a_,b_,c_,i64_w,i32_w]
                       rfl
                      refine pure_ (i := 5) (N := some 116) (v := ?_) (a' := ?_) #[true,true,true,true,true,true,false,false,false,false,false,false,false,false,false,false,false,false,false,false,false,false,false,false,false,false,false,false,false,false,false,false,false,false,false,false,false,false,false] rfl rfl (any_of HT_.out (by kernel_rfl)) (fun _ _ _ h => h) (Or.inl ⟨by rfl, ?_⟩) ?_ ?_
                      rotate_left
                      ·intro w'
                       go_simp
                       with_reducible rfl
                      rotate_left
                      ·simp only [Act.put,a_,b_,c_,i64_w,i32_w]
                       rfl
                      refine pure_ (i := 6) (N := some 117) (v := undef) (a' := ?_) #[true,true,true,true,true,true,true,false,false,false,false,false,false,false,false,false,false,false,false,false,false,false,false,false,false,false,false,false,false,false,false,false,false,false,false,false,false,false,false] rfl rfl (any_of HT_.out (by kernel_rfl)) (fun _ _ _ h => h) (Or.inr ⟨by rfl, rfl⟩) ?_ ?_
                      rotate_left
                      ·simp only [Act.put,a_,b_,c_,i64_w,i32_w]
                       rfl
                      refine pure_ (i := 7) (N := some 118) (v := undef) (a' := ?_) #[true,true,true,true,true,true,true,true,false,false,false,false,false,false,false,false,false,false,false,false,false,false,false,false,false,false,false,false,false,false,false,false,false,false,false,false,false,false,false] rfl rfl (any_of HT_.out (by kernel_rfl)) (fun _ _ _ h => h) (Or.inr ⟨by rfl, rfl⟩) ?_ ?_
                      rotate_left
                      ·simp only [Act.put,a_,b_,c_,i64_w,i32_w]
                       rfl
                      refine pure_ (i := 8) (N := some 119) (v := undef) (a' := ?_) #[true,true,true,true,true,true,true,true,true,false,false,false,false,false,false,false,false,false,false,false,false,false,false,false,false,false,false,false,false,false,false,false,false,false,false,false,false,false,false] rfl rfl (any_of HT_.out (by kernel_rfl)) (fun _ _ _ h => h) (Or.inr ⟨by rfl, rfl⟩) ?_ ?_
                      rotate_left
                      ·simp only [Act.put,a_,b_,c_,i64_w,i32_w]
                       rfl
                      refine pure_ (i := 9) (N := some 120) (v := undef) (a' := ?_) #[true,true,true,true,true,true,true,true,true,true,false,false,false,false,false,false,false,false,false,false,false,false,false,false,false,false,false,false,false,false,false,false,false,false,false,false,false,false,false] rfl rfl (any_of HT_.out (by kernel_rfl)) (fun _ _ _ h => h) (Or.inr ⟨by rfl, rfl⟩) ?_ ?_
                      rotate_left
                      ·simp only [Act.put,a_,b_,c_,i64_w,i32_w]
                       rfl
                      refine pure_ (i := 10) (N := some 121) (v := undef) (a' := ?_) #[true,true,true,true,true,true,true,true,true,true,true,false,false,false,false,false,false,false,false,false,false,false,false,false,false,false,false,false,false,false,false,false,false,false,false,false,false,false,false] rfl rfl (any_of HT_.out (by kernel_rfl)) (fun _ _ _ h => h) (Or.inr ⟨by rfl, rfl⟩) ?_ ?_
                      rotate_left
                      ·simp only [Act.put,a_,b_,c_,i64_w,i32_w]
                       rfl
                      refine pure_ (i := 11) (N := some 122) (v := undef) (a' := ?_) #[true,true,true,true,true,true,true,true,true,true,true,true,false,false,false,false,false,false,false,false,false,false,false,false,false,false,false,false,false,false,false,false,false,false,false,false,false,false,false] rfl rfl (any_of HT_.out (by kernel_rfl)) (fun _ _ _ h => h) (Or.inr ⟨by rfl, rfl⟩) ?_ ?_
                      rotate_left
                      ·simp only [Act.put,a_,b_,c_,i64_w,i32_w]
                       rfl
                      refine pure_ (i := 12) (N := some 123) (v := undef) (a' := ?_) #[true,true,true,true,true,true,true,true,true,true,true,true,true,false,false,false,false,false,false,false,false,false,false,false,false,false,false,false,false,false,false,false,false,false,false,false,false,false,false] rfl rfl (any_of HT_.out (by kernel_rfl)) (fun _ _ _ h => h) (Or.inr ⟨by rfl, rfl⟩) ?_ ?_
                      rotate_left
                      ·simp only [Act.put,a_,b_,c_,i64_w,i32_w]
                       rfl
                      refine pure_ (i := 13) (N := some 124) (v := ?_) (a' := ?_) #[true,true,true,true,true,true,true,true,true,true,true,true,true,true,false,false,false,false,false,false,false,false,false,false,false,false,false,false,false,false,false,false,false,false,false,false,false,false,false] rfl rfl (any_of HT_.out (by kernel_rfl)) (fun _ _ _ h => h) (Or.inl ⟨by rfl, ?_⟩) ?_ ?_
                      rotate_left
                      ·intro w'
                       go_simp
                       with_reducible rfl
                      rotate_left
                      ·simp only [Act.put,a_,b_,c_,i64_w,i32_w]
                       rfl
                      refine pure_ (i := 14) (N := some 125) (v := ?_) (a' := ?_) #[true,true,true,true,true,true,true,true,true,true,true,true,true,true,true,false,false,false,false,false,false,false,false,false,false,false,false,false,false,false,false,false,false,false,false,false,false,false,false] rfl rfl (any_of HT_.out (by kernel_rfl)) (fun _ _ _ h => h) (Or.inl ⟨by rfl, ?_⟩) ?_ ?_
                      rotate_left
                      ·intro w'
                       go_simp
                       with_reducible rfl
                      rotate_left
                      ·simp only [Act.put,a_,b_,c_,i64_w,i32_w]
                       rfl
                      refine pure_ (i := 15) (N := some 126) (v := undef) (a' := ?_) #[true,true,true,true,true,true,true,true,true,true,true,true,true,true,true,true,false,false,false,false,false,false,false,false,false,false,false,false,false,false,false,false,false,false,false,false,false,false,false] rfl rfl (any_of HT_.out (by kernel_rfl)) (fun _ _ _ h => h) (Or.inr ⟨by rfl, rfl⟩) ?_ ?_
                      rotate_left
                      ·simp only [Act.put,a_,b_,c_,i64_w,i32_w]
                       rfl
                      refine pure_ (i := 16) (N := some 127) (v := undef) (a' := ?_) #[true,true,true,true,true,true,true,true,true,true,true,true,true,true,true,true,true,false,false,false,false,false,false,false,false,false,false,false,false,false,false,false,false,false,false,false,false,false,false] rfl rfl (any_of HT_.out (by kernel_rfl)) (fun _ _ _ h => h) (Or.inr ⟨by rfl, rfl⟩) ?_ ?_
                      rotate_left
                      ·simp only [Act.put,a_,b_,c_,i64_w,i32_w]
                       rfl
                      refine pure_ (i := 17) (N := some 128) (v := undef) (a' := ?_) #[true,true,true,true,true,true,true,true,true,true,true,true,true,true,true,true,true,true,false,false,false,false,false,false,false,false,false,false,false,false,false,false,false,false,false,false,false,false,false] rfl rfl (any_of HT_.out (by kernel_rfl)) (fun _ _ _ h => h) (Or.inr ⟨by rfl, rfl⟩) ?_ ?_
                      rotate_left
                      ·simp only [Act.put,a_,b_,c_,i64_w,i32_w]
                       rfl
                      refine pure_ (i := 18) (N := some 129) (v := undef) (a' := ?_) #[true,true,true,true,true,true,true,true,true,true,true,true,true,true,true,true,true,true,true,false,false,false,false,false,false,false,false,false,false,false,false,false,false,false,false,false,false,false,false] rfl rfl (any_of HT_.out (by kernel_rfl)) (fun _ _ _ h => h) (Or.inr ⟨by rfl, rfl⟩) ?_ ?_
                      rotate_left
                      ·simp only [Act.put,a_,b_,c_,i64_w,i32_w]
                       rfl
                      refine pure_ (i := 19) (N := some 130) (v := undef) (a' := ?_) #[true,true,true,true,true,true,true,true,true,true,true,true,true,true,true,true,true,true,true,true,false,false,false,false,false,false,false,false,false,false,false,false,false,false,false,false,false,false,false] rfl rfl (any_of HT_.out (by kernel_rfl)) (fun _ _ _ h => h) (Or.inr ⟨by rfl, rfl⟩) ?_ ?_
                      rotate_left
                      ·simp only [Act.put,a_,b_,c_,i64_w,i32_w]
                       rfl
                      refine pure_ (i := 20) (N := some 131) (v := undef) (a' := ?_) #[true,true,true,true,true,true,true,true,true,true,true,true,true,true,true,true,true,true,true,true,true,false,false,false,false,false,false,false,false,false,false,false,false,false,false,false,false,false,false] rfl rfl (any_of HT_.out (by kernel_rfl)) (fun _ _ _ h => h) (Or.inr ⟨by rfl, rfl⟩) ?_ ?_
                      rotate_left
                      ·simp only [Act.put,a_,b_,c_,i64_w,i32_w]
                       rfl
                      refine pure_ (i := 21) (N := some 132) (v := undef) (a' := ?_) #[true,true,true,true,true,true,true,true,true,true,true,true,true,true,true,true,true,true,true,true,true,true,false,false,false,false,false,false,false,false,false,false,false,false,false,false,false,false,false] rfl rfl (any_of HT_.out (by kernel_rfl)) (fun _ _ _ h => h) (Or.inr ⟨by rfl, rfl⟩) ?_ ?_
                      rotate_left
                      ·simp only [Act.put,a_,b_,c_,i64_w,i32_w]
                       rfl
                      refine pure_ (i := 22) (N := some 133) (v := undef) (a' := ?_) #[true,true,true,true,true,true,true,true,true,true,true,true,true,true,true,true,true,true,true,true,true,true,true,false,false,false,false,false,false,false,false,false,false,false,false,false,false,false,false] rfl rfl (any_of HT_.out (by kernel_rfl)) (fun _ _ _ h => h) (Or.inr ⟨by rfl, rfl⟩) ?_ ?_
                      rotate_left
                      ·simp only [Act.put,a_,b_,c_,i64_w,i32_w]
                       rfl
                      refine pure_ (i := 23) (N := some 134) (v := ?_) (a' := ?_) #[true,true,true,true,true,true,true,true,true,true,true,true,true,true,true,true,true,true,true,true,true,true,true,true,false,false,false,false,false,false,false,false,false,false,false,false,false,false,false] rfl rfl (any_of HT_.out (by kernel_rfl)) (fun _ _ _ h => h) (Or.inl ⟨by rfl, ?_⟩) ?_ ?_
                      rotate_left
                      ·intro w'
                       go_simp
                       with_reducible rfl
                      rotate_left
                      ·simp only [Act.put,a_,b_,c_,i64_w,i32_w]
                       rfl
                      refine pure_ (i := 24) (N := some 135) (v := ?_) (a' := ?_) #[true,true,true,true,true,true,true,true,true,true,true,true,true,true,true,true,true,true,true,true,true,true,true,true,true,false,false,false,false,false,false,false,false,false,false,false,false,false,false] rfl rfl (any_of HT_.out (by kernel_rfl)) (fun _ _ _ h => h) (Or.inl ⟨by rfl, ?_⟩) ?_ ?_
                      rotate_left
                      ·intro w'
                       go_simp
                       with_reducible rfl
                      rotate_left
                      ·simp only [Act.put,a_,b_,c_,i64_w,i32_w]
                       rfl
                      refine pure_ (i := 25) (N := some 136) (v := undef) (a' := ?_) #[true,true,true,true,true,true,true,true,true,true,true,true,true,true,true,true,true,true,true,true,true,true,true,true,true,true,false,false,false,false,false,false,false,false,false,false,false,false,false] rfl rfl (any_of HT_.out (by kernel_rfl)) (fun _ _ _ h => h) (Or.inr ⟨by rfl, rfl⟩) ?_ ?_
                      rotate_left
                      ·simp only [Act.put,a_,b_,c_,i64_w,i32_w]
                       rfl
                      refine pure_ (i := 26) (N := some 137) (v := undef) (a' := ?_) #[true,true,true,true,true,true,true,true,true,true,true,true,true,true,true,true,true,true,true,true,true,true,true,true,true,true,true,false,false,false,false,false,false,false,false,false,false,false,false] rfl rfl (any_of HT_.out (by kernel_rfl)) (fun _ _ _ h => h) (Or.inr ⟨by rfl, rfl⟩) ?_ ?_
                      rotate_left
                      ·simp only [Act.put,a_,b_,c_,i64_w,i32_w]
                       rfl
                      refine pure_ (i := 27) (N := some 138) (v := undef) (a' := ?_) #[true,true,true,true,true,true,true,true,true,true,true,true,true,true,true,true,true,true,true,true,true,true,true,true,true,true,true,true,false,false,false,false,false,false,false,false,false,false,false] rfl rfl (any_of HT_.out (by kernel_rfl)) (fun _ _ _ h => h) (Or.inr ⟨by rfl, rfl⟩) ?_ ?_
                      rotate_left
                      ·simp only [Act.put,a_,b_,c_,i64_w,i32_w]
                       rfl
                      refine pure_ (i := 28) (N := some 139) (v := undef) (a' := ?_) #[true,true,true,true,true,true,true,true,true,true,true,true,true,true,true,true,true,true,true,true,true,true,true,true,true,true,true,true,true,false,false,false,false,false,false,false,false,false,false] rfl rfl (any_of HT_.out (by kernel_rfl)) (fun _ _ _ h => h) (Or.inr ⟨by rfl, rfl⟩) ?_ ?_
                      rotate_left
                      ·simp only [Act.put,a_,b_,c_,i64_w,i32_w]
                       rfl
                      refine pure_ (i := 29) (N := some 140) (v := undef) (a' := ?_) #[true,true,true,true,true,true,true,true,true,true,true,true,true,true,true,true,true,true,true,true,true,true,true,true,true,true,true,true,true,true,false,false,false,false,false,false,false,false,false] rfl rfl (any_of HT_.out (by kernel_rfl)) (fun _ _ _ h => h) (Or.inr ⟨by rfl, rfl⟩) ?_ ?_
                      rotate_left
                      ·simp only [Act.put,a_,b_,c_,i64_w,i32_w]
                       rfl
                      refine pure_ (i := 30) (N := some 141) (v := undef) (a' := ?_) #[true,true,true,true,true,true,true,true,true,true,true,true,true,true,true,true,true,true,true,true,true,true,true,true,true,true,true,true,true,true,true,false,false,false,false,false,false,false,false] rfl rfl (any_of HT_.out (by kernel_rfl)) (fun _ _ _ h => h) (Or.inr ⟨by rfl, rfl⟩) ?_ ?_
                      rotate_left
                      ·simp only [Act.put,a_,b_,c_,i64_w,i32_w]
                       rfl
                      refine pure_ (i := 31) (N := some 142) (v := undef) (a' := ?_) #[true,true,true,true,true,true,true,true,true,true,true,true,true,true,true,true,true,true,true,true,true,true,true,true,true,true,true,true,true,true,true,true,false,false,false,false,false,false,false] rfl rfl (any_of HT_.out (by kernel_rfl)) (fun _ _ _ h => h) (Or.inr ⟨by rfl, rfl⟩) ?_ ?_
                      rotate_left
                      ·simp only [Act.put,a_,b_,c_,i64_w,i32_w]
                       rfl
                      refine pure_ (i := 32) (N := some 143) (v := undef) (a' := ?_) #[true,true,true,true,true,true,true,true,true,true,true,true,true,true,true,true,true,true,true,true,true,true,true,true,true,true,true,true,true,true,true,true,true,false,false,false,false,false,false] rfl rfl (any_of HT_.out (by kernel_rfl)) (fun _ _ _ h => h) (Or.inr ⟨by rfl, rfl⟩) ?_ ?_
                      rotate_left
                      ·simp only [Act.put,a_,b_,c_,i64_w,i32_w]
                       rfl
                      refine pure_ (i := 33) (N := some 144) (v := undef) (a' := ?_) #[true,true,true,true,true,true,true,true,true,true,true,true,true,true,true,true,true,true,true,true,true,true,true,true,true,true,true,true,true,true,true,true,true,true,false,false,false,false,false] rfl rfl (any_of HT_.out (by kernel_rfl)) (fun _ _ _ h => h) (Or.inr ⟨by rfl, rfl⟩) ?_ ?_
                      rotate_left
                      ·simp only [Act.put,a_,b_,c_,i64_w,i32_w]
                       rfl
                      refine pure_ (i := 34) (N := some 145) (v := undef) (a' := ?_) #[true,true,true,true,true,true,true,true,true,true,true,true,true,true,true,true,true,true,true,true,true,true,true,true,true,true,true,true,true,true,true,true,true,true,true,false,false,false,false] rfl rfl (any_of HT_.out (by kernel_rfl)) (fun _ _ _ h => h) (Or.inr ⟨by rfl, rfl⟩) ?_ ?_
                      rotate_left
                      ·simp only [Act.put,a_,b_,c_,i64_w,i32_w]
                       rfl
                      refine pure_ (i := 35) (N := some 146) (v := undef) (a' := ?_) #[true,true,true,true,true,true,true,true,true,true,true,true,true,true,true,true,true,true,true,true,true,true,true,true,true,true,true,true,true,true,true,true,true,true,true,true,false,false,false] rfl rfl (any_of HT_.out (by kernel_rfl)) (fun _ _ _ h => h) (Or.inr ⟨by rfl, rfl⟩) ?_ ?_
                      rotate_left
                      ·simp only [Act.put,a_,b_,c_,i64_w,i32_w]
                       rfl
                      refine pure_ (i := 36) (N := some 147) (v := undef) (a' := ?_) #[true,true,true,true,true,true,true,true,true,true,true,true,true,true,true,true,true,true,true,true,true,true,true,true,true,true,true,true,true,true,true,true,true,true,true,true,true,false,false] rfl rfl (any_of HT_.out (by kernel_rfl)) (fun _ _ _ h => h) (Or.inr ⟨by rfl, rfl⟩) ?_ ?_
                      rotate_left
                      ·simp only [Act.put,a_,b_,c_,i64_w,i32_w]
                       rfl
                      refine pure_ (i := 37) (N := some 148) (v := ?_) (a' := ?_) #[true,true,true,true,true,true,true,true,true,true,true,true,true,true,true,true,true,true,true,true,true,true,true,true,true,true,true,true,true,true,true,true,true,true,true,true,true,true,false] rfl rfl (any_of HT_.out (by kernel_rfl)) (fun _ _ _ h => h) (Or.inl ⟨by rfl, ?_⟩) ?_ ?_
                      rotate_left
                      ·intro w'
                       go_simp
                       with_reducible rfl
                      rotate_left
                      ·simp only [Act.put,a_,b_,c_,i64_w,i32_w]
                       rfl
                      refine pure_ (i := 38) (N := some 149) (v := ?_) (a' := ?_) #[true,true,true,true,true,true,true,true,true,true,true,true,true,true,true,true,true,true,true,true,true,true,true,true,true,true,true,true,true,true,true,true,true,true,true,true,true,true,true] rfl rfl (any_of HT_.out (by kernel_rfl)) (fun _ _ _ h => h) (Or.inl ⟨by rfl, ?_⟩) ?_ ?_
                      rotate_left
                      ·intro w'
                       go_simp
                       with_reducible rfl
                      rotate_left
                      ·simp only [Act.put,a_,b_,c_,i64_w,i32_w]
                       rfl
                      refine done_ (done_of HT_.out (by kernel_rfl)) ?_
                      try go_wp2
                      go_ret
                      exact ⟨by first | rfl | (simp [errW_none, errW_some] <;> rfl) | (simp [*, errW_none, errW_some] <;> rfl), by repeat (first | (with_reducible first | exact HB.out | apply below_alloc | apply pw_below_drewN | apply below_drew1 | refine below_set ?_ GE211.out) | exact HB.out)⟩
                     ·rw [if_neg c40] at H
                      have c40b0 : (x7_3 == 0) = false := beq_eq_false_iff_ne.mpr c40
                      have c40b1 : (x7_3 != 0) = true := bne_iff_ne.mpr c40
                      obtain ⟨ji42, hji42⟩ : ∃ j_ : Int, (wrap64 (x7_3 - 1)) = j_ := ⟨_, rfl⟩
                      replace H : (if 0 ≤ (ji42) then (if (ji42) < ((rd_L6 l0_0 x5_2).length : Int) then (if ((rd_T47 (rd_L6 l0_0 x5_2) (ji42)).f0) = (-1) then (some 1) else ((duetref20_Width.f kj30 ((rd_T47 (rd_L6 l0_0 x5_2) (ji42)).f0)).bind fun t218 => (if t218 = 2 then (if 0 ≤ x7_3 then (if x7_3 < ((rd_L6 l0_0 x5_2).length : Int) then (if (((rd_T47 (rd_L6 l0_0 x5_2) (ji42)).f1) != ((rd_T47 (rd_L6 l0_0 x5_2) x7_3).f1)) = true then (some 1) else (duetref21_Check.l1 kj30 a1 x5_2 (rd_L6 l0_0 x5_2) (wrap64 (x7_3 + 1)) l0_0 a0_1 a0_2)) else (none)) else (none)) else (some 1)))) else (none)) else (none)) = some r := by first | (rw [hji42] at H; exact H) | (simp only [hji42] at H ⊢; exact H)
                      have hji42w : (IntKind.i64.wrap (x7_3 - 1)) = ji42 := (i64_w _).trans hji42
                      by_cases c43 : 0 ≤ (ji42)
                      ·rw [if_pos c43] at H
                       have c43b0 : decide (0 ≤ (ji42)) = true := decide_eq_true c43
                       clear c43
                       by_cases c44 : (ji42) < ((rd_L6 l0_0 x5_2).length : Int)
                       ·rw [if_pos c44] at H
                        have c44b0 : decide ((ji42) < ((rd_L6 l0_0 x5_2).length : Int)) = true := decide_eq_true c44
                        clear c44
                        by_cases c45 : ((rd_T47 (rd_L6 l0_0 x5_2) (ji42)).f0) = (-1)
                        ·rw [if_pos c45] at H
                         have c45b0 : (((rd_T47 (rd_L6 l0_0 x5_2) (ji42)).f0) == (-1)) = true := beq_iff_eq.mpr c45
                         have c45b1 : (((rd_T47 (rd_L6 l0_0 x5_2) (ji42)).f0) != (-1)) = false := bne_eq_false_iff_eq.mpr c45
                         clear c45
                         obtain rfl := Option.some.inj H
                         try go_wp2
                         have n0_ := Aside0.mk (blk_drew BK211.out)
                         have n1_ := Aside0.mk (below_drew1 HB.out)
                         clear BK211
                         clear HB
                         have BK211 := n0_
                         have HB := n1_
                         clear n0_ n1_
                         have p216 : 0 ≤ ((ji42) : Int) := of_decide_eq_true (by first | (with_reducible assumption) | assumption)
                         have q216 : (ji42) < ((rd_L6 l0_0 x5_2).length : Int) := of_decide_eq_true (by first | (with_reducible assumption) | assumption)
                         obtain ⟨ad216, e216, hx216_0, hx216_1⟩ := at_T47 HR212_0.out (ji42) p216 q216
                         have hw216_1 := hx216_1
                         have hw216_0 := hx216_0
                         obtain rfl : ad213 = ad216 := (by injection e216)
                         (try replace hx216_0 := (HB.out.cell (World.block_lt_of_cell? w _ hx216_0)).trans hx216_0)
                         (try replace hx216_1 := (HB.out.cell (World.block_lt_of_cell? w _ hx216_1)).trans hx216_1)
                         replace p216 := eq_true p216
                         replace q216 := eq_true q216
                         refine start_ (n := 39) (S := fun w' => w'.cell? (ad213.add (((ji42)).toNat * 2)) = some (.int .i64 ((rd_T47 (rd_L6 l0_0 x5_2) (ji42)).f0)) ∧ w'.cell? ⟨(ad213.add (((ji42)).toNat * 2)).block, (ad213.add (((ji42)).toNat * 2)).off + 1, none⟩ = some (.bool ((rd_T47 (rd_L6 l0_0 x5_2) (ji42)).f1))) (ds := []) #[false,false,false,false,false,false,false,false,false,false,false,false,false,false,false,false,false,false,false,false,false,false,false,false,false,false,false,false,false,false,false,false,false,false,false,false,false,false,false] (by kernel_rfl) rfl rfl ⟨((HB.out.cell (World.block_lt_of_cell? w _ hw216_0)).trans hw216_0), ((HB.out.cell (World.block_lt_of_cell? w _ hw216_1)).trans hw216_1)⟩ (fun hHeld => ?_); refine with_tabW duetref21_Check.tab18 duetref21_Check.bits18 (fun HT_ HW_ => ?_)
                         generalize wc.drew = w46 at BK211 HB hx216_0 hx216_1 hHeld ⊢
                         refine pure_ (i := 0) (N := some 111) (v := ?_) (a' := ?_) #[true,false,false,false,false,false,false,false,false,false,false,false,false,false,false,false,false,false,false,false,false,false,false,false,false,false,false,false,false,false,false,false,false,false,false,false,false,false,false] rfl rfl (any_of HT_.out (by kernel_rfl)) (fun _ _ _ h => h) (Or.inl ⟨by rfl, ?_⟩) ?_ ?_
                         rotate_left
                         ·intro w'
                          go_simp
                          with_reducible rfl
                         rotate_left
                         ·simp only [Act.put,a_,b_,c_,i64_w,i32_w]
                          rfl
                         refine pure_ (i := 1) (N := some 112) (v := ?_) (a' := ?_) #[true,true,false,false,false,false,false,false,false,false,false,false,false,false,false,false,false,false,false,false,false,false,false,false,false,false,false,false,false,false,false,false,false,false,false,false,false,false,false] rfl rfl (any_of HT_.out (by kernel_rfl)) (fun _ _ _ h => h) (Or.inl ⟨by rfl, ?_⟩) ?_ ?_
                         rotate_left
                         ·intro w'
                          go_simp
                          with_reducible rfl
                         rotate_left
                         ·simp only [Act.put,a_,b_,c_,i64_w,i32_w]
                          rfl
                         refine pure_ (i := 2) (N := some 113) (v := ?_) (a' := ?_) #[true,true,true,false,false,false,false,false,false,false,false,false,false,false,false,false,false,false,false,false,false,false,false,false,false,false,false,false,false,false,false,false,false,false,false,false,false,false,false] rfl rfl (any_of HT_.out (by kernel_rfl)) (fun _ _ _ h => h) (Or.inl ⟨by rfl, ?_⟩) ?_ ?_
                         rotate_left
                         ·intro w'
                          go_simp
                          with_reducible rfl
                         rotate_left
                         ·simp only [Act.put,a_,b_,c_,i64_w,i32_w]
                          rfl
                         refine pure_ (i := 3) (N := some 114) (v := ?_) (a' := ?_) #[true,true,true,true,false,false,false,false,false,false,false,false,false,false,false,false,false,false,false,false,false,false,false,false,false,false,false,false,false,false,false,false,false,false,false,false,false,false,false] rfl rfl (any_of HT_.out (by kernel_rfl)) (fun _ _ _ h => h) (Or.inl ⟨by rfl, ?_⟩) ?_ ?_
                         rotate_left
                         ·intro w'
                          go_simp
                          with_reducible rfl
                         rotate_left
                         ·simp only [Act.put,a_,b_,c_,i64_w,i32_w]
                          rfl
                         refine pure_ (i := 4) (N := some 115) (v := ?_) (a' := ?_) #[true,true,true,true,true,false,false,false,false,false,false,false,false,false,false,false,false,false,false,false,false,false,false,false,false,false,false,false,false,false,false,false,false,false,false,false,false,false,false] rfl rfl (any_of HT_.out (by kernel_rfl)) (fun _ _ _ h => h) (Or.inl ⟨by rfl, ?_⟩) ?_ ?_
                         rotate_left
                         ·intro w'
                          go_simp
                          with_reducible rfl
                         rotate_left
                         ·simp only [Act.put,a_,b_,c_,i64_w,i32_w]
                          rfl
                         refine pure_ (i := 5) (N := some 116) (v := ?_) (a' := ?_) #[true,true,true,true,true,true,false,false,false,false,false,false,false,false,false,false,false,false,false,false,false,false,false,false,false,false,false,false,false,false,false,false,false,false,false,false,false,false,false] rfl rfl (any_of HT_.out (by kernel_rfl)) (fun _ _ _ h => h) (Or.inl ⟨by rfl, ?_⟩) ?_ ?_
                         rotate_left
                         ·intro w'
                          go_simp
                          with_reducible rfl
                         rotate_left
                         ·simp only [Act.put,a_,b_,c_,i64_w,i32_w]
                          rfl
                         refine pure_ (i := 6) (N := some 117) (v := ?_) (a' := ?_) #[true,true,true,true,true,true,true,false,false,false,false,false,false,false,false,false,false,false,false,false,false,false,false,false,false,false,false,false,false,false,false,false,false,false,false,false,false,false,false] rfl rfl (any_of HT_.out (by kernel_rfl)) (fun _ _ _ h => h) (Or.inl ⟨by rfl, ?_⟩) ?_ ?_
                         rotate_left
                         ·intro w'
                          go_simp
                          with_reducible rfl
                         rotate_left
                         ·simp only [Act.put,a_,b_,c_,i64_w,i32_w]
                          rfl
                         refine pure_ (i := 7) (N := some 118) (v := ?_) (a' := ?_) #[true,true,true,true,true,true,true,true,false,false,false,false,false,false,false,false,false,false,false,false,false,false,false,false,false,false,false,false,false,false,false,false,false,false,false,false,false,false,false] rfl rfl (any_of HT_.out (by kernel_rfl)) (fun _ _ _ h => h) (Or.inl ⟨by rfl, ?_⟩) ?_ ?_
                         rotate_left
                         ·intro w'
                          go_simp
                          with_reducible rfl
                         rotate_left
                         ·simp only [Act.put,a_,b_,c_,i64_w,i32_w]
                          rfl
                         refine pure_ (i := 8) (N := some 119) (v := ?_) (a' := ?_) #[true,true,true,true,true,true,true,true,true,false,false,false,false,false,false,false,false,false,false,false,false,false,false,false,false,false,false,false,false,false,false,false,false,false,false,false,false,false,false] rfl rfl (any_of HT_.out (by kernel_rfl)) (fun _ _ _ h => h) (Or.inl ⟨by rfl, ?_⟩) ?_ ?_
                         rotate_left
                         ·intro w'
                          go_simp
                          with_reducible rfl
                         rotate_left
                         ·simp only [Act.put,a_,b_,c_,i64_w,i32_w]
                          rfl
                         refine pure_ (i := 9) (N := some 120) (v := ?_) (a' := ?_) #[true,true,true,true,true,true,true,true,true,true,false,false,false,false,false,false,false,false,false,false,false,false,false,false,false,false,false,false,false,false,false,false,false,false,false,false,false,false,false] rfl rfl (any_of HT_.out (by kernel_rfl)) (fun _ _ _ h => h) (Or.inl ⟨by rfl, ?_⟩) ?_ ?_
                         rotate_left
                         ·intro w'
                          go_simp
                          with_reducible rfl
                         rotate_left
                         ·simp only [Act.put,a_,b_,c_,i64_w,i32_w]
                          rfl
                         refine pure_ (i := 10) (N := some 121) (v := ?_) (a' := ?_) #[true,true,true,true,true,true,true,true,true,true,true,false,false,false,false,false,false,false,false,false,false,false,false,false,false,false,false,false,false,false,false,false,false,false,false,false,false,false,false] rfl rfl (any_of HT_.out (by kernel_rfl)) (fun _ _ _ h => h) (Or.inl ⟨by rfl, ?_⟩) ?_ ?_
                         rotate_left
                         ·intro w'
                          go_simp
                          with_reducible rfl
                         rotate_left
                         ·simp only [Act.put,a_,b_,c_,i64_w,i32_w]
                          rfl
                         refine take_ (i := 11) (N := some 122) (v := ?_) (a' := ?_) #[true,true,true,true,true,true,true,true,true,true,true,true,false,false,false,false,false,false,false,false,false,false,false,false,false,false,false,false,false,false,false,false,false,false,false,false,false,false,false] rfl rfl (take_ofW HT_.out HW_.out (by kernel_rfl)) (fun _ _ _ h => h) (Or.inl ⟨by rfl, ?_⟩) hHeld ?_ ?_
                         rotate_left
                         ·rintro w' ⟨s0, s1⟩
                          go_simp
                          with_reducible rfl
                         rotate_left
                         ·simp only [Act.put,a_,b_,c_,i64_w,i32_w]
                          rfl
                         refine pure_ (i := 12) (N := some 123) (v := ?_) (a' := ?_) #[true,true,true,true,true,true,true,true,true,true,true,true,true,false,false,false,false,false,false,false,false,false,false,false,false,false,false,false,false,false,false,false,false,false,false,false,false,false,false] rfl rfl (any_of HT_.out (by kernel_rfl)) (fun _ _ _ h => h) (Or.inl ⟨by rfl, ?_⟩) ?_ ?_
                         rotate_left
                         ·intro w'
                          go_simp
                          with_reducible rfl
                         rotate_left
                         ·simp only [Act.put,a_,b_,c_,i64_w,i32_w]
                          rfl
                         refine pure_ (i := 13) (N := some 124) (v := ?_) (a' := ?_) #[true,true,true,true,true,true,true,true,true,true,true,true,true,true,false,false,false,false,false,false,false,false,false,false,false,false,false,false,false,false,false,false,false,false,false,false,false,false,false] rfl rfl (any_of HT_.out (by kernel_rfl)) (fun _ _ _ h => h) (Or.inl ⟨by rfl, ?_⟩) ?_ ?_
                         rotate_left
                         ·intro w'
                          go_simp
                          with_reducible rfl
                         rotate_left
                         ·simp only [Act.put,a_,b_,c_,i64_w,i32_w]
                          rfl
                         refine pure_ (i := 14) (N := some 125) (v := ?_) (a' := ?_) #[true,true,true,true,true,true,true,true,true,true,true,true,true,true,true,false,false,false,false,false,false,false,false,false,false,false,false,false,false,false,false,false,false,false,false,false,false,false,false] rfl rfl (any_of HT_.out (by kernel_rfl)) (fun _ _ _ h => h) (Or.inl ⟨by rfl, ?_⟩) ?_ ?_
                         rotate_left
                         ·intro w'
                          go_simp
                          with_reducible rfl
                         rotate_left
                         ·simp only [Act.put,a_,b_,c_,i64_w,i32_w]
                          rfl
                         refine pure_ (i := 15) (N := some 126) (v := undef) (a' := ?_) #[true,true,true,true,true,true,true,true,true,true,true,true,true,true,true,true,false,false,false,false,false,false,false,false,false,false,false,false,false,false,false,false,false,false,false,false,false,false,false] rfl rfl (any_of HT_.out (by kernel_rfl)) (fun _ _ _ h => h) (Or.inr ⟨by rfl, rfl⟩) ?_ ?_
                         rotate_left
                         ·simp only [Act.put,a_,b_,c_,i64_w,i32_w]
                          rfl
                         refine pure_ (i := 16) (N := some 127) (v := undef) (a' := ?_) #[true,true,true,true,true,true,true,true,true,true,true,true,true,true,true,true,true,false,false,false,false,false,false,false,false,false,false,false,false,false,false,false,false,false,false,false,false,false,false] rfl rfl (any_of HT_.out (by kernel_rfl)) (fun _ _ _ h => h) (Or.inr ⟨by rfl, rfl⟩) ?_ ?_
                         rotate_left
                         ·simp only [Act.put,a_,b_,c_,i64_w,i32_w]
                          rfl
                         refine pure_ (i := 17) (N := some 128) (v := undef) (a' := ?_) #[true,true,true,true,true,true,true,true,true,true,true,true,true,true,true,true,true,true,false,false,false,false,false,false,false,false,false,false,false,false,false,false,false,false,false,false,false,false,false] rfl rfl (any_of HT_.out (by kernel_rfl)) (fun _ _ _ h => h) (Or.inr ⟨by rfl, rfl⟩) ?_ ?_
                         rotate_left
                         ·simp only [Act.put,a_,b_,c_,i64_w,i32_w]
                          rfl
                         refine pure_ (i := 18) (N := some 129) (v := undef) (a' := ?_) #[true,true,true,true,true,true,true,true,true,true,true,true,true,true,true,true,true,true,true,false,false,false,false,false,false,false,false,false,false,false,false,false,false,false,false,false,false,false,false] rfl rfl (any_of HT_.out (by kernel_rfl)) (fun _ _ _ h => h) (Or.inr ⟨by rfl, rfl⟩) ?_ ?_
                         rotate_left
                         ·simp only [Act.put,a_,b_,c_,i64_w,i32_w]
                          rfl
                         refine pure_ (i := 19) (N := some 130) (v := undef) (a' := ?_) #[true,true,true,true,true,true,true,true,true,true,true,true,true,true,true,true,true,true,true,true,false,false,false,false,false,false,false,false,false,false,false,false,false,false,false,false,false,false,false] rfl rfl (any_of HT_.out (by kernel_rfl)) (fun _ _ _ h => h) (Or.inr ⟨by rfl, rfl⟩) ?_ ?_
                         rotate_left
                         ·simp only [Act.put,a_,b_,c_,i64_w,i32_w]
                          rfl
                         refine pure_ (i := 20) (N := some 131) (v := undef) (a' := ?_) #[true,true,true,true,true,true,true,true,true,true,true,true,true,true,true,true,true,true,true,true,true,false,false,false,false,false,false,false,false,false,false,false,false,false,false,false,false,false,false] rfl rfl (any_of HT_.out (by kernel_rfl)) (fun _ _ _ h => h) (Or.inr ⟨by rfl, rfl⟩) ?_ ?_
                         rotate_left
                         ·simp only [Act.put,a_,b_,c_,i64_w,i32_w]
                          rfl
                         refine pure_ (i := 21) (N := some 132) (v := undef) (a' := ?_) #[true,true,true,true,true,true,true,true,true,true,true,true,true,true,true,true,true,true,true,true,true,true,false,false,false,false,false,false,false,false,false,false,false,false,false,false,false,false,false] rfl rfl (any_of HT_.out (by kernel_rfl)) (fun _ _ _ h => h) (Or.inr ⟨by rfl, rfl⟩) ?_ ?_
                         rotate_left
                         ·simp only [Act.put,a_,b_,c_,i64_w,i32_w]
                          rfl
                         refine pure_ (i := 22) (N := some 133) (v := undef) (a' := ?_) #[true,true,true,true,true,true,true,true,true,true,true,true,true,true,true,true,true,true,true,true,true,true,true,false,false,false,false,false,false,false,false,false,false,false,false,false,false,false,false] rfl rfl (any_of HT_.out (by kernel_rfl)) (fun _ _ _ h => h) (Or.inr ⟨by rfl, rfl⟩) ?_ ?_
                         rotate_left
                         ·simp only [Act.put,a_,b_,c_,i64_w,i32_w]
                          rfl
                         refine pure_ (i := 23) (N := some 134) (v := ?_) (a' := ?_) #[true,true,true,true,true,true,true,true,true,true,true,true,true,true,true,true,true,true,true,true,true,true,true,true,false,false,false,false,false,false,false,false,false,false,false,false,false,false,false] rfl rfl (any_of HT_.out (by kernel_rfl)) (fun _ _ _ h => h) (Or.inl ⟨by rfl, ?_⟩) ?_ ?_
                         rotate_left
                         ·intro w'
                          go_simp
                          with_reducible rfl
                         rotate_left
                         ·simp only [Act.put,a_,b_,c_,i64_w,i32_w]
                          rfl
                         refine pure_ (i := 24) (N := some 135) (v := ?_) (a' := ?_) #[true,true,true,true,true,true,true,true,true,true,true,true,true,true,true,true,true,true,true,true,true,true,true,true,true,false,false,false,false,false,false,false,false,false,false,false,false,false,false] rfl rfl (any_of HT_.out (by kernel_rfl)) (fun _ _ _ h => h) (Or.inl ⟨by rfl, ?_⟩) ?_ ?_
                         rotate_left
                         ·intro w'
                          go_simp
                          with_reducible rfl
                         rotate_left
                         ·simp only [Act.put,a_,b_,c_,i64_w,i32_w]
                          rfl
                         refine pure_ (i := 25) (N := some 136) (v := undef) (a' := ?_) #[true,true,true,true,true,true,true,true,true,true,true,true,true,true,true,true,true,true,true,true,true,true,true,true,true,true,false,false,false,false,false,false,false,false,false,false,false,false,false] rfl rfl (any_of HT_.out (by kernel_rfl)) (fun _ _ _ h => h) (Or.inr ⟨by rfl, rfl⟩) ?_ ?_
                         rotate_left
                         ·simp only [Act.put,a_,b_,c_,i64_w,i32_w]
                          rfl
                         refine pure_ (i := 26) (N := some 137) (v := undef) (a' := ?_) #[true,true,true,true,true,true,true,true,true,true,true,true,true,true,true,true,true,true,true,true,true,true,true,true,true,true,true,false,false,false,false,false,false,false,false,false,false,false,false] rfl rfl (any_of HT_.out (by kernel_rfl)) (fun _ _ _ h => h) (Or.inr ⟨by rfl, rfl⟩) ?_ ?_
                         rotate_left
                         ·simp only [Act.put,a_,b_,c_,i64_w,i32_w]
                          rfl
                         refine pure_ (i := 27) (N := some 138) (v := undef) (a' := ?_) #[true,true,true,true,true,true,true,true,true,true,true,true,true,true,true,true,true,true,true,true,true,true,true,true,true,true,true,true,false,false,false,false,false,false,false,false,false,false,false] rfl rfl (any_of HT_.out (by kernel_rfl)) (fun _ _ _ h => h) (Or.inr ⟨by rfl, rfl⟩) ?_ ?_
                         rotate_left
                         ·simp only [Act.put,a_,b_,c_,i64_w,i32_w]
                          rfl
                         refine pure_ (i := 28) (N := some 139) (v := undef) (a' := ?_) #[true,true,true,true,true,true,true,true,true,true,true,true,true,true,true,true,true,true,true,true,true,true,true,true,true,true,true,true,true,false,false,false,false,false,false,false,false,false,false] rfl rfl (any_of HT_.out (by kernel_rfl)) (fun _ _ _ h => h) (Or.inr ⟨by rfl, rfl⟩) ?_ ?_
                         rotate_left
                         ·simp only [Act.put,a_,b_,c_,i64_w,i32_w]
                          rfl
                         refine pure_ (i := 29) (N := some 140) (v := undef) (a' := ?_) #[true,true,true,true,true,true,true,true,true,true,true,true,true,true,true,true,true,true,true,true,true,true,true,true,true,true,true,true,true,true,false,false,false,false,false,false,false,false,false] rfl rfl (any_of HT_.out (by kernel_rfl)) (fun _ _ _ h => h) (Or.inr ⟨by rfl, rfl⟩) ?_ ?_
                         rotate_left
                         ·simp only [Act.put,a_,b_,c_,i64_w,i32_w]
                          rfl
                         refine pure_ (i := 30) (N := some 141) (v := undef) (a' := ?_) #[true,true,true,true,true,true,true,true,true,true,true,true,true,true,true,true,true,true,true,true,true,true,true,true,true,true,true,true,true,true,true,false,false,false,false,false,false,false,false] rfl rfl (any_of HT_.out (by kernel_rfl)) (fun _ _ _ h => h) (Or.inr ⟨by rfl, rfl⟩) ?_ ?_
                         rotate_left
                         ·simp only [Act.put,a_,b_,c_,i64_w,i32_w]
                          rfl
                         refine pure_ (i := 31) (N := some 142) (v := undef) (a' := ?_) #[true,true,true,true,true,true,true,true,true,true,true,true,true,true,true,true,true,true,true,true,true,true,true,true,true,true,true,true,true,true,true,true,false,false,false,false,false,false,false] rfl rfl (any_of HT_.out (by kernel_rfl)) (fun _ _ _ h => h) (Or.inr ⟨by rfl, rfl⟩) ?_ ?_
                         rotate_left
                         ·simp only [Act.put,a_,b_,c_,i64_w,i32_w]
                          rfl
                         refine pure_ (i := 32) (N := some 143) (v := undef) (a' := ?_) #[true,true,true,true,true,true,true,true,true,true,true,true,true,true,true,true,true,true,true,true,true,true,true,true,true,true,true,true,true,true,true,true,true,false,false,false,false,false,false] rfl rfl (any_of HT_.out (by kernel_rfl)) (fun _ _ _ h => h) (Or.inr ⟨by rfl, rfl⟩) ?_ ?_
                         rotate_left
                         ·simp only [Act.put,a_,b_,c_,i64_w,i32_w]
                          rfl
                         refine pure_ (i := 33) (N := some 144) (v := undef) (a' := ?_) #[true,true,true,true,true,true,true,true,true,true,true,true,true,true,true,true,true,true,true,true,true,true,true,true,true,true,true,true,true,true,true,true,true,true,false,false,false,false,false] rfl rfl (any_of HT_.out (by kernel_rfl)) (fun _ _ _ h => h) (Or.inr ⟨by rfl, rfl⟩) ?_ ?_
                         rotate_left
                         ·simp only [Act.put,a_,b_,c_,i64_w,i32_w]
                          rfl
                         refine pure_ (i := 34) (N := some 145) (v := undef) (a' := ?_) #[true,true,true,true,true,true,true,true,true,true,true,true,true,true,true,true,true,true,true,true,true,true,true,true,true,true,true,true,true,true,true,true,true,true,true,false,false,false,false] rfl rfl (any_of HT_.out (by kernel_rfl)) (fun _ _ _ h => h) (Or.inr ⟨by rfl, rfl⟩) ?_ ?_
                         rotate_left
                         ·simp only [Act.put,a_,b_,c_,i64_w,i32_w]
                          rfl
                         refine pure_ (i := 35) (N := some 146) (v := undef) (a' := ?_) #[true,true,true,true,true,true,true,true,true,true,true,true,true,true,true,true,true,true,true,true,true,true,true,true,true,true,true,true,true,true,true,true,true,true,true,true,false,false,false] rfl rfl (any_of HT_.out (by kernel_rfl)) (fun _ _ _ h => h) (Or.inr ⟨by rfl, rfl⟩) ?_ ?_
                         rotate_left
                         ·simp only [Act.put,a_,b_,c_,i64_w,i32_w]
                          rfl
                         refine pure_ (i := 36) (N := some 147) (v := undef) (a' := ?_) #[true,true,true,true,true,true,true,true,true,true,true,true,true,true,true,true,true,true,true,true,true,true,true,true,true,true,true,true,true,true,true,true,true,true,true,true,true,false,false] rfl rfl (any_of HT_.out (by kernel_rfl)) (fun _ _ _ h => h) (Or.inr ⟨by rfl, rfl⟩) ?_ ?_
                         rotate_left
                         ·simp only [Act.put,a_,b_,c_,i64_w,i32_w]
                          rfl
                         refine pure_ (i := 37) (N := some 148) (v := ?_) (a' := ?_) #[true,true,true,true,true,true,true,true,true,true,true,true,true,true,true,true,true,true,true,true,true,true,true,true,true,true,true,true,true,true,true,true,true,true,true,true,true,true,false] rfl rfl (any_of HT_.out (by kernel_rfl)) (fun _ _ _ h => h) (Or.inl ⟨by rfl, ?_⟩) ?_ ?_
                         rotate_left
                         ·intro w'
                          go_simp
                          with_reducible rfl
                         rotate_left
                         ·simp only [Act.put,a_,b_,c_,i64_w,i32_w]
                          rfl
                         refine pure_ (i := 38) (N := some 149) (v := ?_) (a' := ?_) #[true,true,true,true,true,true,true,true,true,true,true,true,true,true,true,true,true,true,true,true,true,true,true,true,true,true,true,true,true,true,true,true,true,true,true,true,true,true,true] rfl rfl (any_of HT_.out (by kernel_rfl)) (fun _ _ _ h => h) (Or.inl ⟨by rfl, ?_⟩) ?_ ?_
                         rotate_left
                         ·intro w'
                          go_simp
                          with_reducible rfl
                         rotate_left
                         ·simp only [Act.put,a_,b_,c_,i64_w,i32_w]
                          rfl
                         refine done_ (done_of HT_.out (by kernel_rfl)) ?_
                         try go_wp2
                         go_ret
                         exact ⟨by first | rfl | (simp [errW_none, errW_some] <;> rfl) | (simp only [← hji42]; first | rfl | (simp [errW_none, errW_some] <;> rfl)) | (simp [*, errW_none, errW_some] <;> rfl), by repeat (first | (with_reducible first | exact HB.out | apply below_alloc | apply pw_below_drewN | apply below_drew1 | refine below_set ?_ GE211.out) | exact HB.out)⟩
                        ·rw [if_neg c45] at H
                         have c45b0 : (((rd_T47 (rd_L6 l0_0 x5_2) (ji42)).f0) == (-1)) = false := beq_eq_false_iff_ne.mpr c45
                         have c45b1 : (((rd_T47 (rd_L6 l0_0 x5_2) (ji42)).f0) != (-1)) = true := bne_iff_ne.mpr c45
                         replace H := Option.bind_eq_some_iff.mp H
                         obtain ⟨t218, A470, H⟩ := H
                         replace H : (if t218 = 2 then (if 0 ≤ x7_3 then (if x7_3 < ((rd_L6 l0_0 x5_2).length : Int) then (if (((rd_T47 (rd_L6 l0_0 x5_2) (ji42)).f1) != ((rd_T47 (rd_L6 l0_0 x5_2) x7_3).f1)) = true then (some 1) else (duetref21_Check.l1 kj30 a1 x5_2 (rd_L6 l0_0 x5_2) (wrap64 (x7_3 + 1)) l0_0 a0_1 a0_2)) else (none)) else (none)) else (some 1)) = some r := H
                         have A47 := Aside0.mk A470
                         clear A470
                         by_cases c48 : t218 = 2
                         ·rw [if_pos c48] at H
                          have c48b0 : (t218 == 2) = true := beq_iff_eq.mpr c48
                          have c48b1 : (t218 != 2) = false := bne_eq_false_iff_eq.mpr c48
                          clear c48
                          by_cases c49 : 0 ≤ x7_3
                          ·rw [if_pos c49] at H
                           have c49b0 : decide (0 ≤ x7_3) = true := decide_eq_true c49
                           clear c49
                           by_cases c50 : x7_3 < ((rd_L6 l0_0 x5_2).length : Int)
                           ·rw [if_pos c50] at H
                            have c50b0 : decide (x7_3 < ((rd_L6 l0_0 x5_2).length : Int)) = true := decide_eq_true c50
                            clear c50
                            by_cases c51 : (((rd_T47 (rd_L6 l0_0 x5_2) (ji42)).f1) != ((rd_T47 (rd_L6 l0_0 x5_2) x7_3).f1)) = true
                            ·rw [if_pos c51] at H
                             have c51b0 : (((rd_T47 (rd_L6 l0_0 x5_2) (ji42)).f1) != ((rd_T47 (rd_L6 l0_0 x5_2) x7_3).f1)) = true := c51
                             (try (have c51b1 : decide (((rd_T47 (rd_L6 l0_0 x5_2) (ji42)).f1) = ((rd_T47 (rd_L6 l0_0 x5_2) x7_3).f1)) = false := by simpa using c51))
                             (try (have c51b2 : (((rd_T47 (rd_L6 l0_0 x5_2) (ji42)).f1) == ((rd_T47 (rd_L6 l0_0 x5_2) x7_3).f1)) = false := by simpa using c51))
                             (try (have c51b3 : ¬ (((rd_T47 (rd_L6 l0_0 x5_2) (ji42)).f1) = ((rd_T47 (rd_L6 l0_0 x5_2) x7_3).f1)) := by simpa using c51))
                             clear c51
                             obtain rfl := Option.some.inj H
                             try go_wp2
                             have n0_ := Aside0.mk (blk_drew BK211.out)
                             have n1_ := Aside0.mk (below_drew1 HB.out)
                             clear BK211
                             clear HB
                             have BK211 := n0_
                             have HB := n1_
                             clear n0_ n1_
                             have p216 : 0 ≤ ((ji42) : Int) := of_decide_eq_true (by first | (with_reducible assumption) | assumption)
                             have q216 : (ji42) < ((rd_L6 l0_0 x5_2).length : Int) := of_decide_eq_true (by first | (with_reducible assumption) | assumption)
                             obtain ⟨ad216, e216, hx216_0, hx216_1⟩ := at_T47 HR212_0.out (ji42) p216 q216
                             have hw216_1 := hx216_1
                             have hw216_0 := hx216_0
                             obtain rfl : ad213 = ad216 := (by injection e216)
                             (try replace hx216_0 := (HB.out.cell (World.block_lt_of_cell? w _ hx216_0)).trans hx216_0)
                             (try replace hx216_1 := (HB.out.cell (World.block_lt_of_cell? w _ hx216_1)).trans hx216_1)
                             replace p216 := eq_true p216
                             replace q216 := eq_true q216
                             have p217 : 0 ≤ ((ji42) : Int) := of_decide_eq_true (by first | (with_reducible assumption) | assumption)
                             have q217 : (ji42) < ((rd_L6 l0_0 x5_2).length : Int) := of_decide_eq_true (by first | (with_reducible assumption) | assumption)
                             obtain ⟨ad217, e217, hx217_0, hx217_1⟩ := at_T47 HR212_0.out (ji42) p217 q217
                             have hw217_1 := hx217_1
                             have hw217_0 := hx217_0
                             obtain rfl : ad213 = ad217 := (by injection e217)
                             (try replace hx217_0 := (HB.out.cell (World.block_lt_of_cell? w _ hx217_0)).trans hx217_0)
                             (try replace hx217_1 := (HB.out.cell (World.block_lt_of_cell? w _ hx217_1)).trans hx217_1)
                             replace p217 := eq_true p217
                             replace q217 := eq_true q217
                             have p219 : 0 ≤ ((ji42) : Int) := of_decide_eq_true (by first | (with_reducible assumption) | assumption)
                             have q219 : (ji42) < ((rd_L6 l0_0 x5_2).length : Int) := of_decide_eq_true (by first | (with_reducible assumption) | assumption)
                             obtain ⟨ad219, e219, hx219_0, hx219_1⟩ := at_T47 HR212_0.out (ji42) p219 q219
                             have hw219_1 := hx219_1
                             have hw219_0 := hx219_0
                             obtain rfl : ad213 = ad219 := (by injection e219)
                             (try replace hx219_0 := (HB.out.cell (World.block_lt_of_cell? w _ hx219_0)).trans hx219_0)
                             (try replace hx219_1 := (HB.out.cell (World.block_lt_of_cell? w _ hx219_1)).trans hx219_1)
                             replace p219 := eq_true p219
                             replace q219 := eq_true q219
                             have p220 : 0 ≤ (x7_3 : Int) := of_decide_eq_true (by first | (with_reducible assumption) | assumption)
                             have q220 : x7_3 < ((rd_L6 l0_0 x5_2).length : Int) := of_decide_eq_true (by first | (with_reducible assumption) | assumption)
                             obtain ⟨ad220, e220, hx220_0, hx220_1⟩ := at_T47 HR212_0.out x7_3 p220 q220
                             have hw220_1 := hx220_1
                             have hw220_0 := hx220_0
                             obtain rfl : ad213 = ad220 := (by injection e220)
                             (try replace hx220_0 := (HB.out.cell (World.block_lt_of_cell? w _ hx220_0)).trans hx220_0)
                             (try replace hx220_1 := (HB.out.cell (World.block_lt_of_cell? w _ hx220_1)).trans hx220_1)
                             replace p220 := eq_true p220
                             replace q220 := eq_true q220
                             refine start_ (n := 39) (S := fun w' => w'.cell? (ad213.add (((ji42)).toNat * 2)) = some (.int .i64 ((rd_T47 (rd_L6 l0_0 x5_2) (ji42)).f0)) ∧ w'.cell? ⟨(ad213.add (((ji42)).toNat * 2)).block, (ad213.add (((ji42)).toNat * 2)).off + 1, none⟩ = some (.bool ((rd_T47 (rd_L6 l0_0 x5_2) (ji42)).f1)) ∧ w'.cell? (ad213.add (((ji42)).toNat * 2)) = some (.int .i64 ((rd_T47 (rd_L6 l0_0 x5_2) (ji42)).f0)) ∧ w'.cell? ⟨(ad213.add (((ji42)).toNat * 2)).block, (ad213.add (((ji42)).toNat * 2)).off + 1, none⟩ = some (.bool ((rd_T47 (rd_L6 l0_0 x5_2) (ji42)).f1)) ∧ w'.cell? (ad213.add (((ji42)).toNat * 2)) = some (.int .i64 ((rd_T47 (rd_L6 l0_0 x5_2) (ji42)).f0)) ∧ w'.cell? ⟨(ad213.add (((ji42)).toNat * 2)).block, (ad213.add (((ji42)).toNat * 2)).off + 1, none⟩ = some (.bool ((rd_T47 (rd_L6 l0_0 x5_2) (ji42)).f1)) ∧ w'.cell? (ad213.add ((x7_3).toNat * 2)) = some (.int .i64 ((rd_T47 (rd_L6 l0_0 x5_2) x7_3).f0)) ∧ w'.cell? ⟨(ad213.add ((x7_3).toNat * 2)).block, (ad213.add ((x7_3).toNat * 2)).off + 1, none⟩ = some (.bool ((rd_T47 (rd_L6 l0_0 x5_2) x7_3).f1))) (ds := []) #[false,false,false,false,false,false,false,false,false,false,false,false,false,false,false,false,false,false,false,false,false,false,false,false,false,false,false,false,false,false,false,false,false,false,false,false,false,false,false] (by kernel_rfl) rfl rfl ⟨((HB.out.cell (World.block_lt_of_cell? w _ hw216_0)).trans hw216_0), ((HB.out.cell (World.block_lt_of_cell? w _ hw216_1)).trans hw216_1), ((HB.out.cell (World.block_lt_of_cell? w _ hw217_0)).trans hw217_0), ((HB.out.cell (World.block_lt_of_cell? w _ hw217_1)).trans hw217_1), ((HB.out.cell (World.block_lt_of_cell? w _ hw219_0)).trans hw219_0), ((HB.out.cell (World.block_lt_of_cell? w _ hw219_1)).trans hw219_1), ((HB.out.cell (World.block_lt_of_cell? w _ hw220_0)).trans hw220_0), ((HB.out.cell (World.block_lt_of_cell? w _ hw220_1)).trans hw220_1)⟩ (fun hHeld => ?_); refine with_tabW duetref21_Check.tab18 duetref21_Check.bits18 (fun HT_ HW_ => ?_)
                             generalize wc.drew = w52 at BK211 HB hx216_0 hx216_1 hx217_0 hx217_1 hx219_0 hx219_1 hx220_0 hx220_1 hHeld ⊢
                             refine pure_ (i := 0) (N := some 111) (v := ?_) (a' := ?_) #[true,false,false,false,false,false,false,false,false,false,false,false,false,false,false,false,false,false,false,false,false,false,false,false,false,false,false,false,false,false,false,false,false,false,false,false,false,false,false] rfl rfl (any_of HT_.out (by kernel_rfl)) (fun _ _ _ h => h) (Or.inl ⟨by rfl, ?_⟩) ?_ ?_
                             rotate_left
                             ·intro w'
                              go_simp
                              with_reducible rfl
                             rotate_left
                             ·simp only [Act.put,a_,b_,c_,i64_w,i32_w]
                              rfl
                             refine pure_ (i := 1) (N := some 112) (v := ?_) (a' := ?_) #[true,true,false,false,false,false,false,false,false,false,false,false,false,false,false,false,false,false,false,false,false,false,false,false,false,false,false,false,false,false,false,false,false,false,false,false,false,false,false] rfl rfl (any_of HT_.out (by kernel_rfl)) (fun _ _ _ h => h) (Or.inl ⟨by rfl, ?_⟩) ?_ ?_
                             rotate_left
                             ·intro w'
                              go_simp
                              with_reducible rfl
                             rotate_left
                             ·simp only [Act.put,a_,b_,c_,i64_w,i32_w]
                              rfl
                             refine pure_ (i := 2) (N := some 113) (v := ?_) (a' := ?_) #[true,true,true,false,false,false,false,false,false,false,false,false,false,false,false,false,false,false,false,false,false,false,false,false,false,false,false,false,false,false,false,false,false,false,false,false,false,false,false] rfl rfl (any_of HT_.out (by kernel_rfl)) (fun _ _ _ h => h) (Or.inl ⟨by rfl, ?_⟩) ?_ ?_
                             rotate_left
                             ·intro w'
                              go_simp
                              with_reducible rfl
                             rotate_left
                             ·simp only [Act.put,a_,b_,c_,i64_w,i32_w]
                              rfl
                             refine pure_ (i := 3) (N := some 114) (v := ?_) (a' := ?_) #[true,true,true,true,false,false,false,false,false,false,false,false,false,false,false,false,false,false,false,false,false,false,false,false,false,false,false,false,false,false,false,false,false,false,false,false,false,false,false] rfl rfl (any_of HT_.out (by kernel_rfl)) (fun _ _ _ h => h) (Or.inl ⟨by rfl, ?_⟩) ?_ ?_
                             rotate_left
                             ·intro w'
                              go_simp
                              with_reducible rfl
                             rotate_left
                             ·simp only [Act.put,a_,b_,c_,i64_w,i32_w]
                              rfl
                             refine pure_ (i := 4) (N := some 115) (v := ?_) (a' := ?_) #[true,true,true,true,true,false,false,false,false,false,false,false,false,false,false,false,false,false,false,false,false,false,false,false,false,false,false,false,false,false,false,false,false,false,false,false,false,false,false] rfl rfl (any_of HT_.out (by kernel_rfl)) (fun _ _ _ h => h) (Or.inl ⟨by rfl, ?_⟩) ?_ ?_
                             rotate_left
                             ·intro w'
                              go_simp
                              with_reducible rfl
                             rotate_left
                             ·simp only [Act.put,a_,b_,c_,i64_w,i32_w]
                              rfl
                             refine pure_ (i := 5) (N := some 116) (v := ?_) (a' := ?_) #[true,true,true,true,true,true,false,false,false,false,false,false,false,false,false,false,false,false,false,false,false,false,false,false,false,false,false,false,false,false,false,false,false,false,false,false,false,false,false] rfl rfl (any_of HT_.out (by kernel_rfl)) (fun _ _ _ h => h) (Or.inl ⟨by rfl, ?_⟩) ?_ ?_
                             rotate_left
                             ·intro w'
                              go_simp
                              with_reducible rfl
                             rotate_left
                             ·simp only [Act.put,a_,b_,c_,i64_w,i32_w]
                              rfl
                             refine pure_ (i := 6) (N := some 117) (v := ?_) (a' := ?_) #[true,true,true,true,true,true,true,false,false,false,false,false,false,false,false,false,false,false,false,false,false,false,false,false,false,false,false,false,false,false,false,false,false,false,false,false,false,false,false] rfl rfl (any_of HT_.out (by kernel_rfl)) (fun _ _ _ h => h) (Or.inl ⟨by rfl, ?_⟩) ?_ ?_
                             rotate_left
                             ·intro w'
                              go_simp
                              with_reducible rfl
                             rotate_left
                             ·simp only [Act.put,a_,b_,c_,i64_w,i32_w]
                              rfl
                             refine pure_ (i := 7) (N := some 118) (v := ?_) (a' := ?_) #[true,true,true,true,true,true,true,true,false,false,false,false,false,false,false,false,false,false,false,false,false,false,false,false,false,false,false,false,false,false,false,false,false,false,false,false,false,false,false] rfl rfl (any_of HT_.out (by kernel_rfl)) (fun _ _ _ h => h) (Or.inl ⟨by rfl, ?_⟩) ?_ ?_
                             rotate_left
                             ·intro w'
                              go_simp
                              with_reducible rfl
                             rotate_left
                             ·simp only [Act.put,a_,b_,c_,i64_w,i32_w]
                              rfl
                             refine pure_ (i := 8) (N := some 119) (v := ?_) (a' := ?_) #[true,true,true,true,true,true,true,true,true,false,false,false,false,false,false,false,false,false,false,false,false,false,false,false,false,false,false,false,false,false,false,false,false,false,false,false,false,false,false] rfl rfl (any_of HT_.out (by kernel_rfl)) (fun _ _ _ h => h) (Or.inl ⟨by rfl, ?_⟩) ?_ ?_
                             rotate_left
                             ·intro w'
                              go_simp
                              with_reducible rfl
                             rotate_left
                             ·simp only [Act.put,a_,b_,c_,i64_w,i32_w]
                              rfl
                             refine pure_ (i := 9) (N := some 120) (v := ?_) (a' := ?_) #[true,true,true,true,true,true,true,true,true,true,false,false,false,false,false,false,false,false,false,false,false,false,false,false,false,false,false,false,false,false,false,false,false,false,false,false,false,false,false] rfl rfl (any_of HT_.out (by kernel_rfl)) (fun _ _ _ h => h) (Or.inl ⟨by rfl, ?_⟩) ?_ ?_
                             rotate_left
                             ·intro w'
                              go_simp
                              with_reducible rfl
                             rotate_left
                             ·simp only [Act.put,a_,b_,c_,i64_w,i32_w]
                              rfl
                             refine pure_ (i := 10) (N := some 121) (v := ?_) (a' := ?_) #[true,true,true,true,true,true,true,true,true,true,true,false,false,false,false,false,false,false,false,false,false,false,false,false,false,false,false,false,false,false,false,false,false,false,false,false,false,false,false] rfl rfl (any_of HT_.out (by kernel_rfl)) (fun _ _ _ h => h) (Or.inl ⟨by rfl, ?_⟩) ?_ ?_
                             rotate_left
                             ·intro w'
                              go_simp
                              with_reducible rfl
                             rotate_left
                             ·simp only [Act.put,a_,b_,c_,i64_w,i32_w]
                              rfl
                             refine take_ (i := 11) (N := some 122) (v := ?_) (a' := ?_) #[true,true,true,true,true,true,true,true,true,true,true,true,false,false,false,false,false,false,false,false,false,false,false,false,false,false,false,false,false,false,false,false,false,false,false,false,false,false,false] rfl rfl (take_ofW HT_.out HW_.out (by kernel_rfl)) (fun _ _ _ h => h) (Or.inl ⟨by rfl, ?_⟩) hHeld ?_ ?_
                             rotate_left
                             ·rintro w' ⟨s0, s1, s2, s3, s4, s5, s6, s7⟩
                              go_simp
                              with_reducible rfl
                             rotate_left
                             ·simp only [Act.put,a_,b_,c_,i64_w,i32_w]
                              rfl
                             refine pure_ (i := 12) (N := some 123) (v := ?_) (a' := ?_) #[true,true,true,true,true,true,true,true,true,true,true,true,true,false,false,false,false,false,false,false,false,false,false,false,false,false,false,false,false,false,false,false,false,false,false,false,false,false,false] rfl rfl (any_of HT_.out (by kernel_rfl)) (fun _ _ _ h => h) (Or.inl ⟨by rfl, ?_⟩) ?_ ?_
                             rotate_left
                             ·intro w'
                              go_simp
                              with_reducible rfl
                             rotate_left
                             ·simp only [Act.put,a_,b_,c_,i64_w,i32_w]
                              rfl
                             refine pure_ (i := 13) (N := some 124) (v := ?_) (a' := ?_) #[true,true,true,true,true,true,true,true,true,true,true,true,true,true,false,false,false,false,false,false,false,false,false,false,false,false,false,false,false,false,false,false,false,false,false,false,false,false,false] rfl rfl (any_of HT_.out (by kernel_rfl)) (fun _ _ _ h => h) (Or.inl ⟨by rfl, ?_⟩) ?_ ?_
                             rotate_left
                             ·intro w'
                              go_simp
                              with_reducible rfl
                             rotate_left
                             ·simp only [Act.put,a_,b_,c_,i64_w,i32_w]
                              rfl
                             refine pure_ (i := 14) (N := some 125) (v := ?_) (a' := ?_) #[true,true,true,true,true,true,true,true,true,true,true,true,true,true,true,false,false,false,false,false,false,false,false,false,false,false,false,false,false,false,false,false,false,false,false,false,false,false,false] rfl rfl (any_of HT_.out (by kernel_rfl)) (fun _ _ _ h => h) (Or.inl ⟨by rfl, ?_⟩) ?_ ?_
                             rotate_left
                             ·intro w'
                              go_simp
                              with_reducible rfl
                             rotate_left
                             ·simp only [Act.put,a_,b_,c_,i64_w,i32_w]
                              rfl
                             refine pure_ (i := 15) (N := some 126) (v := ?_) (a' := ?_) #[true,true,true,true,true,true,true,true,true,true,true,true,true,true,true,true,false,false,false,false,false,false,false,false,false,false,false,false,false,false,false,false,false,false,false,false,false,false,false] rfl rfl (any_of HT_.out (by kernel_rfl)) (fun _ _ _ h => h) (Or.inl ⟨by rfl, ?_⟩) ?_ ?_
                             rotate_left
                             ·intro w'
                              go_simp
                              with_reducible rfl
                             rotate_left
                             ·simp only [Act.put,a_,b_,c_,i64_w,i32_w]
                              rfl
                             refine pure_ (i := 16) (N := some 127) (v := ?_) (a' := ?_) #[true,true,true,true,true,true,true,true,true,true,true,true,true,true,true,true,true,false,false,false,false,false,false,false,false,false,false,false,false,false,false,false,false,false,false,false,false,false,false] rfl rfl (any_of HT_.out (by kernel_rfl)) (fun _ _ _ h => h) (Or.inl ⟨by rfl, ?_⟩) ?_ ?_
                             rotate_left
                             ·intro w'
                              go_simp
                              with_reducible rfl
                             rotate_left
                             ·simp only [Act.put,a_,b_,c_,i64_w,i32_w]
                              rfl
                             refine pure_ (i := 17) (N := some 128) (v := ?_) (a' := ?_) #[true,true,true,true,true,true,true,true,true,true,true,true,true,true,true,true,true,true,false,false,false,false,false,false,false,false,false,false,false,false,false,false,false,false,false,false,false,false,false] rfl rfl (any_of HT_.out (by kernel_rfl)) (fun _ _ _ h => h) (Or.inl ⟨by rfl, ?_⟩) ?_ ?_
                             rotate_left
                             ·intro w'
                              go_simp
                              with_reducible rfl
                             rotate_left
                             ·simp only [Act.put,a_,b_,c_,i64_w,i32_w]
                              rfl
                             refine pure_ (i := 18) (N := some 129) (v := ?_) (a' := ?_) #[true,true,true,true,true,true,true,true,true,true,true,true,true,true,true,true,true,true,true,false,false,false,false,false,false,false,false,false,false,false,false,false,false,false,false,false,false,false,false] rfl rfl (any_of HT_.out (by kernel_rfl)) (fun _ _ _ h => h) (Or.inl ⟨by rfl, ?_⟩) ?_ ?_
                             rotate_left
                             ·intro w'
                              go_simp
                              with_reducible rfl
                             rotate_left
                             ·simp only [Act.put,a_,b_,c_,i64_w,i32_w]
                              rfl
                             refine pure_ (i := 19) (N := some 130) (v := ?_) (a' := ?_) #[true,true,true,true,true,true,true,true,true,true,true,true,true,true,true,true,true,true,true,true,false,false,false,false,false,false,false,false,false,false,false,false,false,false,false,false,false,false,false] rfl rfl (any_of HT_.out (by kernel_rfl)) (fun _ _ _ h => h) (Or.inl ⟨by rfl, ?_⟩) ?_ ?_
                             rotate_left
                             ·intro w'
                              go_simp
                              with_reducible rfl
                             rotate_left
                             ·simp only [Act.put,a_,b_,c_,i64_w,i32_w]
                              rfl
                             refine take_ (i := 20) (N := some 131) (v := ?_) (a' := ?_) #[true,true,true,true,true,true,true,true,true,true,true,true,true,true,true,true,true,true,true,true,true,false,false,false,false,false,false,false,false,false,false,false,false,false,false,false,false,false,false] rfl rfl (take_ofW HT_.out HW_.out (by kernel_rfl)) (fun _ _ _ h => h) (Or.inl ⟨by rfl, ?_⟩) hHeld ?_ ?_
                             rotate_left
                             ·rintro w' ⟨s0, s1, s2, s3, s4, s5, s6, s7⟩
                              go_simp
                              with_reducible rfl
                             rotate_left
                             ·simp only [Act.put,a_,b_,c_,i64_w,i32_w]
                              rfl
                             refine one_ (i := 21) (N := some 132) #[true,true,true,true,true,true,true,true,true,true,true,true,true,true,true,true,true,true,true,true,true,true,false,false,false,false,false,false,false,false,false,false,false,false,false,false,false,false,false] rfl rfl (one_of HT_.out (by kernel_rfl)) (by decide) (fun K hK => ?_)
                             refine goes_ Tryd.func20 (by kernel_rfl) rfl #[.int .i64 ((rd_T47 (rd_L6 l0_0 x5_2) (ji42)).f0)] (by rfl) rfl rfl (by (try simp only [List.map_toArray, List.map_cons, List.map_nil]); first | done | (simp only [hji42]; rfl) | rfl | (simp only [List.length_drop, List.length_take]; rfl)) ?_
                             with_reducible refine (duetref20_Width.calls kj30 ((rd_T47 (rd_L6 l0_0 x5_2) (ji42)).f0) t218 _ A47.out).mono ?_
                             rintro e w' ⟨rfl, ⟨nd, rfl⟩⟩
                             refine ⟨_, rfl, ?_⟩
                             refine hK.out _ _ ⟨((HB.out.cell (World.block_lt_of_cell? w _ hw216_0)).trans hw216_0), ((HB.out.cell (World.block_lt_of_cell? w _ hw216_1)).trans hw216_1), ((HB.out.cell (World.block_lt_of_cell? w _ hw217_0)).trans hw217_0), ((HB.out.cell (World.block_lt_of_cell? w _ hw217_1)).trans hw217_1), ((HB.out.cell (World.block_lt_of_cell? w _ hw219_0)).trans hw219_0), ((HB.out.cell (World.block_lt_of_cell? w _ hw219_1)).trans hw219_1), ((HB.out.cell (World.block_lt_of_cell? w _ hw220_0)).trans hw220_0), ((HB.out.cell (World.block_lt_of_cell? w _ hw220_1)).trans hw220_1)⟩ (fun hHeld => ?_)
                             clear hK K
                             refine norm_ (a' := ?_) ?_ ?_
                             rotate_left
                             ·show Act.put _ (some 132) _ = _
                              simp only [Act.put,a_,b_,c_,i64_w,i32_w]
                              rfl
                             refine pure_ (i := 22) (N := some 133) (v := ?_) (a' := ?_) #[true,true,true,true,true,true,true,true,true,true,true,true,true,true,true,true,true,true,true,true,true,true,true,false,false,false,false,false,false,false,false,false,false,false,false,false,false,false,false] rfl rfl (any_of HT_.out (by kernel_rfl)) (fun _ _ _ h => h) (Or.inl ⟨by rfl, ?_⟩) ?_ ?_
                             rotate_left
                             ·intro w'
                              go_simp
                              with_reducible rfl
                             rotate_left
                             ·simp only [Act.put,a_,b_,c_,i64_w,i32_w]
                              rfl
                             refine pure_ (i := 23) (N := some 134) (v := ?_) (a' := ?_) #[true,true,true,true,true,true,true,true,true,true,true,true,true,true,true,true,true,true,true,true,true,true,true,true,false,false,false,false,false,false,false,false,false,false,false,false,false,false,false] rfl rfl (any_of HT_.out (by kernel_rfl)) (fun _ _ _ h => h) (Or.inl ⟨by rfl, ?_⟩) ?_ ?_
                             rotate_left
                             ·intro w'
                              go_simp
                              with_reducible rfl
                             rotate_left
                             ·simp only [Act.put,a_,b_,c_,i64_w,i32_w]
                              rfl
                             refine pure_ (i := 24) (N := some 135) (v := ?_) (a' := ?_) #[true,true,true,true,true,true,true,true,true,true,true,true,true,true,true,true,true,true,true,true,true,true,true,true,true,false,false,false,false,false,false,false,false,false,false,false,false,false,false] rfl rfl (any_of HT_.out (by kernel_rfl)) (fun _ _ _ h => h) (Or.inl ⟨by rfl, ?_⟩) ?_ ?_
                             rotate_left
                             ·intro w'
                              go_simp
                              with_reducible rfl
                             rotate_left
                             ·simp only [Act.put,a_,b_,c_,i64_w,i32_w]
                              rfl
                             refine pure_ (i := 25) (N := some 136) (v := ?_) (a' := ?_) #[true,true,true,true,true,true,true,true,true,true,true,true,true,true,true,true,true,true,true,true,true,true,true,true,true,true,false,false,false,false,false,false,false,false,false,false,false,false,false] rfl rfl (any_of HT_.out (by kernel_rfl)) (fun _ _ _ h => h) (Or.inl ⟨by rfl, ?_⟩) ?_ ?_
                             rotate_left
                             ·intro w'
                              go_simp
                              with_reducible rfl
                             rotate_left
                             ·simp only [Act.put,a_,b_,c_,i64_w,i32_w]
                              rfl
                             refine pure_ (i := 26) (N := some 137) (v := ?_) (a' := ?_) #[true,true,true,true,true,true,true,true,true,true,true,true,true,true,true,true,true,true,true,true,true,true,true,true,true,true,true,false,false,false,false,false,false,false,false,false,false,false,false] rfl rfl (any_of HT_.out (by kernel_rfl)) (fun _ _ _ h => h) (Or.inl ⟨by rfl, ?_⟩) ?_ ?_
                             rotate_left
                             ·intro w'
                              go_simp
                              with_reducible rfl
                             rotate_left
                             ·simp only [Act.put,a_,b_,c_,i64_w,i32_w]
                              rfl
                             refine pure_ (i := 27) (N := some 138) (v := ?_) (a' := ?_) #[true,true,true,true,true,true,true,true,true,true,true,true,true,true,true,true,true,true,true,true,true,true,true,true,true,true,true,true,false,false,false,false,false,false,false,false,false,false,false] rfl rfl (any_of HT_.out (by kernel_rfl)) (fun _ _ _ h => h) (Or.inl ⟨by rfl, ?_⟩) ?_ ?_
                             rotate_left
                             ·intro w'
                              go_simp
                              with_reducible rfl
                             rotate_left
                             ·simp only [Act.put,a_,b_,c_,i64_w,i32_w]
                              rfl
                             refine pure_ (i := 28) (N := some 139) (v := ?_) (a' := ?_) #[true,true,true,true,true,true,true,true,true,true,true,true,true,true,true,true,true,true,true,true,true,true,true,true,true,true,true,true,true,false,false,false,false,false,false,false,false,false,false] rfl rfl (any_of HT_.out (by kernel_rfl)) (fun _ _ _ h => h) (Or.inl ⟨by rfl, ?_⟩) ?_ ?_
                             rotate_left
                             ·intro w'
                              go_simp
                              with_reducible rfl
                             rotate_left
                             ·simp only [Act.put,a_,b_,c_,i64_w,i32_w]
                              rfl
                             refine pure_ (i := 29) (N := some 140) (v := ?_) (a' := ?_) #[true,true,true,true,true,true,true,true,true,true,true,true,true,true,true,true,true,true,true,true,true,true,true,true,true,true,true,true,true,true,false,false,false,false,false,false,false,false,false] rfl rfl (any_of HT_.out (by kernel_rfl)) (fun _ _ _ h => h) (Or.inl ⟨by rfl, ?_⟩) ?_ ?_
                             rotate_left
                             ·intro w'
                              go_simp
                              with_reducible rfl
                             rotate_left
                             ·simp only [Act.put,a_,b_,c_,i64_w,i32_w]
                              rfl
                             refine pure_ (i := 31) (N := some 142) (v := ?_) (a' := ?_) #[true,true,true,true,true,true,true,true,true,true,true,true,true,true,true,true,true,true,true,true,true,true,true,true,true,true,true,true,true,true,false,true,false,false,false,false,false,false,false] rfl rfl (any_of HT_.out (by kernel_rfl)) (fun _ _ _ h => h) (Or.inl ⟨by rfl, ?_⟩) ?_ ?_
                             rotate_left
                             ·intro w'
                              go_simp
                              with_reducible rfl
                             rotate_left
                             ·simp only [Act.put,a_,b_,c_,i64_w,i32_w]
                              rfl
                             refine pure_ (i := 32) (N := some 143) (v := ?_) (a' := ?_) #[true,true,true,true,true,true,true,true,true,true,true,true,true,true,true,true,true,true,true,true,true,true,true,true,true,true,true,true,true,true,false,true,true,false,false,false,false,false,false] rfl rfl (any_of HT_.out (by kernel_rfl)) (fun _ _ _ h => h) (Or.inl ⟨by rfl, ?_⟩) ?_ ?_
                             rotate_left
                             ·intro w'
                              go_simp
                              with_reducible rfl
                             rotate_left
                             ·simp only [Act.put,a_,b_,c_,i64_w,i32_w]
                              rfl
                             refine pure_ (i := 33) (N := some 144) (v := ?_) (a' := ?_) #[true,true,true,true,true,true,true,true,true,true,true,true,true,true,true,true,true,true,true,true,true,true,true,true,true,true,true,true,true,true,false,true,true,true,false,false,false,false,false] rfl rfl (any_of HT_.out (by kernel_rfl)) (fun _ _ _ h => h) (Or.inl ⟨by rfl, ?_⟩) ?_ ?_
                             rotate_left
                             ·intro w'
                              go_simp
                              with_reducible rfl
                             rotate_left
                             ·simp only [Act.put,a_,b_,c_,i64_w,i32_w]
                              rfl
                             refine pure_ (i := 34) (N := some 145) (v := ?_) (a' := ?_) #[true,true,true,true,true,true,true,true,true,true,true,true,true,true,true,true,true,true,true,true,true,true,true,true,true,true,true,true,true,true,false,true,true,true,true,false,false,false,false] rfl rfl (any_of HT_.out (by kernel_rfl)) (fun _ _ _ h => h) (Or.inl ⟨by rfl, ?_⟩) ?_ ?_
                             rotate_left
                             ·intro w'
                              go_simp
                              with_reducible rfl
                             rotate_left
                             ·simp only [Act.put,a_,b_,c_,i64_w,i32_w]
                              rfl
                             refine take_ (i := 30) (N := some 141) (v := ?_) (a' := ?_) #[true,true,true,true,true,true,true,true,true,true,true,true,true,true,true,true,true,true,true,true,true,true,true,true,true,true,true,true,true,true,true,true,true,true,true,false,false,false,false] rfl rfl (take_ofW HT_.out HW_.out (by kernel_rfl)) (fun _ _ _ h => h) (Or.inl ⟨by rfl, ?_⟩) hHeld ?_ ?_
                             rotate_left
                             ·rintro w' ⟨s0, s1, s2, s3, s4, s5, s6, s7⟩
                              go_simp
                              with_reducible rfl
                             rotate_left
                             ·simp only [Act.put,a_,b_,c_,i64_w,i32_w]
                              rfl
                             refine take_ (i := 35) (N := some 146) (v := ?_) (a' := ?_) #[true,true,true,true,true,true,true,true,true,true,true,true,true,true,true,true,true,true,true,true,true,true,true,true,true,true,true,true,true,true,true,true,true,true,true,true,false,false,false] rfl rfl (take_ofW HT_.out HW_.out (by kernel_rfl)) (fun _ _ _ h => h) (Or.inl ⟨by rfl, ?_⟩) hHeld ?_ ?_
                             rotate_left
                             ·rintro w' ⟨s0, s1, s2, s3, s4, s5, s6, s7⟩
                              go_simp
                              with_reducible rfl
                             rotate_left
                             ·simp only [Act.put,a_,b_,c_,i64_w,i32_w]
                              rfl
                             refine pure_ (i := 36) (N := some 147) (v := ?_) (a' := ?_) #[true,true,true,true,true,true,true,true,true,true,true,true,true,true,true,true,true,true,true,true,true,true,true,true,true,true,true,true,true,true,true,true,true,true,true,true,true,false,false] rfl rfl (any_of HT_.out (by kernel_rfl)) (fun _ _ _ h => h) (Or.inl ⟨by rfl, ?_⟩) ?_ ?_
                             rotate_left
                             ·intro w'
                              go_simp
                              with_reducible rfl
                             rotate_left
                             ·simp only [Act.put,a_,b_,c_,i64_w,i32_w]
                              rfl
                             refine pure_ (i := 37) (N := some 148) (v := ?_) (a' := ?_) #[true,true,true,true,true,true,true,true,true,true,true,true,true,true,true,true,true,true,true,true,true,true,true,true,true,true,true,true,true,true,true,true,true,true,true,true,true,true,false] rfl rfl (any_of HT_.out (by kernel_rfl)) (fun _ _ _ h => h) (Or.inl ⟨by rfl, ?_⟩) ?_ ?_
                             rotate_left
                             ·intro w'
                              go_simp
                              with_reducible rfl
                             rotate_left
                             ·simp only [Act.put,a_,b_,c_,i64_w,i32_w]
                              rfl
                             refine pure_ (i := 38) (N := some 149) (v := ?_) (a' := ?_) #[true,true,true,true,true,true,true,true,true,true,true,true,true,true,true,true,true,true,true,true,true,true,true,true,true,true,true,true,true,true,true,true,true,true,true,true,true,true,true] rfl rfl (any_of HT_.out (by kernel_rfl)) (fun _ _ _ h => h) (Or.inl ⟨by rfl, ?_⟩) ?_ ?_
                             rotate_left
                             ·intro w'
                              go_simp
                              with_reducible rfl
                             rotate_left
                             ·simp only [Act.put,a_,b_,c_,i64_w,i32_w]
                              rfl
                             refine done_ (done_of HT_.out (by kernel_rfl)) ?_
                             try go_wp2
                             go_ret
                             exact ⟨by first | rfl | (simp [errW_none, errW_some] <;> rfl) | (simp only [← hji42]; first | rfl | (simp [errW_none, errW_some] <;> rfl)) | (simp [*, errW_none, errW_some] <;> rfl), by repeat (first | (with_reducible first | exact HB.out | apply below_alloc | apply pw_below_drewN | apply below_drew1 | refine below_set ?_ GE211.out) | exact HB.out)⟩
                            ·rw [if_neg c51] at H
                             have c51b0 : (((rd_T47 (rd_L6 l0_0 x5_2) (ji42)).f1) != ((rd_T47 (rd_L6 l0_0 x5_2) x7_3).f1)) = false := by simpa using c51
                             (try (have c51b1 : decide (((rd_T47 (rd_L6 l0_0 x5_2) (ji42)).f1) = ((rd_T47 (rd_L6 l0_0 x5_2) x7_3).f1)) = true := by simpa using c51))
                             (try (have c51b2 : (((rd_T47 (rd_L6 l0_0 x5_2) (ji42)).f1) == ((rd_T47 (rd_L6 l0_0 x5_2) x7_3).f1)) = true := by simpa using c51))
                             clear c51
                             have H' := Aside0.mk H
                             clear H
                             try go_wp2
                             have n0_ := Aside0.mk (blk_drew BK211.out)
                             have n1_ := Aside0.mk (below_drew1 HB.out)
                             clear BK211
                             clear HB
                             have BK211 := n0_
                             have HB := n1_
                             clear n0_ n1_
                             have p216 : 0 ≤ ((ji42) : Int) := of_decide_eq_true (by first | (with_reducible assumption) | assumption)
                             have q216 : (ji42) < ((rd_L6 l0_0 x5_2).length : Int) := of_decide_eq_true (by first | (with_reducible assumption) | assumption)
                             obtain ⟨ad216, e216, hx216_0, hx216_1⟩ := at_T47 HR212_0.out (ji42) p216 q216
                             have hw216_1 := hx216_1
                             have hw216_0 := hx216_0
                             obtain rfl : ad213 = ad216 := (by injection e216)
                             (try replace hx216_0 := (HB.out.cell (World.block_lt_of_cell? w _ hx216_0)).trans hx216_0)
                             (try replace hx216_1 := (HB.out.cell (World.block_lt_of_cell? w _ hx216_1)).trans hx216_1)
                             replace p216 := eq_true p216
                             replace q216 := eq_true q216
                             have p217 : 0 ≤ ((ji42) : Int) := of_decide_eq_true (by first | (with_reducible assumption) | assumption)
                             have q217 : (ji42) < ((rd_L6 l0_0 x5_2).length : Int) := of_decide_eq_true (by first | (with_reducible assumption) | assumption)
                             obtain ⟨ad217, e217, hx217_0, hx217_1⟩ := at_T47 HR212_0.out (ji42) p217 q217
                             have hw217_1 := hx217_1
                             have hw217_0 := hx217_0
                             obtain rfl : ad213 = ad217 := (by injection e217)
                             (try replace hx217_0 := (HB.out.cell (World.block_lt_of_cell? w _ hx217_0)).trans hx217_0)
                             (try replace hx217_1 := (HB.out.cell (World.block_lt_of_cell? w _ hx217_1)).trans hx217_1)
                             replace p217 := eq_true p217
                             replace q217 := eq_true q217
                             have p219 : 0 ≤ ((ji42) : Int) := of_decide_eq_true (by first | (with_reducible assumption) | assumption)
                             have q219 : (ji42) < ((rd_L6 l0_0 x5_2).length : Int) := of_decide_eq_true (by first | (with_reducible assumption) | assumption)
                             obtain ⟨ad219, e219, hx219_0, hx219_1⟩ := at_T47 HR212_0.out (ji42) p219 q219
                             have hw219_1 := hx219_1
                             have hw219_0 := hx219_0
                             obtain rfl : ad213 = ad219 := (by injection e219)
                             (try replace hx219_0 := (HB.out.cell (World.block_lt_of_cell? w _ hx219_0)).trans hx219_0)
                             (try replace hx219_1 := (HB.out.cell (World.block_lt_of_cell? w _ hx219_1)).trans hx219_1)
                             replace p219 := eq_true p219
                             replace q219 := eq_true q219
                             have p220 : 0 ≤ (x7_3 : Int) := of_decide_eq_true (by first | (with_reducible assumption) | assumption)
                             have q220 : x7_3 < ((rd_L6 l0_0 x5_2).length : Int) := of_decide_eq_true (by first | (with_reducible assumption) | assumption)
                             obtain ⟨ad220, e220, hx220_0, hx220_1⟩ := at_T47 HR212_0.out x7_3 p220 q220
                             have hw220_1 := hx220_1
                             have hw220_0 := hx220_0
                             obtain rfl : ad213 = ad220 := (by injection e220)
                             (try replace hx220_0 := (HB.out.cell (World.block_lt_of_cell? w _ hx220_0)).trans hx220_0)
                             (try replace hx220_1 := (HB.out.cell (World.block_lt_of_cell? w _ hx220_1)).trans hx220_1)
                             replace p220 := eq_true p220
                             replace q220 := eq_true q220
                             refine start_ (n := 39) (S := fun w' => w'.cell? (ad213.add (((ji42)).toNat * 2)) = some (.int .i64 ((rd_T47 (rd_L6 l0_0 x5_2) (ji42)).f0)) ∧ w'.cell? ⟨(ad213.add (((ji42)).toNat * 2)).block, (ad213.add (((ji42)).toNat * 2)).off + 1, none⟩ = some (.bool ((rd_T47 (rd_L6 l0_0 x5_2) (ji42)).f1)) ∧ w'.cell? (ad213.add (((ji42)).toNat * 2)) = some (.int .i64 ((rd_T47 (rd_L6 l0_0 x5_2) (ji42)).f0)) ∧ w'.cell? ⟨(ad213.add (((ji42)).toNat * 2)).block, (ad213.add (((ji42)).toNat * 2)).off + 1, none⟩ = some (.bool ((rd_T47 (rd_L6 l0_0 x5_2) (ji42)).f1)) ∧ w'.cell? (ad213.add (((ji42)).toNat * 2)) = some (.int .i64 ((rd_T47 (rd_L6 l0_0 x5_2) (ji42)).f0)) ∧ w'.cell? ⟨(ad213.add (((ji42)).toNat * 2)).block, (ad213.add (((ji42)).toNat * 2)).off + 1, none⟩ = some (.bool ((rd_T47 (rd_L6 l0_0 x5_2) (ji42)).f1)) ∧ w'.cell? (ad213.add ((x7_3).toNat * 2)) = some (.int .i64 ((rd_T47 (rd_L6 l0_0 x5_2) x7_3).f0)) ∧ w'.cell? ⟨(ad213.add ((x7_3).toNat * 2)).block, (ad213.add ((x7_3).toNat * 2)).off + 1, none⟩ = some (.bool ((rd_T47 (rd_L6 l0_0 x5_2) x7_3).f1))) (ds := []) #[false,false,false,false,false,false,false,false,false,false,false,false,false,false,false,false,false,false,false,false,false,false,false,false,false,false,false,false,false,false,false,false,false,false,false,false,false,false,false] (by kernel_rfl) rfl rfl ⟨((HB.out.cell (World.block_lt_of_cell? w _ hw216_0)).trans hw216_0), ((HB.out.cell (World.block_lt_of_cell? w _ hw216_1)).trans hw216_1), ((HB.out.cell (World.block_lt_of_cell? w _ hw217_0)).trans hw217_0), ((HB.out.cell (World.block_lt_of_cell? w _ hw217_1)).trans hw217_1), ((HB.out.cell (World.block_lt_of_cell? w _ hw219_0)).trans hw219_0), ((HB.out.cell (World.block_lt_of_cell? w _ hw219_1)).trans hw219_1), ((HB.out.cell (World.block_lt_of_cell? w _ hw220_0)).trans hw220_0), ((HB.out.cell (World.block_lt_of_cell? w _ hw220_1)).trans hw220_1)⟩ (fun hHeld => ?_); refine with_tabW duetref21_Check.tab18 duetref21_Check.bits18 (fun HT_ HW_ => ?_)
                             generalize wc.drew = w53 at BK211 HB hx216_0 hx216_1 hx217_0 hx217_1 hx219_0 hx219_1 hx220_0 hx220_1 hHeld ⊢
                             refine pure_ (i := 0) (N := some 111) (v := ?_) (a' := ?_) #[true,false,false,false,false,false,false,false,false,false,false,false,false,false,false,false,false,false,false,false,false,false,false,false,false,false,false,false,false,false,false,false,false,false,false,false,false,false,false] rfl rfl (any_of HT_.out (by kernel_rfl)) (fun _ _ _ h => h) (Or.inl ⟨by rfl, ?_⟩) ?_ ?_
                             rotate_left
                             ·intro w'
                              go_simp
                              with_reducible rfl
                             rotate_left
                             ·simp only [Act.put,a_,b_,c_,i64_w,i32_w]
                              rfl
                             refine pure_ (i := 1) (N := some 112) (v := ?_) (a' := ?_) #[true,true,false,false,false,false,false,false,false,false,false,false,false,false,false,false,false,false,false,false,false,false,false,false,false,false,false,false,false,false,false,false,false,false,false,false,false,false,false] rfl rfl (any_of HT_.out (by kernel_rfl)) (fun _ _ _ h => h) (Or.inl ⟨by rfl, ?_⟩) ?_ ?_
                             rotate_left
                             ·intro w'
                              go_simp
                              with_reducible rfl
                             rotate_left
                             ·simp only [Act.put,a_,b_,c_,i64_w,i32_w]
                              rfl
                             refine pure_ (i := 2) (N := some 113) (v := ?_) (a' := ?_) #[true,true,true,false,false,false,false,false,false,false,false,false,false,false,false,false,false,false,false,false,false,false,false,false,false,false,false,false,false,false,false,false,false,false,false,false,false,false,false] rfl rfl (any_of HT_.out (by kernel_rfl)) (fun _ _ _ h => h) (Or.inl ⟨by rfl, ?_⟩) ?_ ?_
                             rotate_left
                             ·intro w'
                              go_simp
                              with_reducible rfl
                             rotate_left
                             ·simp only [Act.put,a_,b_,c_,i64_w,i32_w]
                              rfl
                             refine pure_ (i := 3) (N := some 114) (v := ?_) (a' := ?_) #[true,true,true,true,false,false,false,false,false,false,false,false,false,false,false,false,false,false,false,false,false,false,false,false,false,false,false,false,false,false,false,false,false,false,false,false,false,false,false] rfl rfl (any_of HT_.out (by kernel_rfl)) (fun _ _ _ h => h) (Or.inl ⟨by rfl, ?_⟩) ?_ ?_
                             rotate_left
                             ·intro w'
                              go_simp
                              with_reducible rfl
                             rotate_left
                             ·simp only [Act.put,a_,b_,c_,i64_w,i32_w]
                              rfl
                             refine pure_ (i := 4) (N := some 115) (v := ?_) (a' := ?_) #[true,true,true,true,true,false,false,false,false,false,false,false,false,false,false,false,false,false,false,false,false,false,false,false,false,false,false,false,false,false,false,false,false,false,false,false,false,false,false] rfl rfl (any_of HT_.out (by kernel_rfl)) (fun _ _ _ h => h) (Or.inl ⟨by rfl, ?_⟩) ?_ ?_
                             rotate_left
                             ·intro w'
                              go_simp
                              with_reducible rfl
                             rotate_left
                             ·simp only [Act.put,a_,b_,c_,i64_w,i32_w]
                              rfl
                             refine pure_ (i := 5) (N := some 116) (v := ?_) (a' := ?_) #[true,true,true,true,true,true,false,false,false,false,false,false,false,false,false,false,false,false,false,false,false,false,false,false,false,false,false,false,false,false,false,false,false,false,false,false,false,false,false] rfl rfl (any_of HT_.out (by kernel_rfl)) (fun _ _ _ h => h) (Or.inl ⟨by rfl, ?_⟩) ?_ ?_
                             rotate_left
                             ·intro w'
                              go_simp
                              with_reducible rfl
                             rotate_left
                             ·simp only [Act.put,a_,b_,c_,i64_w,i32_w]
                              rfl
                             refine pure_ (i := 6) (N := some 117) (v := ?_) (a' := ?_) #[true,true,true,true,true,true,true,false,false,false,false,false,false,false,false,false,false,false,false,false,false,false,false,false,false,false,false,false,false,false,false,false,false,false,false,false,false,false,false] rfl rfl (any_of HT_.out (by kernel_rfl)) (fun _ _ _ h => h) (Or.inl ⟨by rfl, ?_⟩) ?_ ?_
                             rotate_left
                             ·intro w'
                              go_simp
                              with_reducible rfl
                             rotate_left
                             ·simp only [Act.put,a_,b_,c_,i64_w,i32_w]
                              rfl
                             refine pure_ (i := 7) (N := some 118) (v := ?_) (a' := ?_) #[true,true,true,true,true,true,true,true,false,false,false,false,false,false,false,false,false,false,false,false,false,false,false,false,false,false,false,false,false,false,false,false,false,false,false,false,false,false,false] rfl rfl (any_of HT_.out (by kernel_rfl)) (fun _ _ _ h => h) (Or.inl ⟨by rfl, ?_⟩) ?_ ?_
                             rotate_left
                             ·intro w'
                              go_simp
                              with_reducible rfl
                             rotate_left
                             ·simp only [Act.put,a_,b_,c_,i64_w,i32_w]
                              rfl
                             refine pure_ (i := 8) (N := some 119) (v := ?_) (a' := ?_) #[true,true,true,true,true,true,true,true,true,false,false,false,false,false,false,false,false,false,false,false,false,false,false,false,false,false,false,false,false,false,false,false,false,false,false,false,false,false,false] rfl rfl (any_of HT_.out (by kernel_rfl)) (fun _ _ _ h => h) (Or.inl ⟨by rfl, ?_⟩) ?_ ?_
                             rotate_left
                             ·intro w'
                              go_simp
                              with_reducible rfl
                             rotate_left
                             ·simp only [Act.put,a_,b_,c_,i64_w,i32_w]
                              rfl
                             refine pure_ (i := 9) (N := some 120) (v := ?_) (a' := ?_) #[true,true,true,true,true,true,true,true,true,true,false,false,false,false,false,false,false,false,false,false,false,false,false,false,false,false,false,false,false,false,false,false,false,false,false,false,false,false,false] rfl rfl (any_of HT_.out (by kernel_rfl)) (fun _ _ _ h => h) (Or.inl ⟨by rfl, ?_⟩) ?_ ?_
                             rotate_left
                             ·intro w'
                              go_simp
                              with_reducible rfl
                             rotate_left
                             ·simp only [Act.put,a_,b_,c_,i64_w,i32_w]
                              rfl
                             refine pure_ (i := 10) (N := some 121) (v := ?_) (a' := ?_) #[true,true,true,true,true,true,true,true,true,true,true,false,false,false,false,false,false,false,false,false,false,false,false,false,false,false,false,false,false,false,false,false,false,false,false,false,false,false,false] rfl rfl (any_of HT_.out (by kernel_rfl)) (fun _ _ _ h => h) (Or.inl ⟨by rfl, ?_⟩) ?_ ?_
                             rotate_left
                             ·intro w'
                              go_simp
                              with_reducible rfl
                             rotate_left
                             ·simp only [Act.put,a_,b_,c_,i64_w,i32_w]
                              rfl
                             refine take_ (i := 11) (N := some 122) (v := ?_) (a' := ?_) #[true,true,true,true,true,true,true,true,true,true,true,true,false,false,false,false,false,false,false,false,false,false,false,false,false,false,false,false,false,false,false,false,false,false,false,false,false,false,false] rfl rfl (take_ofW HT_.out HW_.out (by kernel_rfl)) (fun _ _ _ h => h) (Or.inl ⟨by rfl, ?_⟩) hHeld ?_ ?_
                             rotate_left
                             ·rintro w' ⟨s0, s1, s2, s3, s4, s5, s6, s7⟩
                              go_simp
                              with_reducible rfl
                             rotate_left
                             ·simp only [Act.put,a_,b_,c_,i64_w,i32_w]
                              rfl
                             refine pure_ (i := 12) (N := some 123) (v := ?_) (a' := ?_) #[true,true,true,true,true,true,true,true,true,true,true,true,true,false,false,false,false,false,false,false,false,false,false,false,false,false,false,false,false,false,false,false,false,false,false,false,false,false,false] rfl rfl (any_of HT_.out (by kernel_rfl)) (fun _ _ _ h => h) (Or.inl ⟨by rfl, ?_⟩) ?_ ?_
                             rotate_left
                             ·intro w'
                              go_simp
                              with_reducible rfl
                             rotate_left
                             ·simp only [Act.put,a_,b_,c_,i64_w,i32_w]
                              rfl
                             refine pure_ (i := 13) (N := some 124) (v := ?_) (a' := ?_) #[true,true,true,true,true,true,true,true,true,true,true,true,true,true,false,false,false,false,false,false,false,false,false,false,false,false,false,false,false,false,false,false,false,false,false,false,false,false,false] rfl rfl (any_of HT_.out (by kernel_rfl)) (fun _ _ _ h => h) (Or.inl ⟨by rfl, ?_⟩) ?_ ?_
                             rotate_left
                             ·intro w'
                              go_simp
                              with_reducible rfl
                             rotate_left
                             ·simp only [Act.put,a_,b_,c_,i64_w,i32_w]
                              rfl
                             refine pure_ (i := 14) (N := some 125) (v := ?_) (a' := ?_) #[true,true,true,true,true,true,true,true,true,true,true,true,true,true,true,false,false,false,false,false,false,false,false,false,false,false,false,false,false,false,false,false,false,false,false,false,false,false,false] rfl rfl (any_of HT_.out (by kernel_rfl)) (fun _ _ _ h => h) (Or.inl ⟨by rfl, ?_⟩) ?_ ?_
                             rotate_left
                             ·intro w'
                              go_simp
                              with_reducible rfl
                             rotate_left
                             ·simp only [Act.put,a_,b_,c_,i64_w,i32_w]
                              rfl
                             refine pure_ (i := 15) (N := some 126) (v := ?_) (a' := ?_) #[true,true,true,true,true,true,true,true,true,true,true,true,true,true,true,true,false,false,false,false,false,false,false,false,false,false,false,false,false,false,false,false,false,false,false,false,false,false,false] rfl rfl (any_of HT_.out (by kernel_rfl)) (fun _ _ _ h => h) (Or.inl ⟨by rfl, ?_⟩) ?_ ?_
                             rotate_left
                             ·intro w'
                              go_simp
                              with_reducible rfl
                             rotate_left
                             ·simp only [Act.put,a_,b_,c_,i64_w,i32_w]
                              rfl
                             refine pure_ (i := 16) (N := some 127) (v := ?_) (a' := ?_) #[true,true,true,true,true,true,true,true,true,true,true,true,true,true,true,true,true,false,false,false,false,false,false,false,false,false,false,false,false,false,false,false,false,false,false,false,false,false,false] rfl rfl (any_of HT_.out (by kernel_rfl)) (fun _ _ _ h => h) (Or.inl ⟨by rfl, ?_⟩) ?_ ?_
                             rotate_left
                             ·intro w'
                              go_simp
                              with_reducible rfl
                             rotate_left
                             ·simp only [Act.put,a_,b_,c_,i64_w,i32_w]
                              rfl
                             refine pure_ (i := 17) (N := some 128) (v := ?_) (a' := ?_) #[true,true,true,true,true,true,true,true,true,true,true,true,true,true,true,true,true,true,false,false,false,false,false,false,false,false,false,false,false,false,false,false,false,false,false,false,false,false,false] rfl rfl (any_of HT_.out (by kernel_rfl)) (fun _ _ _ h => h) (Or.inl ⟨by rfl, ?_⟩) ?_ ?_
                             rotate_left
                             ·intro w'
                              go_simp
                              with_reducible rfl
                             rotate_left
                             ·simp only [Act.put,a_,b_,c_,i64_w,i32_w]
                              rfl
                             refine pure_ (i := 18) (N := some 129) (v := ?_) (a' := ?_) #[true,true,true,true,true,true,true,true,true,true,true,true,true,true,true,true,true,true,true,false,false,false,false,false,false,false,false,false,false,false,false,false,false,false,false,false,false,false,false] rfl rfl (any_of HT_.out (by kernel_rfl)) (fun _ _ _ h => h) (Or.inl ⟨by rfl, ?_⟩) ?_ ?_
                             rotate_left
                             ·intro w'
                              go_simp
                              with_reducible rfl
                             rotate_left
                             ·simp only [Act.put,a_,b_,c_,i64_w,i32_w]
                              rfl
                             refine pure_ (i := 19) (N := some 130) (v := ?_) (a' := ?_) #[true,true,true,true,true,true,true,true,true,true,true,true,true,true,true,true,true,true,true,true,false,false,false,false,false,false,false,false,false,false,false,false,false,false,false,false,false,false,false] rfl rfl (any_of HT_.out (by kernel_rfl)) (fun _ _ _ h => h) (Or.inl ⟨by rfl, ?_⟩) ?_ ?_
                             rotate_left
                             ·intro w'
                              go_simp
                              with_reducible rfl
                             rotate_left
                             ·simp only [Act.put,a_,b_,c_,i64_w,i32_w]
                              rfl
                             refine take_ (i := 20) (N := some 131) (v := ?_) (a' := ?_) #[true,true,true,true,true,true,true,true,true,true,true,true,true,true,true,true,true,true,true,true,true,false,false,false,false,false,false,false,false,false,false,false,false,false,false,false,false,false,false] rfl rfl (take_ofW HT_.out HW_.out (by kernel_rfl)) (fun _ _ _ h => h) (Or.inl ⟨by rfl, ?_⟩) hHeld ?_ ?_
                             rotate_left
                             ·rintro w' ⟨s0, s1, s2, s3, s4, s5, s6, s7⟩
                              go_simp
                              with_reducible rfl
                             rotate_left
                             ·simp only [Act.put,a_,b_,c_,i64_w,i32_w]
                              rfl
                             refine one_ (i := 21) (N := some 132) #[true,true,true,true,true,true,true,true,true,true,true,true,true,true,true,true,true,true,true,true,true,true,false,false,false,false,false,false,false,false,false,false,false,false,false,false,false,false,false] rfl rfl (one_of HT_.out (by kernel_rfl)) (by decide) (fun K hK => ?_)
                             refine goes_ Tryd.func20 (by kernel_rfl) rfl #[.int .i64 ((rd_T47 (rd_L6 l0_0 x5_2) (ji42)).f0)] (by rfl) rfl rfl (by (try simp only [List.map_toArray, List.map_cons, List.map_nil]); first | done | (simp only [hji42]; rfl) | rfl | (simp only [List.length_drop, List.length_take]; rfl)) ?_
                             with_reducible refine (duetref20_Width.calls kj30 ((rd_T47 (rd_L6 l0_0 x5_2) (ji42)).f0) t218 _ A47.out).mono ?_
                             rintro e w' ⟨rfl, ⟨nd, rfl⟩⟩
                             refine ⟨_, rfl, ?_⟩
                             refine hK.out _ _ ⟨((HB.out.cell (World.block_lt_of_cell? w _ hw216_0)).trans hw216_0), ((HB.out.cell (World.block_lt_of_cell? w _ hw216_1)).trans hw216_1), ((HB.out.cell (World.block_lt_of_cell? w _ hw217_0)).trans hw217_0), ((HB.out.cell (World.block_lt_of_cell? w _ hw217_1)).trans hw217_1), ((HB.out.cell (World.block_lt_of_cell? w _ hw219_0)).trans hw219_0), ((HB.out.cell (World.block_lt_of_cell? w _ hw219_1)).trans hw219_1), ((HB.out.cell (World.block_lt_of_cell? w _ hw220_0)).trans hw220_0), ((HB.out.cell (World.block_lt_of_cell? w _ hw220_1)).trans hw220_1)⟩ (fun hHeld => ?_)
                             clear hK K
                             refine norm_ (a' := ?_) ?_ ?_
                             rotate_left
                             ·show Act.put _ (some 132) _ = _
                              simp only [Act.put,a_,b_,c_,i64_w,i32_w]
                              rfl
                             refine pure_ (i := 22) (N := some 133) (v := ?_) (a' := ?_) #[true,true,true,true,true,true,true,true,true,true,true,true,true,true,true,true,true,true,true,true,true,true,true,false,false,false,false,false,false,false,false,false,false,false,false,false,false,false,false] rfl rfl (any_of HT_.out (by kernel_rfl)) (fun _ _ _ h => h) (Or.inl ⟨by rfl, ?_⟩) ?_ ?_
                             rotate_left
                             ·intro w'
                              go_simp
                              with_reducible rfl
                             rotate_left
                             ·simp only [Act.put,a_,b_,c_,i64_w,i32_w]
                              rfl
                             refine pure_ (i := 23) (N := some 134) (v := ?_) (a' := ?_) #[true,true,true,true,true,true,true,true,true,true,true,true,true,true,true,true,true,true,true,true,true,true,true,true,false,false,false,false,false,false,false,false,false,false,false,false,false,false,false] rfl rfl (any_of HT_.out (by kernel_rfl)) (fun _ _ _ h => h) (Or.inl ⟨by rfl, ?_⟩) ?_ ?_
                             rotate_left
                             ·intro w'
                              go_simp
                              with_reducible rfl
                             rotate_left
                             ·simp only [Act.put,a_,b_,c_,i64_w,i32_w]
                              rfl
                             refine pure_ (i := 24) (N := some 135) (v := ?_) (a' := ?_) #[true,true,true,true,true,true,true,true,true,true,true,true,true,true,true,true,true,true,true,true,true,true,true,true,true,false,false,false,false,false,false,false,false,false,false,false,false,false,false] rfl rfl (any_of HT_.out (by kernel_rfl)) (fun _ _ _ h => h) (Or.inl ⟨by rfl, ?_⟩) ?_ ?_
                             rotate_left
                             ·intro w'
                              go_simp
                              with_reducible rfl
                             rotate_left
                             ·simp only [Act.put,a_,b_,c_,i64_w,i32_w]
                              rfl
                             refine pure_ (i := 25) (N := some 136) (v := ?_) (a' := ?_) #[true,true,true,true,true,true,true,true,true,true,true,true,true,true,true,true,true,true,true,true,true,true,true,true,true,true,false,false,false,false,false,false,false,false,false,false,false,false,false] rfl rfl (any_of HT_.out (by kernel_rfl)) (fun _ _ _ h => h) (Or.inl ⟨by rfl, ?_⟩) ?_ ?_
                             rotate_left
                             ·intro w'
                              go_simp
                              with_reducible rfl
                             rotate_left
                             ·simp only [Act.put,a_,b_,c_,i64_w,i32_w]
                              rfl
                             refine pure_ (i := 26) (N := some 137) (v := ?_) (a' := ?_) #[true,true,true,true,true,true,true,true,true,true,true,true,true,true,true,true,true,true,true,true,true,true,true,true,true,true,true,false,false,false,false,false,false,false,false,false,false,false,false] rfl rfl (any_of HT_.out (by kernel_rfl)) (fun _ _ _ h => h) (Or.inl ⟨by rfl, ?_⟩) ?_ ?_
                             rotate_left
                             ·intro w'
                              go_simp
                              with_reducible rfl
                             rotate_left
                             ·simp only [Act.put,a_,b_,c_,i64_w,i32_w]
                              rfl
                             refine pure_ (i := 27) (N := some 138) (v := ?_) (a' := ?_) #[true,true,true,true,true,true,true,true,true,true,true,true,true,true,true,true,true,true,true,true,true,true,true,true,true,true,true,true,false,false,false,false,false,false,false,false,false,false,false] rfl rfl (any_of HT_.out (by kernel_rfl)) (fun _ _ _ h => h) (Or.inl ⟨by rfl, ?_⟩) ?_ ?_
                             rotate_left
                             ·intro w'
                              go_simp
                              with_reducible rfl
                             rotate_left
                             ·simp only [Act.put,a_,b_,c_,i64_w,i32_w]
                              rfl
                             refine pure_ (i := 28) (N := some 139) (v := ?_) (a' := ?_) #[true,true,true,true,true,true,true,true,true,true,true,true,true,true,true,true,true,true,true,true,true,true,true,true,true,true,true,true,true,false,false,false,false,false,false,false,false,false,false] rfl rfl (any_of HT_.out (by kernel_rfl)) (fun _ _ _ h => h) (Or.inl ⟨by rfl, ?_⟩) ?_ ?_
                             rotate_left
                             ·intro w'
                              go_simp
                              with_reducible rfl
                             rotate_left
                             ·simp only [Act.put,a_,b_,c_,i64_w,i32_w]
                              rfl
                             refine pure_ (i := 29) (N := some 140) (v := ?_) (a' := ?_) #[true,true,true,true,true,true,true,true,true,true,true,true,true,true,true,true,true,true,true,true,true,true,true,true,true,true,true,true,true,true,false,false,false,false,false,false,false,false,false] rfl rfl (any_of HT_.out (by kernel_rfl)) (fun _ _ _ h => h) (Or.inl ⟨by rfl, ?_⟩) ?_ ?_
                             rotate_left
                             ·intro w'
                              go_simp
                              with_reducible rfl
                             rotate_left
                             ·simp only [Act.put,a_,b_,c_,i64_w,i32_w]
                              rfl
                             refine pure_ (i := 31) (N := some 142) (v := ?_) (a' := ?_) #[true,true,true,true,true,true,true,true,true,true,true,true,true,true,true,true,true,true,true,true,true,true,true,true,true,true,true,true,true,true,false,true,false,false,false,false,false,false,false] rfl rfl (any_of HT_.out (by kernel_rfl)) (fun _ _ _ h => h) (Or.inl ⟨by rfl, ?_⟩) ?_ ?_
                             rotate_left
                             ·intro w'
                              go_simp
                              with_reducible rfl
                             rotate_left
                             ·simp only [Act.put,a_,b_,c_,i64_w,i32_w]
                              rfl
                             refine pure_ (i := 32) (N := some 143) (v := ?_) (a' := ?_) #[true,true,true,true,true,true,true,true,true,true,true,true,true,true,true,true,true,true,true,true,true,true,true,true,true,true,true,true,true,true,false,true,true,false,false,false,false,false,false] rfl rfl (any_of HT_.out (by kernel_rfl)) (fun _ _ _ h => h) (Or.inl ⟨by rfl, ?_⟩) ?_ ?_
                             rotate_left
                             ·intro w'
                              go_simp
                              with_reducible rfl
                             rotate_left
                             ·simp only [Act.put,a_,b_,c_,i64_w,i32_w]
                              rfl
                             refine pure_ (i := 33) (N := some 144) (v := ?_) (a' := ?_) #[true,true,true,true,true,true,true,true,true,true,true,true,true,true,true,true,true,true,true,true,true,true,true,true,true,true,true,true,true,true,false,true,true,true,false,false,false,false,false] rfl rfl (any_of HT_.out (by kernel_rfl)) (fun _ _ _ h => h) (Or.inl ⟨by rfl, ?_⟩) ?_ ?_
                             rotate_left
                             ·intro w'
                              go_simp
                              with_reducible rfl
                             rotate_left
                             ·simp only [Act.put,a_,b_,c_,i64_w,i32_w]
                              rfl
                             refine pure_ (i := 34) (N := some 145) (v := ?_) (a' := ?_) #[true,true,true,true,true,true,true,true,true,true,true,true,true,true,true,true,true,true,true,true,true,true,true,true,true,true,true,true,true,true,false,true,true,true,true,false,false,false,false] rfl rfl (any_of HT_.out (by kernel_rfl)) (fun _ _ _ h => h) (Or.inl ⟨by rfl, ?_⟩) ?_ ?_
                             rotate_left
                             ·intro w'
                              go_simp
                              with_reducible rfl
                             rotate_left
                             ·simp only [Act.put,a_,b_,c_,i64_w,i32_w]
                              rfl
                             refine take_ (i := 30) (N := some 141) (v := ?_) (a' := ?_) #[true,true,true,true,true,true,true,true,true,true,true,true,true,true,true,true,true,true,true,true,true,true,true,true,true,true,true,true,true,true,true,true,true,true,true,false,false,false,false] rfl rfl (take_ofW HT_.out HW_.out (by kernel_rfl)) (fun _ _ _ h => h) (Or.inl ⟨by rfl, ?_⟩) hHeld ?_ ?_
                             rotate_left
                             ·rintro w' ⟨s0, s1, s2, s3, s4, s5, s6, s7⟩
                              go_simp
                              with_reducible rfl
                             rotate_left
                             ·simp only [Act.put,a_,b_,c_,i64_w,i32_w]
                              rfl
                             refine take_ (i := 35) (N := some 146) (v := ?_) (a' := ?_) #[true,true,true,true,true,true,true,true,true,true,true,true,true,true,true,true,true,true,true,true,true,true,true,true,true,true,true,true,true,true,true,true,true,true,true,true,false,false,false] rfl rfl (take_ofW HT_.out HW_.out (by kernel_rfl)) (fun _ _ _ h => h) (Or.inl ⟨by rfl, ?_⟩) hHeld ?_ ?_
                             rotate_left
                             ·rintro w' ⟨s0, s1, s2, s3, s4, s5, s6, s7⟩
                              go_simp
                              with_reducible rfl
                             rotate_left
                             ·simp only [Act.put,a_,b_,c_,i64_w,i32_w]
                              rfl
                             refine pure_ (i := 36) (N := some 147) (v := ?_) (a' := ?_) #[true,true,true,true,true,true,true,true,true,true,true,true,true,true,true,true,true,true,true,true,true,true,true,true,true,true,true,true,true,true,true,true,true,true,true,true,true,false,false] rfl rfl (any_of HT_.out (by kernel_rfl)) (fun _ _ _ h => h) (Or.inl ⟨by rfl, ?_⟩) ?_ ?_
                             rotate_left
                             ·intro w'
                              go_simp
                              with_reducible rfl
                             rotate_left
                             ·simp only [Act.put,a_,b_,c_,i64_w,i32_w]
                              rfl
                             refine pure_ (i := 37) (N := some 148) (v := ?_) (a' := ?_) #[true,true,true,true,true,true,true,true,true,true,true,true,true,true,true,true,true,true,true,true,true,true,true,true,true,true,true,true,true,true,true,true,true,true,true,true,true,true,false] rfl rfl (any_of HT_.out (by kernel_rfl)) (fun _ _ _ h => h) (Or.inl ⟨by rfl, ?_⟩) ?_ ?_
                             rotate_left
                             ·intro w'
                              go_simp
                              with_reducible rfl
                             rotate_left
                             ·simp only [Act.put,a_,b_,c_,i64_w,i32_w]
                              rfl
                             refine pure_ (i := 38) (N := some 149) (v := ?_) (a' := ?_) #[true,true,true,true,true,true,true,true,true,true,true,true,true,true,true,true,true,true,true,true,true,true,true,true,true,true,true,true,true,true,true,true,true,true,true,true,true,true,true] rfl rfl (any_of HT_.out (by kernel_rfl)) (fun _ _ _ h => h) (Or.inl ⟨by rfl, ?_⟩) ?_ ?_
                             rotate_left
                             ·intro w'
                              go_simp
                              with_reducible rfl
                             rotate_left
                             ·simp only [Act.put,a_,b_,c_,i64_w,i32_w]
                              rfl
                             refine done_ (done_of HT_.out (by kernel_rfl)) ?_
                             try go_wp2
                             go_roundg kj30
                             case measure => have := HJ2.out; have := HK2.out; have := HK3.out; have := HJ26.out; have := HJ30.out; omega
                             case rel => exact ⟨(wrap64 (x7_3 + 1)), (by first | rfl | (simp; done) | (simp [*]; done)), H', ⟨by have := HJ2.out; have := HK2.out; have := HK3.out; have := HJ26.out; have := HJ30.out; omega⟩, ⟨by (with_reducible repeat (first | refine blk_drewN ?_ _ | refine blk_drew ?_ | refine blk_alloc ?_ _)); exact BK211.out⟩, ⟨by repeat (first | (with_reducible first | exact HB.out | apply below_alloc | apply pw_below_drewN | apply below_drew1 | refine below_set ?_ GE211.out) | exact HB.out)⟩⟩
                           ·rw [if_neg c50] at H
                            exact absurd H (by simp)
                          ·rw [if_neg c49] at H
                           exact absurd H (by simp)
                         ·rw [if_neg c48] at H
                          have c48b0 : (t218 == 2) = false := beq_eq_false_iff_ne.mpr c48
                          have c48b1 : (t218 != 2) = true := bne_iff_ne.mpr c48
                          obtain rfl := Option.some.inj H
                          try go_wp2
                          have n0_ := Aside0.mk (blk_drew BK211.out)
                          have n1_ := Aside0.mk (below_drew1 HB.out)
                          clear BK211
                          clear HB
                          have BK211 := n0_
                          have HB := n1_
                          clear n0_ n1_
                          have p216 : 0 ≤ ((ji42) : Int) := of_decide_eq_true (by first | (with_reducible assumption) | assumption)
                          have q216 : (ji42) < ((rd_L6 l0_0 x5_2).length : Int) := of_decide_eq_true (by first | (with_reducible assumption) | assumption)
                          obtain ⟨ad216, e216, hx216_0, hx216_1⟩ := at_T47 HR212_0.out (ji42) p216 q216
                          have hw216_1 := hx216_1
                          have hw216_0 := hx216_0
                          obtain rfl : ad213 = ad216 := (by injection e216)
                          (try replace hx216_0 := (HB.out.cell (World.block_lt_of_cell? w _ hx216_0)).trans hx216_0)
                          (try replace hx216_1 := (HB.out.cell (World.block_lt_of_cell? w _ hx216_1)).trans hx216_1)
                          replace p216 := eq_true p216
                          replace q216 := eq_true q216
                          have p217 : 0 ≤ ((ji42) : Int) := of_decide_eq_true (by first | (with_reducible assumption) | assumption)
                          have q217 : (ji42) < ((rd_L6 l0_0 x5_2).length : Int) := of_decide_eq_true (by first | (with_reducible assumption) | assumption)
                          obtain ⟨ad217, e217, hx217_0, hx217_1⟩ := at_T47 HR212_0.out (ji42) p217 q217
                          have hw217_1 := hx217_1
                          have hw217_0 := hx217_0
                          obtain rfl : ad213 = ad217 := (by injection e217)
                          (try replace hx217_0 := (HB.out.cell (World.block_lt_of_cell? w _ hx217_0)).trans hx217_0)
                          (try replace hx217_1 := (HB.out.cell (World.block_lt_of_cell? w _ hx217_1)).trans hx217_1)
                          replace p217 := eq_true p217
                          replace q217 := eq_true q217
                          refine start_ (n := 39) (S := fun w' => w'.cell? (ad213.add (((ji42)).toNat * 2)) = some (.int .i64 ((rd_T47 (rd_L6 l0_0 x5_2) (ji42)).f0)) ∧ w'.cell? ⟨(ad213.add (((ji42)).toNat * 2)).block, (ad213.add (((ji42)).toNat * 2)).off + 1, none⟩ = some (.bool ((rd_T47 (rd_L6 l0_0 x5_2) (ji42)).f1)) ∧ w'.cell? (ad213.add (((ji42)).toNat * 2)) = some (.int .i64 ((rd_T47 (rd_L6 l0_0 x5_2) (ji42)).f0)) ∧ w'.cell? ⟨(ad213.add (((ji42)).toNat * 2)).block, (ad213.add (((ji42)).toNat * 2)).off + 1, none⟩ = some (.bool ((rd_T47 (rd_L6 l0_0 x5_2) (ji42)).f1))) (ds := []) #[false,false,false,false,false,false,false,false,false,false,false,false,false,false,false,false,false,false,false,false,false,false,false,false,false,false,false,false,false,false,false,false,false,false,false,false,false,false,false] (by kernel_rfl) rfl rfl ⟨((HB.out.cell (World.block_lt_of_cell? w _ hw216_0)).trans hw216_0), ((HB.out.cell (World.block_lt_of_cell? w _ hw216_1)).trans hw216_1), ((HB.out.cell (World.block_lt_of_cell? w _ hw217_0)).trans hw217_0), ((HB.out.cell (World.block_lt_of_cell? w _ hw217_1)).trans hw217_1)⟩ (fun hHeld => ?_); refine with_tabW duetref21_Check.tab18 duetref21_Check.bits18 (fun HT_ HW_ => ?_)
                          generalize wc.drew = w54 at BK211 HB hx216_0 hx216_1 hx217_0 hx217_1 hHeld ⊢
                          refine pure_ (i := 0) (N := some 111) (v := ?_) (a' := ?_) #[true,false,false,false,false,false,false,false,false,false,false,false,false,false,false,false,false,false,false,false,false,false,false,false,false,false,false,false,false,false,false,false,false,false,false,false,false,false,false] rfl rfl (any_of HT_.out (by kernel_rfl)) (fun _ _ _ h => h) (Or.inl ⟨by rfl, ?_⟩) ?_ ?_
                          rotate_left
                          ·intro w'
                           go_simp
                           with_reducible rfl
                          rotate_left
                          ·simp only [Act.put,a_,b_,c_,i64_w,i32_w]
                           rfl
                          refine pure_ (i := 1) (N := some 112) (v := ?_) (a' := ?_) #[true,true,false,false,false,false,false,false,false,false,false,false,false,false,false,false,false,false,false,false,false,false,false,false,false,false,false,false,false,false,false,false,false,false,false,false,false,false,false] rfl rfl (any_of HT_.out (by kernel_rfl)) (fun _ _ _ h => h) (Or.inl ⟨by rfl, ?_⟩) ?_ ?_
                          rotate_left
                          ·intro w'
                           go_simp
                           with_reducible rfl
                          rotate_left
                          ·simp only [Act.put,a_,b_,c_,i64_w,i32_w]
                           rfl
                          refine pure_ (i := 2) (N := some 113) (v := ?_) (a' := ?_) #[true,true,true,false,false,false,false,false,false,false,false,false,false,false,false,false,false,false,false,false,false,false,false,false,false,false,false,false,false,false,false,false,false,false,false,false,false,false,false] rfl rfl (any_of HT_.out (by kernel_rfl)) (fun _ _ _ h => h) (Or.inl ⟨by rfl, ?_⟩) ?_ ?_
                          rotate_left
                          ·intro w'
                           go_simp
                           with_reducible rfl
                          rotate_left
                          ·simp only [Act.put,a_,b_,c_,i64_w,i32_w]
                           rfl
                          refine pure_ (i := 3) (N := some 114) (v := ?_) (a' := ?_) #[true,true,true,true,false,false,false,false,false,false,false,false,false,false,false,false,false,false,false,false,false,false,false,false,false,false,false,false,false,false,false,false,false,false,false,false,false,false,false] rfl rfl (any_of HT_.out (by kernel_rfl)) (fun _ _ _ h => h) (Or.inl ⟨by rfl, ?_⟩) ?_ ?_
                          rotate_left
                          ·intro w'
                           go_simp
                           with_reducible rfl
                          rotate_left
                          ·simp only [Act.put,a_,b_,c_,i64_w,i32_w]
                           rfl
                          refine pure_ (i := 4) (N := some 115) (v := ?_) (a' := ?_) #[true,true,true,true,true,false,false,false,false,false,false,false,false,false,false,false,false,false,false,false,false,false,false,false,false,false,false,false,false,false,false,false,false,false,false,false,false,false,false] rfl rfl (any_of HT_.out (by kernel_rfl)) (fun _ _ _ h => h) (Or.inl ⟨by rfl, ?_⟩) ?_ ?_
                          rotate_left
                          ·intro w'
                           go_simp
                           with_reducible rfl
                          rotate_left
                          ·simp only [Act.put,a_,b_,c_,i64_w,i32_w]
                           rfl
                          refine pure_ (i := 5) (N := some 116) (v := ?_) (a' := ?_) #[true,true,true,true,true,true,false,false,false,false,false,false,false,false,false,false,false,false,false,false,false,false,false,false,false,false,false,false,false,false,false,false,false,false,false,false,false,false,false] rfl rfl (any_of HT_.out (by kernel_rfl)) (fun _ _ _ h => h) (Or.inl ⟨by rfl, ?_⟩) ?_ ?_
                          rotate_left
                          ·intro w'
                           go_simp
                           with_reducible rfl
                          rotate_left
                          ·simp only [Act.put,a_,b_,c_,i64_w,i32_w]
                           rfl
                          refine pure_ (i := 6) (N := some 117) (v := ?_) (a' := ?_) #[true,true,true,true,true,true,true,false,false,false,false,false,false,false,false,false,false,false,false,false,false,false,false,false,false,false,false,false,false,false,false,false,false,false,false,false,false,false,false] rfl rfl (any_of HT_.out (by kernel_rfl)) (fun _ _ _ h => h) (Or.inl ⟨by rfl, ?_⟩) ?_ ?_
                          rotate_left
                          ·intro w'
                           go_simp
                           with_reducible rfl
                          rotate_left
                          ·simp only [Act.put,a_,b_,c_,i64_w,i32_w]
                           rfl
                          refine pure_ (i := 7) (N := some 118) (v := ?_) (a' := ?_) #[true,true,true,true,true,true,true,true,false,false,false,false,false,false,false,false,false,false,false,false,false,false,false,false,false,false,false,false,false,false,false,false,false,false,false,false,false,false,false] rfl rfl (any_of HT_.out (by kernel_rfl)) (fun _ _ _ h => h) (Or.inl ⟨by rfl, ?_⟩) ?_ ?_
                          rotate_left
                          ·intro w'
                           go_simp
                           with_reducible rfl
                          rotate_left
                          ·simp only [Act.put,a_,b_,c_,i64_w,i32_w]
                           rfl
                          refine pure_ (i := 8) (N := some 119) (v := ?_) (a' := ?_) #[true,true,true,true,true,true,true,true,true,false,false,false,false,false,false,false,false,false,false,false,false,false,false,false,false,false,false,false,false,false,false,false,false,false,false,false,false,false,false] rfl rfl (any_of HT_.out (by kernel_rfl)) (fun _ _ _ h => h) (Or.inl ⟨by rfl, ?_⟩) ?_ ?_
                          rotate_left
                          ·intro w'
                           go_simp
                           with_reducible rfl
                          rotate_left
                          ·simp only [Act.put,a_,b_,c_,i64_w,i32_w]
                           rfl
                          refine pure_ (i := 9) (N := some 120) (v := ?_) (a' := ?_) #[true,true,true,true,true,true,true,true,true,true,false,false,false,false,false,false,false,false,false,false,false,false,false,false,false,false,false,false,false,false,false,false,false,false,false,false,false,false,false] rfl rfl (any_of HT_.out (by kernel_rfl)) (fun _ _ _ h => h) (Or.inl ⟨by rfl, ?_⟩) ?_ ?_
                          rotate_left
                          ·intro w'
                           go_simp
                           with_reducible rfl
                          rotate_left
                          ·simp only [Act.put,a_,b_,c_,i64_w,i32_w]
                           rfl
                          refine pure_ (i := 10) (N := some 121) (v := ?_) (a' := ?_) #[true,true,true,true,true,true,true,true,true,true,true,false,false,false,false,false,false,false,false,false,false,false,false,false,false,false,false,false,false,false,false,false,false,false,false,false,false,false,false] rfl rfl (any_of HT_.out (by kernel_rfl)) (fun _ _ _ h => h) (Or.inl ⟨by rfl, ?_⟩) ?_ ?_
                          rotate_left
                          ·intro w'
                           go_simp
                           with_reducible rfl
                          rotate_left
                          ·simp only [Act.put,a_,b_,c_,i64_w,i32_w]
                           rfl
                          refine take_ (i := 11) (N := some 122) (v := ?_) (a' := ?_) #[true,true,true,true,true,true,true,true,true,true,true,true,false,false,false,false,false,false,false,false,false,false,false,false,false,false,false,false,false,false,false,false,false,false,false,false,false,false,false] rfl rfl (take_ofW HT_.out HW_.out (by kernel_rfl)) (fun _ _ _ h => h) (Or.inl ⟨by rfl, ?_⟩) hHeld ?_ ?_
                          rotate_left
                          ·rintro w' ⟨s0, s1, s2, s3⟩
                           go_simp
                           with_reducible rfl
                          rotate_left
                          ·simp only [Act.put,a_,b_,c_,i64_w,i32_w]
                           rfl
                          refine pure_ (i := 12) (N := some 123) (v := ?_) (a' := ?_) #[true,true,true,true,true,true,true,true,true,true,true,true,true,false,false,false,false,false,false,false,false,false,false,false,false,false,false,false,false,false,false,false,false,false,false,false,false,false,false] rfl rfl (any_of HT_.out (by kernel_rfl)) (fun _ _ _ h => h) (Or.inl ⟨by rfl, ?_⟩) ?_ ?_
                          rotate_left
                          ·intro w'
                           go_simp
                           with_reducible rfl
                          rotate_left
                          ·simp only [Act.put,a_,b_,c_,i64_w,i32_w]
                           rfl
                          refine pure_ (i := 13) (N := some 124) (v := ?_) (a' := ?_) #[true,true,true,true,true,true,true,true,true,true,true,true,true,true,false,false,false,false,false,false,false,false,false,false,false,false,false,false,false,false,false,false,false,false,false,false,false,false,false] rfl rfl (any_of HT_.out (by kernel_rfl)) (fun _ _ _ h => h) (Or.inl ⟨by rfl, ?_⟩) ?_ ?_
                          rotate_left
                          ·intro w'
                           go_simp
                           with_reducible rfl
                          rotate_left
                          ·simp only [Act.put,a_,b_,c_,i64_w,i32_w]
                           rfl
                          refine pure_ (i := 14) (N := some 125) (v := ?_) (a' := ?_) #[true,true,true,true,true,true,true,true,true,true,true,true,true,true,true,false,false,false,false,false,false,false,false,false,false,false,false,false,false,false,false,false,false,false,false,false,false,false,false] rfl rfl (any_of HT_.out (by kernel_rfl)) (fun _ _ _ h => h) (Or.inl ⟨by rfl, ?_⟩) ?_ ?_
                          rotate_left
                          ·intro w'
                           go_simp
                           with_reducible rfl
                          rotate_left
                          ·simp only [Act.put,a_,b_,c_,i64_w,i32_w]
                           rfl
                          refine pure_ (i := 15) (N := some 126) (v := ?_) (a' := ?_) #[true,true,true,true,true,true,true,true,true,true,true,true,true,true,true,true,false,false,false,false,false,false,false,false,false,false,false,false,false,false,false,false,false,false,false,false,false,false,false] rfl rfl (any_of HT_.out (by kernel_rfl)) (fun _ _ _ h => h) (Or.inl ⟨by rfl, ?_⟩) ?_ ?_
                          rotate_left
                          ·intro w'
                           go_simp
                           with_reducible rfl
                          rotate_left
                          ·simp only [Act.put,a_,b_,c_,i64_w,i32_w]
                           rfl
                          refine pure_ (i := 16) (N := some 127) (v := ?_) (a' := ?_) #[true,true,true,true,true,true,true,true,true,true,true,true,true,true,true,true,true,false,false,false,false,false,false,false,false,false,false,false,false,false,false,false,false,false,false,false,false,false,false] rfl rfl (any_of HT_.out (by kernel_rfl)) (fun _ _ _ h => h) (Or.inl ⟨by rfl, ?_⟩) ?_ ?_
                          rotate_left
                          ·intro w'
                           go_simp
                           with_reducible rfl
                          rotate_left
                          ·simp only [Act.put,a_,b_,c_,i64_w,i32_w]
                           rfl
                          refine pure_ (i := 17) (N := some 128) (v := ?_) (a' := ?_) #[true,true,true,true,true,true,true,true,true,true,true,true,true,true,true,true,true,true,false,false,false,false,false,false,false,false,false,false,false,false,false,false,false,false,false,false,false,false,false] rfl rfl (any_of HT_.out (by kernel_rfl)) (fun _ _ _ h => h) (Or.inl ⟨by rfl, ?_⟩) ?_ ?_
                          rotate_left
                          ·intro w'
                           go_simp
                           with_reducible rfl
                          rotate_left
                          ·simp only [Act.put,a_,b_,c_,i64_w,i32_w]
                           rfl
                          refine pure_ (i := 18) (N := some 129) (v := ?_) (a' := ?_) #[true,true,true,true,true,true,true,true,true,true,true,true,true,true,true,true,true,true,true,false,false,false,false,false,false,false,false,false,false,false,false,false,false,false,false,false,false,false,false] rfl rfl (any_of HT_.out (by kernel_rfl)) (fun _ _ _ h => h) (Or.inl ⟨by rfl, ?_⟩) ?_ ?_
                          rotate_left
                          ·intro w'
                           go_simp
                           with_reducible rfl
                          rotate_left
                          ·simp only [Act.put,a_,b_,c_,i64_w,i32_w]
                           rfl
                          refine pure_ (i := 19) (N := some 130) (v := ?_) (a' := ?_) #[true,true,true,true,true,true,true,true,true,true,true,true,true,true,true,true,true,true,true,true,false,false,false,false,false,false,false,false,false,false,false,false,false,false,false,false,false,false,false] rfl rfl (any_of HT_.out (by kernel_rfl)) (fun _ _ _ h => h) (Or.inl ⟨by rfl, ?_⟩) ?_ ?_
                          rotate_left
                          ·intro w'
                           go_simp
                           with_reducible rfl
                          rotate_left
                          ·simp only [Act.put,a_,b_,c_,i64_w,i32_w]
                           rfl
                          refine take_ (i := 20) (N := some 131) (v := ?_) (a' := ?_) #[true,true,true,true,true,true,true,true,true,true,true,true,true,true,true,true,true,true,true,true,true,false,false,false,false,false,false,false,false,false,false,false,false,false,false,false,false,false,false] rfl rfl (take_ofW HT_.out HW_.out (by kernel_rfl)) (fun _ _ _ h => h) (Or.inl ⟨by rfl, ?_⟩) hHeld ?_ ?_
                          rotate_left
                          ·rintro w' ⟨s0, s1, s2, s3⟩
                           go_simp
                           with_reducible rfl
                          rotate_left
                          ·simp only [Act.put,a_,b_,c_,i64_w,i32_w]
                           rfl
                          refine one_ (i := 21) (N := some 132) #[true,true,true,true,true,true,true,true,true,true,true,true,true,true,true,true,true,true,true,true,true,true,false,false,false,false,false,false,false,false,false,false,false,false,false,false,false,false,false] rfl rfl (one_of HT_.out (by kernel_rfl)) (by decide) (fun K hK => ?_)
                          refine goes_ Tryd.func20 (by kernel_rfl) rfl #[.int .i64 ((rd_T47 (rd_L6 l0_0 x5_2) (ji42)).f0)] (by rfl) rfl rfl (by (try simp only [List.map_toArray, List.map_cons, List.map_nil]); first | done | (simp only [hji42]; rfl) | rfl | (simp only [List.length_drop, List.length_take]; rfl)) ?_
                          with_reducible refine (duetref20_Width.calls kj30 ((rd_T47 (rd_L6 l0_0 x5_2) (ji42)).f0) t218 _ A47.out).mono ?_
                          rintro e w' ⟨rfl, ⟨nd, rfl⟩⟩
                          refine ⟨_, rfl, ?_⟩
                          refine hK.out _ _ ⟨((HB.out.cell (World.block_lt_of_cell? w _ hw216_0)).trans hw216_0), ((HB.out.cell (World.block_lt_of_cell? w _ hw216_1)).trans hw216_1), ((HB.out.cell (World.block_lt_of_cell? w _ hw217_0)).trans hw217_0), ((HB.out.cell (World.block_lt_of_cell? w _ hw217_1)).trans hw217_1)⟩ (fun hHeld => ?_)
                          clear hK K
                          refine norm_ (a' := ?_) ?_ ?_
                          rotate_left
                          ·show Act.put _ (some 132) _ = _
                           simp only [Act.put,a_,b_,c_,i64_w,i32_w]
                           rfl
                          refine pure_ (i := 22) (N := some 133) (v := ?_) (a' := ?_) #[true,true,true,true,true,true,true,true,true,true,true,true,true,true,true,true,true,true,true,true,true,true,true,false,false,false,false,false,false,false,false,false,false,false,false,false,false,false,false] rfl rfl (any_of HT_.out (by kernel_rfl)) (fun _ _ _ h => h) (Or.inl ⟨by rfl, ?_⟩) ?_ ?_
                          rotate_left
                          ·intro w'
                           go_simp
                           with_reducible rfl
                          rotate_left
                          ·simp only [Act.put,a_,b_,c_,i64_w,i32_w]
                           rfl
                          refine pure_ (i := 23) (N := some 134) (v := ?_) (a' := ?_) #[true,true,true,true,true,true,true,true,true,true,true,true,true,true,true,true,true,true,true,true,true,true,true,true,false,false,false,false,false,false,false,false,false,false,false,false,false,false,false] rfl rfl (any_of HT_.out (by kernel_rfl)) (fun _ _ _ h => h) (Or.inl ⟨by rfl, ?_⟩) ?_ ?_
                          rotate_left
                          ·intro w'
                           go_simp
                           with_reducible rfl
                          rotate_left
                          ·simp only [Act.put,a_,b_,c_,i64_w,i32_w]
                           rfl
                          refine pure_ (i := 24) (N := some 135) (v := ?_) (a' := ?_) #[true,true,true,true,true,true,true,true,true,true,true,true,true,true,true,true,true,true,true,true,true,true,true,true,true,false,false,false,false,false,false,false,false,false,false,false,false,false,false] rfl rfl (any_of HT_.out (by kernel_rfl)) (fun _ _ _ h => h) (Or.inl ⟨by rfl, ?_⟩) ?_ ?_
                          rotate_left
                          ·intro w'
                           go_simp
                           with_reducible rfl
                          rotate_left
                          ·simp only [Act.put,a_,b_,c_,i64_w,i32_w]
                           rfl
                          refine pure_ (i := 25) (N := some 136) (v := undef) (a' := ?_) #[true,true,true,true,true,true,true,true,true,true,true,true,true,true,true,true,true,true,true,true,true,true,true,true,true,true,false,false,false,false,false,false,false,false,false,false,false,false,false] rfl rfl (any_of HT_.out (by kernel_rfl)) (fun _ _ _ h => h) (Or.inr ⟨by rfl, rfl⟩) ?_ ?_
                          rotate_left
                          ·simp only [Act.put,a_,b_,c_,i64_w,i32_w]
                           rfl
                          refine pure_ (i := 26) (N := some 137) (v := undef) (a' := ?_) #[true,true,true,true,true,true,true,true,true,true,true,true,true,true,true,true,true,true,true,true,true,true,true,true,true,true,true,false,false,false,false,false,false,false,false,false,false,false,false] rfl rfl (any_of HT_.out (by kernel_rfl)) (fun _ _ _ h => h) (Or.inr ⟨by rfl, rfl⟩) ?_ ?_
                          rotate_left
                          ·simp only [Act.put,a_,b_,c_,i64_w,i32_w]
                           rfl
                          refine pure_ (i := 27) (N := some 138) (v := undef) (a' := ?_) #[true,true,true,true,true,true,true,true,true,true,true,true,true,true,true,true,true,true,true,true,true,true,true,true,true,true,true,true,false,false,false,false,false,false,false,false,false,false,false] rfl rfl (any_of HT_.out (by kernel_rfl)) (fun _ _ _ h => h) (Or.inr ⟨by rfl, rfl⟩) ?_ ?_
                          rotate_left
                          ·simp only [Act.put,a_,b_,c_,i64_w,i32_w]
                           rfl
                          refine pure_ (i := 28) (N := some 139) (v := undef) (a' := ?_) #[true,true,true,true,true,true,true,true,true,true,true,true,true,true,true,true,true,true,true,true,true,true,true,true,true,true,true,true,true,false,false,false,false,false,false,false,false,false,false] rfl rfl (any_of HT_.out (by kernel_rfl)) (fun _ _ _ h => h) (Or.inr ⟨by rfl, rfl⟩) ?_ ?_
                          rotate_left
                          ·simp only [Act.put,a_,b_,c_,i64_w,i32_w]
                           rfl
                          refine pure_ (i := 29) (N := some 140) (v := undef) (a' := ?_) #[true,true,true,true,true,true,true,true,true,true,true,true,true,true,true,true,true,true,true,true,true,true,true,true,true,true,true,true,true,true,false,false,false,false,false,false,false,false,false] rfl rfl (any_of HT_.out (by kernel_rfl)) (fun _ _ _ h => h) (Or.inr ⟨by rfl, rfl⟩) ?_ ?_
                          rotate_left
                          ·simp only [Act.put,a_,b_,c_,i64_w,i32_w]
                           rfl
                          refine pure_ (i := 30) (N := some 141) (v := undef) (a' := ?_) #[true,true,true,true,true,true,true,true,true,true,true,true,true,true,true,true,true,true,true,true,true,true,true,true,true,true,true,true,true,true,true,false,false,false,false,false,false,false,false] rfl rfl (any_of HT_.out (by kernel_rfl)) (fun _ _ _ h => h) (Or.inr ⟨by rfl, rfl⟩) ?_ ?_
                          rotate_left
                          ·simp only [Act.put,a_,b_,c_,i64_w,i32_w]
                           rfl
                          refine pure_ (i := 31) (N := some 142) (v := undef) (a' := ?_) #[true,true,true,true,true,true,true,true,true,true,true,true,true,true,true,true,true,true,true,true,true,true,true,true,true,true,true,true,true,true,true,true,false,false,false,false,false,false,false] rfl rfl (any_of HT_.out (by kernel_rfl)) (fun _ _ _ h => h) (Or.inr ⟨by rfl, rfl⟩) ?_ ?_
                          rotate_left
                          ·simp only [Act.put,a_,b_,c_,i64_w,i32_w]
                           rfl
                          refine pure_ (i := 32) (N := some 143) (v := undef) (a' := ?_) #[true,true,true,true,true,true,true,true,true,true,true,true,true,true,true,true,true,true,true,true,true,true,true,true,true,true,true,true,true,true,true,true,true,false,false,false,false,false,false] rfl rfl (any_of HT_.out (by kernel_rfl)) (fun _ _ _ h => h) (Or.inr ⟨by rfl, rfl⟩) ?_ ?_
                          rotate_left
                          ·simp only [Act.put,a_,b_,c_,i64_w,i32_w]
                           rfl
                          refine pure_ (i := 33) (N := some 144) (v := undef) (a' := ?_) #[true,true,true,true,true,true,true,true,true,true,true,true,true,true,true,true,true,true,true,true,true,true,true,true,true,true,true,true,true,true,true,true,true,true,false,false,false,false,false] rfl rfl (any_of HT_.out (by kernel_rfl)) (fun _ _ _ h => h) (Or.inr ⟨by rfl, rfl⟩) ?_ ?_
                          rotate_left
                          ·simp only [Act.put,a_,b_,c_,i64_w,i32_w]
                           rfl
                          refine pure_ (i := 34) (N := some 145) (v := undef) (a' := ?_) #[true,true,true,true,true,true,true,true,true,true,true,true,true,true,true,true,true,true,true,true,true,true,true,true,true,true,true,true,true,true,true,true,true,true,true,false,false,false,false] rfl rfl (any_of HT_.out (by kernel_rfl)) (fun _ _ _ h => h) (Or.inr ⟨by rfl, rfl⟩) ?_ ?_
                          rotate_left
                          ·simp only [Act.put,a_,b_,c_,i64_w,i32_w]
                           rfl
                          refine pure_ (i := 35) (N := some 146) (v := undef) (a' := ?_) #[true,true,true,true,true,true,true,true,true,true,true,true,true,true,true,true,true,true,true,true,true,true,true,true,true,true,true,true,true,true,true,true,true,true,true,true,false,false,false] rfl rfl (any_of HT_.out (by kernel_rfl)) (fun _ _ _ h => h) (Or.inr ⟨by rfl, rfl⟩) ?_ ?_
                          rotate_left
                          ·simp only [Act.put,a_,b_,c_,i64_w,i32_w]
                           rfl
                          refine pure_ (i := 36) (N := some 147) (v := undef) (a' := ?_) #[true,true,true,true,true,true,true,true,true,true,true,true,true,true,true,true,true,true,true,true,true,true,true,true,true,true,true,true,true,true,true,true,true,true,true,true,true,false,false] rfl rfl (any_of HT_.out (by kernel_rfl)) (fun _ _ _ h => h) (Or.inr ⟨by rfl, rfl⟩) ?_ ?_
                          rotate_left
                          ·simp only [Act.put,a_,b_,c_,i64_w,i32_w]
                           rfl
                          refine pure_ (i := 37) (N := some 148) (v := ?_) (a' := ?_) #[true,true,true,true,true,true,true,true,true,true,true,true,true,true,true,true,true,true,true,true,true,true,true,true,true,true,true,true,true,true,true,true,true,true,true,true,true,true,false] rfl rfl (any_of HT_.out (by kernel_rfl)) (fun _ _ _ h => h) (Or.inl ⟨by rfl, ?_⟩) ?_ ?_
                          rotate_left
                          ·intro w'
                           go_simp
                           with_reducible rfl
                          rotate_left
                          ·simp only [Act.put,a_,b_,c_,i64_w,i32_w]
                           rfl
                          refine pure_ (i := 38) (N := some 149) (v := ?_) (a' := ?_) #[true,true,true,true,true,true,true,true,true,true,true,true,true,true,true,true,true,true,true,true,true,true,true,true,true,true,true,true,true,true,true,true,true,true,true,true,true,true,true] rfl rfl (any_of HT_.out (by kernel_rfl)) (fun _ _ _ h => h) (Or.inl ⟨by rfl, ?_⟩) ?_ ?_
                          rotate_left
                          ·intro w'
                           go_simp
                           with_reducible rfl
                          rotate_left
                          ·simp only [Act.put,a_,b_,c_,i64_w,i32_w]
                           rfl
                          refine done_ (done_of HT_.out (by kernel_rfl)) ?_
                          try go_wp2
                          go_ret
                          exact ⟨by first | rfl | (simp [errW_none, errW_some] <;> rfl) | (simp only [← hji42]; first | rfl | (simp [errW_none, errW_some] <;> rfl)) | (simp [*, errW_none, errW_some] <;> rfl), by repeat (first | (with_reducible first | exact HB.out | apply below_alloc | apply pw_below_drewN | apply below_drew1 | refine below_set ?_ GE211.out) | exact HB.out)⟩
                       ·rw [if_neg c44] at H
                        exact absurd H (by simp)
                      ·rw [if_neg c43] at H
                       exact absurd H (by simp)
                    ·rw [if_neg c39] at H
                     have c39b0 : (((rd_T47 (rd_L6 l0_0 x5_2) x7_3).f0) == (-1)) = false := beq_eq_false_iff_ne.mpr c39
                     have c39b1 : (((rd_T47 (rd_L6 l0_0 x5_2) x7_3).f0) != (-1)) = true := bne_iff_ne.mpr c39
                     have H' := Aside0.mk H
                     clear H
                     try go_wp2
                     have n0_ := Aside0.mk (blk_drew BK211.out)
                     have n1_ := Aside0.mk (below_drew1 HB.out)
                     clear BK211
                     clear HB
                     have BK211 := n0_
                     have HB := n1_
                     clear n0_ n1_
                     refine start_ (n := 39) (S := fun w' => True) (ds := []) #[false,false,false,false,false,false,false,false,false,false,false,false,false,false,false,false,false,false,false,false,false,false,false,false,false,false,false,false,false,false,false,false,false,false,false,false,false,false,false] (by kernel_rfl) rfl rfl trivial (fun hHeld => ?_); refine with_tabW duetref21_Check.tab18 duetref21_Check.bits18 (fun HT_ HW_ => ?_)
                     generalize wc.drew = w55 at BK211 HB hHeld ⊢
                     refine pure_ (i := 0) (N := some 111) (v := ?_) (a' := ?_) #[true,false,false,false,false,false,false,false,false,false,false,false,false,false,false,false,false,false,false,false,false,false,false,false,false,false,false,false,false,false,false,false,false,false,false,false,false,false,false] rfl rfl (any_of HT_.out (by kernel_rfl)) (fun _ _ _ h => h) (Or.inl ⟨by rfl, ?_⟩) ?_ ?_
                     rotate_left
                     ·intro w'
                      go_simp
                      with_reducible rfl
                     rotate_left
                     ·simp only [Act.put,a_,b_,c_,i64_w,i32_w]
                      rfl
                     refine pure_ (i := 1) (N := some 112) (v := ?_) (a' := ?_) #[true,true,false,false,false,false,false,false,false,false,false,false,false,false,false,false,false,false,false,false,false,false,false,false,false,false,false,false,false,false,false,false,false,false,false,false,false,false,false] rfl rfl (any_of HT_.out (by kernel_rfl)) (fun _ _ _ h => h) (Or.inl ⟨by rfl, ?_⟩) ?_ ?_
                     rotate_left
                     ·intro w'
                      go_simp
                      with_reducible rfl
                     rotate_left
                     ·simp only [Act.put,a_,b_,c_,i64_w,i32_w]
                      rfl
                     refine pure_ (i := 2) (N := some 113) (v := ?_) (a' := ?_) #[true,true,true,false,false,false,false,false,false,false,false,false,false,false,false,false,false,false,false,false,false,false,false,false,false,false,false,false,false,false,false,false,false,false,false,false,false,false,false] rfl rfl (any_of HT_.out (by kernel_rfl)) (fun _ _ _ h => h) (Or.inl ⟨by rfl, ?_⟩) ?_ ?_
                     rotate_left
                     ·intro w'
                      go_simp
                      with_reducible rfl
                     rotate_left
                     ·simp only [Act.put,a_,b_,c_,i64_w,i32_w]
                      rfl
                     refine pure_ (i := 3) (N := some 114) (v := undef) (a' := ?_) #[true,true,true,true,false,false,false,false,false,false,false,false,false,false,false,false,false,false,false,false,false,false,false,false,false,false,false,false,false,false,false,false,false,false,false,false,false,false,false] rfl rfl (any_of HT_.out (by kernel_rfl)) (fun _ _ _ h => h) (Or.inr ⟨by rfl, rfl⟩) ?_ ?_
                     rotate_left
                     ·simp only [Act.put,a_,b_,c_,i64_w,i32_w]
                      rfl
                     refine pure_ (i := 4) (N := some 115) (v := undef) (a' := ?_) #[true,true,true,true,true,false,false,false,false,false,false,false,false,false,false,false,false,false,false,false,false,false,false,false,false,false,false,false,false,false,false,false,false,false,false,false,false,false,false] rfl rfl (any_of HT_.out (by kernel_rfl)) (fun _ _ _ h => h) (Or.inr ⟨by rfl, rfl⟩) ?_ ?_
                     rotate_left
                     ·simp only [Act.put,a_,b_,c_,i64_w,i32_w]
                      rfl
                     refine pure_ (i := 5) (N := some 116) (v := undef) (a' := ?_) #[true,true,true,true,true,true,false,false,false,false,false,false,false,false,false,false,false,false,false,false,false,false,false,false,false,false,false,false,false,false,false,false,false,false,false,false,false,false,false] rfl rfl (any_of HT_.out (by kernel_rfl)) (fun _ _ _ h => h) (Or.inr ⟨by rfl, rfl⟩) ?_ ?_
                     rotate_left
                     ·simp only [Act.put,a_,b_,c_,i64_w,i32_w]
                      rfl
                     refine pure_ (i := 6) (N := some 117) (v := undef) (a' := ?_) #[true,true,true,true,true,true,true,false,false,false,false,false,false,false,false,false,false,false,false,false,false,false,false,false,false,false,false,false,false,false,false,false,false,false,false,false,false,false,false] rfl rfl (any_of HT_.out (by kernel_rfl)) (fun _ _ _ h => h) (Or.inr ⟨by rfl, rfl⟩) ?_ ?_
                     rotate_left
                     ·simp only [Act.put,a_,b_,c_,i64_w,i32_w]
                      rfl
                     refine pure_ (i := 7) (N := some 118) (v := undef) (a' := ?_) #[true,true,true,true,true,true,true,true,false,false,false,false,false,false,false,false,false,false,false,false,false,false,false,false,false,false,false,false,false,false,false,false,false,false,false,false,false,false,false] rfl rfl (any_of HT_.out (by kernel_rfl)) (fun _ _ _ h => h) (Or.inr ⟨by rfl, rfl⟩) ?_ ?_
                     rotate_left
                     ·simp only [Act.put,a_,b_,c_,i64_w,i32_w]
                      rfl
                     refine pure_ (i := 8) (N := some 119) (v := undef) (a' := ?_) #[true,true,true,true,true,true,true,true,true,false,false,false,false,false,false,false,false,false,false,false,false,false,false,false,false,false,false,false,false,false,false,false,false,false,false,false,false,false,false] rfl rfl (any_of HT_.out (by kernel_rfl)) (fun _ _ _ h => h) (Or.inr ⟨by rfl, rfl⟩) ?_ ?_
                     rotate_left
                     ·simp only [Act.put,a_,b_,c_,i64_w,i32_w]
                      rfl
                     refine pure_ (i := 9) (N := some 120) (v := undef) (a' := ?_) #[true,true,true,true,true,true,true,true,true,true,false,false,false,false,false,false,false,false,false,false,false,false,false,false,false,false,false,false,false,false,false,false,false,false,false,false,false,false,false] rfl rfl (any_of HT_.out (by kernel_rfl)) (fun _ _ _ h => h) (Or.inr ⟨by rfl, rfl⟩) ?_ ?_
                     rotate_left
                     ·simp only [Act.put,a_,b_,c_,i64_w,i32_w]
                      rfl
                     refine pure_ (i := 10) (N := some 121) (v := undef) (a' := ?_) #[true,true,true,true,true,true,true,true,true,true,true,false,false,false,false,false,false,false,false,false,false,false,false,false,false,false,false,false,false,false,false,false,false,false,false,false,false,false,false] rfl rfl (any_of HT_.out (by kernel_rfl)) (fun _ _ _ h => h) (Or.inr ⟨by rfl, rfl⟩) ?_ ?_
                     rotate_left
                     ·simp only [Act.put,a_,b_,c_,i64_w,i32_w]
                      rfl
                     refine pure_ (i := 11) (N := some 122) (v := undef) (a' := ?_) #[true,true,true,true,true,true,true,true,true,true,true,true,false,false,false,false,false,false,false,false,false,false,false,false,false,false,false,false,false,false,false,false,false,false,false,false,false,false,false] rfl rfl (any_of HT_.out (by kernel_rfl)) (fun _ _ _ h => h) (Or.inr ⟨by rfl, rfl⟩) ?_ ?_
                     rotate_left
                     ·simp only [Act.put,a_,b_,c_,i64_w,i32_w]
                      rfl
                     refine pure_ (i := 12) (N := some 123) (v := undef) (a' := ?_) #[true,true,true,true,true,true,true,true,true,true,true,true,true,false,false,false,false,false,false,false,false,false,false,false,false,false,false,false,false,false,false,false,false,false,false,false,false,false,false] rfl rfl (any_of HT_.out (by kernel_rfl)) (fun _ _ _ h => h) (Or.inr ⟨by rfl, rfl⟩) ?_ ?_
                     rotate_left
                     ·simp only [Act.put,a_,b_,c_,i64_w,i32_w]
                      rfl
                     refine pure_ (i := 13) (N := some 124) (v := undef) (a' := ?_) #[true,true,true,true,true,true,true,true,true,true,true,true,true,true,false,false,false,false,false,false,false,false,false,false,false,false,false,false,false,false,false,false,false,false,false,false,false,false,false] rfl rfl (any_of HT_.out (by kernel_rfl)) (fun _ _ _ h => h) (Or.inr ⟨by rfl, rfl⟩) ?_ ?_
                     rotate_left
                     ·simp only [Act.put,a_,b_,c_,i64_w,i32_w]
                      rfl
                     refine pure_ (i := 14) (N := some 125) (v := undef) (a' := ?_) #[true,true,true,true,true,true,true,true,true,true,true,true,true,true,true,false,false,false,false,false,false,false,false,false,false,false,false,false,false,false,false,false,false,false,false,false,false,false,false] rfl rfl (any_of HT_.out (by kernel_rfl)) (fun _ _ _ h => h) (Or.inr ⟨by rfl, rfl⟩) ?_ ?_
                     rotate_left
                     ·simp only [Act.put,a_,b_,c_,i64_w,i32_w]
                      rfl
                     refine pure_ (i := 15) (N := some 126) (v := undef) (a' := ?_) #[true,true,true,true,true,true,true,true,true,true,true,true,true,true,true,true,false,false,false,false,false,false,false,false,false,false,false,false,false,false,false,false,false,false,false,false,false,false,false] rfl rfl (any_of HT_.out (by kernel_rfl)) (fun _ _ _ h => h) (Or.inr ⟨by rfl, rfl⟩) ?_ ?_
                     rotate_left
                     ·simp only [Act.put,a_,b_,c_,i64_w,i32_w]
                      rfl
                     refine pure_ (i := 16) (N := some 127) (v := undef) (a' := ?_) #[true,true,true,true,true,true,true,true,true,true,true,true,true,true,true,true,true,false,false,false,false,false,false,false,false,false,false,false,false,false,false,false,false,false,false,false,false,false,false] rfl rfl (any_of HT_.out (by kernel_rfl)) (fun _ _ _ h => h) (Or.inr ⟨by rfl, rfl⟩) ?_ ?_
                     rotate_left
                     ·simp only [Act.put,a_,b_,c_,i64_w,i32_w]
                      rfl
                     refine pure_ (i := 17) (N := some 128) (v := undef) (a' := ?_) #[true,true,true,true,true,true,true,true,true,true,true,true,true,true,true,true,true,true,false,false,false,false,false,false,false,false,false,false,false,false,false,false,false,false,false,false,false,false,false] rfl rfl (any_of HT_.out (by kernel_rfl)) (fun _ _ _ h => h) (Or.inr ⟨by rfl, rfl⟩) ?_ ?_
                     rotate_left
                     ·simp only [Act.put,a_,b_,c_,i64_w,i32_w]
                      rfl
                     refine pure_ (i := 18) (N := some 129) (v := undef) (a' := ?_) #[true,true,true,true,true,true,true,true,true,true,true,true,true,true,true,true,true,true,true,false,false,false,false,false,false,false,false,false,false,false,false,false,false,false,false,false,false,false,false] rfl rfl (any_of HT_.out (by kernel_rfl)) (fun _ _ _ h => h) (Or.inr ⟨by rfl, rfl⟩) ?_ ?_
                     rotate_left
                     ·simp only [Act.put,a_,b_,c_,i64_w,i32_w]
                      rfl
                     refine pure_ (i := 19) (N := some 130) (v := undef) (a' := ?_) #[true,true,true,true,true,true,true,true,true,true,true,true,true,true,true,true,true,true,true,true,false,false,false,false,false,false,false,false,false,false,false,false,false,false,false,false,false,false,false] rfl rfl (any_of HT_.out (by kernel_rfl)) (fun _ _ _ h => h) (Or.inr ⟨by rfl, rfl⟩) ?_ ?_
                     rotate_left
                     ·simp only [Act.put,a_,b_,c_,i64_w,i32_w]
                      rfl
                     refine pure_ (i := 20) (N := some 131) (v := undef) (a' := ?_) #[true,true,true,true,true,true,true,true,true,true,true,true,true,true,true,true,true,true,true,true,true,false,false,false,false,false,false,false,false,false,false,false,false,false,false,false,false,false,false] rfl rfl (any_of HT_.out (by kernel_rfl)) (fun _ _ _ h => h) (Or.inr ⟨by rfl, rfl⟩) ?_ ?_
                     rotate_left
                     ·simp only [Act.put,a_,b_,c_,i64_w,i32_w]
                      rfl
                     refine pure_ (i := 21) (N := some 132) (v := undef) (a' := ?_) #[true,true,true,true,true,true,true,true,true,true,true,true,true,true,true,true,true,true,true,true,true,true,false,false,false,false,false,false,false,false,false,false,false,false,false,false,false,false,false] rfl rfl (any_of HT_.out (by kernel_rfl)) (fun _ _ _ h => h) (Or.inr ⟨by rfl, rfl⟩) ?_ ?_
                     rotate_left
                     ·simp only [Act.put,a_,b_,c_,i64_w,i32_w]
                      rfl
                     refine pure_ (i := 22) (N := some 133) (v := undef) (a' := ?_) #[true,true,true,true,true,true,true,true,true,true,true,true,true,true,true,true,true,true,true,true,true,true,true,false,false,false,false,false,false,false,false,false,false,false,false,false,false,false,false] rfl rfl (any_of HT_.out (by kernel_rfl)) (fun _ _ _ h => h) (Or.inr ⟨by rfl, rfl⟩) ?_ ?_
                     rotate_left
                     ·simp only [Act.put,a_,b_,c_,i64_w,i32_w]
                      rfl
                     refine pure_ (i := 23) (N := some 134) (v := undef) (a' := ?_) #[true,true,true,true,true,true,true,true,true,true,true,true,true,true,true,true,true,true,true,true,true,true,true,true,false,false,false,false,false,false,false,false,false,false,false,false,false,false,false] rfl rfl (any_of HT_.out (by kernel_rfl)) (fun _ _ _ h => h) (Or.inr ⟨by rfl, rfl⟩) ?_ ?_
                     rotate_left
                     ·simp only [Act.put,a_,b_,c_,i64_w,i32_w]
                      rfl
                     refine pure_ (i := 24) (N := some 135) (v := undef) (a' := ?_) #[true,true,true,true,true,true,true,true,true,true,true,true,true,true,true,true,true,true,true,true,true,true,true,true,true,false,false,false,false,false,false,false,false,false,false,false,false,false,false] rfl rfl (any_of HT_.out (by kernel_rfl)) (fun _ _ _ h => h) (Or.inr ⟨by rfl, rfl⟩) ?_ ?_
                     rotate_left
                     ·simp only [Act.put,a_,b_,c_,i64_w,i32_w]
                      rfl
                     refine pure_ (i := 25) (N := some 136) (v := undef) (a' := ?_) #[true,true,true,true,true,true,true,true,true,true,true,true,true,true,true,true,true,true,true,true,true,true,true,true,true,true,false,false,false,false,false,false,false,false,false,false,false,false,false] rfl rfl (any_of HT_.out (by kernel_rfl)) (fun _ _ _ h => h) (Or.inr ⟨by rfl, rfl⟩) ?_ ?_
                     rotate_left
                     ·simp only [Act.put,a_,b_,c_,i64_w,i32_w]
                      rfl
                     refine pure_ (i := 26) (N := some 137) (v := undef) (a' := ?_) #[true,true,true,true,true,true,true,true,true,true,true,true,true,true,true,true,true,true,true,true,true,true,true,true,true,true,true,false,false,false,false,false,false,false,false,false,false,false,false] rfl rfl (any_of HT_.out (by kernel_rfl)) (fun _ _ _ h => h) (Or.inr ⟨by rfl, rfl⟩) ?_ ?_
                     rotate_left
                     ·simp only [Act.put,a_,b_,c_,i64_w,i32_w]
                      rfl
                     refine pure_ (i := 27) (N := some 138) (v := undef) (a' := ?_) #[true,true,true,true,true,true,true,true,true,true,true,true,true,true,true,true,true,true,true,true,true,true,true,true,true,true,true,true,false,false,false,false,false,false,false,false,false,false,false] rfl rfl (any_of HT_.out (by kernel_rfl)) (fun _ _ _ h => h) (Or.inr ⟨by rfl, rfl⟩) ?_ ?_
                     rotate_left
                     ·simp only [Act.put,a_,b_,c_,i64_w,i32_w]
                      rfl
                     refine pure_ (i := 28) (N := some 139) (v := undef) (a' := ?_) #[true,true,true,true,true,true,true,true,true,true,true,true,true,true,true,true,true,true,true,true,true,true,true,true,true,true,true,true,true,false,false,false,false,false,false,false,false,false,false] rfl rfl (any_of HT_.out (by kernel_rfl)) (fun _ _ _ h => h) (Or.inr ⟨by rfl, rfl⟩) ?_ ?_
                     rotate_left
                     ·simp only [Act.put,a_,b_,c_,i64_w,i32_w]
                      rfl
                     refine pure_ (i := 29) (N := some 140) (v := undef) (a' := ?_) #[true,true,true,true,true,true,true,true,true,true,true,true,true,true,true,true,true,true,true,true,true,true,true,true,true,true,true,true,true,true,false,false,false,false,false,false,false,false,false] rfl rfl (any_of HT_.out (by kernel_rfl)) (fun _ _ _ h => h) (Or.inr ⟨by rfl, rfl⟩) ?_ ?_
                     rotate_left
                     ·simp only [Act.put,a_,b_,c_,i64_w,i32_w]
                      rfl
                     refine pure_ (i := 30) (N := some 141) (v := undef) (a' := ?_) #[true,true,true,true,true,true,true,true,true,true,true,true,true,true,true,true,true,true,true,true,true,true,true,true,true,true,true,true,true,true,true,false,false,false,false,false,false,false,false] rfl rfl (any_of HT_.out (by kernel_rfl)) (fun _ _ _ h => h) (Or.inr ⟨by rfl, rfl⟩) ?_ ?_
                     rotate_left
                     ·simp only [Act.put,a_,b_,c_,i64_w,i32_w]
                      rfl
                     refine pure_ (i := 31) (N := some 142) (v := undef) (a' := ?_) #[true,true,true,true,true,true,true,true,true,true,true,true,true,true,true,true,true,true,true,true,true,true,true,true,true,true,true,true,true,true,true,true,false,false,false,false,false,false,false] rfl rfl (any_of HT_.out (by kernel_rfl)) (fun _ _ _ h => h) (Or.inr ⟨by rfl, rfl⟩) ?_ ?_
                     rotate_left
                     ·simp only [Act.put,a_,b_,c_,i64_w,i32_w]
                      rfl
                     refine pure_ (i := 32) (N := some 143) (v := undef) (a' := ?_) #[true,true,true,true,true,true,true,true,true,true,true,true,true,true,true,true,true,true,true,true,true,true,true,true,true,true,true,true,true,true,true,true,true,false,false,false,false,false,false] rfl rfl (any_of HT_.out (by kernel_rfl)) (fun _ _ _ h => h) (Or.inr ⟨by rfl, rfl⟩) ?_ ?_
                     rotate_left
                     ·simp only [Act.put,a_,b_,c_,i64_w,i32_w]
                      rfl
                     refine pure_ (i := 33) (N := some 144) (v := undef) (a' := ?_) #[true,true,true,true,true,true,true,true,true,true,true,true,true,true,true,true,true,true,true,true,true,true,true,true,true,true,true,true,true,true,true,true,true,true,false,false,false,false,false] rfl rfl (any_of HT_.out (by kernel_rfl)) (fun _ _ _ h => h) (Or.inr ⟨by rfl, rfl⟩) ?_ ?_
                     rotate_left
                     ·simp only [Act.put,a_,b_,c_,i64_w,i32_w]
                      rfl
                     refine pure_ (i := 34) (N := some 145) (v := undef) (a' := ?_) #[true,true,true,true,true,true,true,true,true,true,true,true,true,true,true,true,true,true,true,true,true,true,true,true,true,true,true,true,true,true,true,true,true,true,true,false,false,false,false] rfl rfl (any_of HT_.out (by kernel_rfl)) (fun _ _ _ h => h) (Or.inr ⟨by rfl, rfl⟩) ?_ ?_
                     rotate_left
                     ·simp only [Act.put,a_,b_,c_,i64_w,i32_w]
                      rfl
                     refine pure_ (i := 35) (N := some 146) (v := undef) (a' := ?_) #[true,true,true,true,true,true,true,true,true,true,true,true,true,true,true,true,true,true,true,true,true,true,true,true,true,true,true,true,true,true,true,true,true,true,true,true,false,false,false] rfl rfl (any_of HT_.out (by kernel_rfl)) (fun _ _ _ h => h) (Or.inr ⟨by rfl, rfl⟩) ?_ ?_
                     rotate_left
                     ·simp only [Act.put,a_,b_,c_,i64_w,i32_w]
                      rfl
                     refine pure_ (i := 36) (N := some 147) (v := undef) (a' := ?_) #[true,true,true,true,true,true,true,true,true,true,true,true,true,true,true,true,true,true,true,true,true,true,true,true,true,true,true,true,true,true,true,true,true,true,true,true,true,false,false] rfl rfl (any_of HT_.out (by kernel_rfl)) (fun _ _ _ h => h) (Or.inr ⟨by rfl, rfl⟩) ?_ ?_
                     rotate_left
                     ·simp only [Act.put,a_,b_,c_,i64_w,i32_w]
                      rfl
                     refine pure_ (i := 37) (N := some 148) (v := undef) (a' := ?_) #[true,true,true,true,true,true,true,true,true,true,true,true,true,true,true,true,true,true,true,true,true,true,true,true,true,true,true,true,true,true,true,true,true,true,true,true,true,true,false] rfl rfl (any_of HT_.out (by kernel_rfl)) (fun _ _ _ h => h) (Or.inr ⟨by rfl, rfl⟩) ?_ ?_
                     rotate_left
                     ·simp only [Act.put,a_,b_,c_,i64_w,i32_w]
                      rfl
                     refine pure_ (i := 38) (N := some 149) (v := ?_) (a' := ?_) #[true,true,true,true,true,true,true,true,true,true,true,true,true,true,true,true,true,true,true,true,true,true,true,true,true,true,true,true,true,true,true,true,true,true,true,true,true,true,true] rfl rfl (any_of HT_.out (by kernel_rfl)) (fun _ _ _ h => h) (Or.inl ⟨by rfl, ?_⟩) ?_ ?_
                     rotate_left
                     ·intro w'
                      go_simp
                      with_reducible rfl
                     rotate_left
                     ·simp only [Act.put,a_,b_,c_,i64_w,i32_w]
                      rfl
                     refine done_ (done_of HT_.out (by kernel_rfl)) ?_
                     try go_wp2
                     go_roundg kj30
                     case measure => have := HJ2.out; have := HK2.out; have := HK3.out; have := HJ26.out; have := HJ30.out; omega
                     case rel => exact ⟨(wrap64 (x7_3 + 1)), (by first | rfl | (simp; done) | (simp [*]; done)), H', ⟨by have := HJ2.out; have := HK2.out; have := HK3.out; have := HJ26.out; have := HJ30.out; omega⟩, ⟨by (with_reducible repeat (first | refine blk_drewN ?_ _ | refine blk_drew ?_ | refine blk_alloc ?_ _)); exact BK211.out⟩, ⟨by repeat (first | (with_reducible first | exact HB.out | apply below_alloc | apply pw_below_drewN | apply below_drew1 | refine below_set ?_ GE211.out) | exact HB.out)⟩⟩
             ·rw [if_neg c25] at H
              exact absurd H (by simp)
            ·rw [if_neg c24] at H
             exact absurd H (by simp)
           ·rw [if_neg c23] at H
            have c23b0 : decide (x7_3 < a1) = false := decide_eq_false c23
            clear c23
            have H' := Aside0.mk H
            clear H
            go_wp2
            go_roundg k3
            case measure => have := HJ2.out; have := HK2.out; have := HK3.out; omega
            case rel => exact ⟨(wrap64 (x5_2 + 1)), (by first | rfl | (simp; done) | (simp [*]; done)), H', ⟨by have := HJ2.out; have := HK2.out; have := HK3.out; omega⟩, ⟨by (with_reducible repeat (first | refine blk_drewN ?_ _ | refine blk_drew ?_ | refine blk_alloc ?_ _)); exact BK211.out⟩, ⟨by repeat (first | (with_reducible first | exact HB.out | apply below_alloc | apply pw_below_drewN | apply below_drew1 | refine below_set ?_ GE211.out) | exact HB.out)⟩⟩
        ·rw [if_neg c21] at H
         have c21b0 : (((rd_L6 l0_0 x5_2).length : Int) == a1) = false := beq_eq_false_iff_ne.mpr c21
         have c21b1 : (((rd_L6 l0_0 x5_2).length : Int) != a1) = true := bne_iff_ne.mpr c21
         obtain rfl := Option.some.inj H
         have hcz56_0 : wr.cell? ⟨gb211,0, none⟩ = some (.slice A0_0 l0_0.length c0_0) := (blk_cell BK211.out 0).trans rfl
         have hcz56_1 : wr.cell? ⟨gb211,1, none⟩ = some (.int .i64 a0_1) := (blk_cell BK211.out 1).trans rfl
         have hcz56_2 : wr.cell? ⟨gb211,2, none⟩ = some (.int .i64 a0_2) := (blk_cell BK211.out 2).trans rfl
         have hfz56_0 := blk_frozen BK211.out 0
         have hfz56_1 := blk_frozen BK211.out 1
         have hfz56_2 := blk_frozen BK211.out 2
         have p212 : 0 ≤ (x5_2 : Int) := of_decide_eq_true (by first | (with_reducible assumption) | assumption)
         have q212 : x5_2 < (l0_0.length : Int) := of_decide_eq_true (by first | (with_reducible assumption) | assumption)
         obtain ⟨ad212, A212_0, c212_0, e212, hx212_0, hl212_0, hi212_0⟩ := at_L6 HR0_0.out x5_2 p212 q212
         cases e212
         (try replace hx212_0 := (HB.out.cell (World.block_lt_of_cell? w _ hx212_0)).trans hx212_0)
         have HR212_0 := Aside0.mk hi212_0
         have HC212_0 := Aside0.mk hl212_0
         clear hi212_0 hl212_0
         replace p212 := eq_true p212
         replace q212 := eq_true q212
         go_wp2
         go_ret
         exact ⟨by first | rfl | (simp [errW_none, errW_some] <;> rfl) | (simp [*, errW_none, errW_some] <;> rfl), by repeat (first | (with_reducible first | exact HB.out | apply below_alloc | apply pw_below_drewN | apply below_drew1 | refine below_set ?_ GE211.out) | exact HB.out)⟩
       ·rw [if_neg c20] at H
        exact absurd H (by simp)
      ·rw [if_neg c19] at H
       have c19b0 : decide (x5_2 < (l0_0.length : Int)) = false := decide_eq_false c19
       clear c19
       obtain rfl := Option.some.inj H
       have hcz57_0 : wr.cell? ⟨gb211,0, none⟩ = some (.slice A0_0 l0_0.length c0_0) := (blk_cell BK211.out 0).trans rfl
       have hcz57_1 : wr.cell? ⟨gb211,1, none⟩ = some (.int .i64 a0_1) := (blk_cell BK211.out 1).trans rfl
       have hcz57_2 : wr.cell? ⟨gb211,2, none⟩ = some (.int .i64 a0_2) := (blk_cell BK211.out 2).trans rfl
       have hfz57_0 := blk_frozen BK211.out 0
       have hfz57_1 := blk_frozen BK211.out 1
       have hfz57_2 := blk_frozen BK211.out 2
       go_wp2
       go_ret
       exact ⟨by first | rfl | (simp [errW_none, errW_some] <;> rfl) | (simp [*, errW_none, errW_some] <;> rfl), by repeat (first | (with_reducible first | exact HB.out | apply below_alloc | apply pw_below_drewN | apply below_drew1 | refine below_set ?_ GE211.out) | exact HB.out)⟩

end Go.Proofs.YtoidlaonolkgkaaDoor.P

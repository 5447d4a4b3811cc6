-- Written by a program of this session (wip/tools/pp.py) out of the translation. Not trusted: Lean checks it.
import Derived.Test.YtpclgafcldmchaaPx0
import Derived.Test.YtpclgafcldmchaaPx1
import Derived.Test.YtpclgafcldmchaaGiv
namespace Go.Proofs.Ytpclgafcldmchaa.P
open Go.RowKit Go.Proofs.YtpclgafcldmchaaW.PrintWords Go.Proofs.YtpclgafcldmchaaW.PrintLast Go.Proofs.YtpclgafcldmchaaW.PrintMore
open Go.Proofs.Ytpclgafcldmchaa.Giv
attribute [local go_sem] max2_int min2_int max_two min_two max_three min_three max_four min_four   -- for this text's walks alone
set_option linter.unusedVariables false
set_option linter.unusedSimpArgs false

attribute [local go_sem high] eqA24
/-! ### duetref12_Few: function 8 -/
def duetref12_Few.l0 : Nat → List (S44) → Int → Option (Bool)
  | 0, _, _ => none
  | k + 1, x0, x3 => if x3 < (x0.length : Int) then (if 0 ≤ x3 then (if (((rd_T44 x0 x3).f3).length : Int) > 20 then (some false) else (duetref12_Few.l0 k x0 (wrap64 (x3 + 1)))) else (none)) else (some true)
def duetref12_Few.f (k : Nat) (l0 : List (S44)) : Option (Bool) := if (l0.length : Int) > 60 then (some false) else (duetref12_Few.l0 k l0 0)
theorem duetref12_Few.mono_l : ∀ k, (∀ y0 y1, LeO (duetref12_Few.l0 k y0 y1) (duetref12_Few.l0 (k + 1) y0 y1))
  | 0 => fun _ _ r h => by simp [duetref12_Few.l0] at h
  | k + 1 => by
    have ih0 := duetref12_Few.mono_l k
    · intro y0 y1
      unfold duetref12_Few.l0
      repeat' first
      | (with_reducible exact ih0 _ _)
      | (with_reducible exact LeO.refl _)
      | (with_reducible exact LeO.none _)
      | (with_reducible refine LeO.ite ?_ ?_)
      | (with_reducible refine LeO.bind ?_ (fun _ => ?_))
      | exact ih0 _ _
      | exact LeO.none _
      | refine LeO.ite ?_ ?_
      | refine LeO.bind ?_ (fun _ => ?_)
theorem duetref12_Few.mono : ∀ a0 k, LeO (duetref12_Few.f k a0) (duetref12_Few.f (k + 1) a0) := by
  intro a0 k
  have ih0 := duetref12_Few.mono_l k
  unfold duetref12_Few.f
  repeat' first
      | (with_reducible exact ih0 _ _)
      | (with_reducible exact LeO.refl _)
      | (with_reducible exact LeO.none _)
      | (with_reducible refine LeO.ite ?_ ?_)
      | (with_reducible refine LeO.bind ?_ (fun _ => ?_))
      | exact ih0 _ _
      | exact LeO.none _
      | refine LeO.ite ?_ ?_
      | refine LeO.bind ?_ (fun _ => ?_)
set_option maxHeartbeats 8000000 in
set_option maxRecDepth 100000 in
theorem duetref12_Few.calls (k : Nat) (A0 : Option Addr) (c0 : Nat) (l0 : List (S44)) (r : Bool) (w : World) (hr0 : Kd.C k44 w A0 l0.length l0) (hc0 : l0.length ≤ c0) (h : duetref12_Few.f k l0 = some r) :
    Calls Try.prog 8 #[.slice A0 l0.length c0] w fun e w' => e = .returned (.bool r) ∧ Drawn0 w w' := by
  have HR0 := Aside0.mk hr0
  have HC0 := Aside0.mk hc0
  clear hr0 hc0
  have H : (if (l0.length : Int) > 60 then (some false) else (duetref12_Few.l0 k l0 0)) = some r := h
  clear h
  by_cases c2 : (l0.length : Int) > 60
  · rw [if_pos c2] at H
    have c2b0 : decide (60 < (l0.length : Int)) = true := decide_eq_true c2
    have c2b1 : decide (60 < l0.length) = true := decide_eq_true (by omega)
    clear c2
    obtain rfl := Option.some.inj H
    go_enter Try.func8, Try.ntmps8
    go_wp2
    go_ret
    exact ⟨by first | rfl | (simp; done) | (simp [*]; done), by repeat (first | exact Drawn0.refl _ | apply Drawn0.step)⟩
  · rw [if_neg c2] at H
    have c2b0 : decide (60 < (l0.length : Int)) = false := decide_eq_false c2
    have c2b1 : decide (60 < l0.length) = false := decide_eq_false (by omega)
    clear c2
    have H' := Aside0.mk H
    clear H
    go_enter Try.func8, Try.ntmps8
    go_wp2
    go_loopg [3] k (fun kq v3 w' => ∃ (x3_1 : Int), v3 = .int .i64 x3_1 ∧ Aside0 (duetref12_Few.l0 kq l0 x3_1 = some r) ∧ Aside0 (kq ≤ k) ∧ Drawn0 w w')
    case atStart => exact ⟨(0), (by first | rfl | (simp; done) | (simp [*]; done)), H', ⟨Nat.le_refl _⟩, by repeat (first | exact Drawn0.refl _ | apply Drawn0.step)⟩
    case round =>
      clear H'
      try clear c2
      try clear c2b0
      try clear c2b1
      try clear p2
      obtain ⟨x3_1, rfl, HA, HK1, ⟨m1, rfl⟩⟩ := hrel
      cases gk with
      | zero => exact absurd HA.out (by simp [duetref12_Few.l0])
      | succ k1 =>
        have H := HA.out
        clear HA
        simp only [duetref12_Few.l0] at H
        by_cases c3 : x3_1 < (l0.length : Int)
        · rw [if_pos c3] at H
          have c3b0 : decide (x3_1 < (l0.length : Int)) = true := decide_eq_true c3
          clear c3
          by_cases c4 : 0 ≤ x3_1
          · rw [if_pos c4] at H
            have c4b0 : decide (0 ≤ x3_1) = true := decide_eq_true c4
            clear c4
            by_cases c5 : (((rd_T44 l0 x3_1).f3).length : Int) > 20
            · rw [if_pos c5] at H
              have c5b0 : decide (20 < (((rd_T44 l0 x3_1).f3).length : Int)) = true := decide_eq_true c5
              have c5b1 : decide (20 < ((rd_T44 l0 x3_1).f3).length) = true := decide_eq_true (by omega)
              clear c5
              obtain rfl := Option.some.inj H
              have p101 : 0 ≤ (x3_1 : Int) := of_decide_eq_true (by first | (with_reducible assumption) | assumption)
              have q101 : x3_1 < (l0.length : Int) := of_decide_eq_true (by first | (with_reducible assumption) | assumption)
              obtain ⟨ad101, A101_5, c101_5, e101, hx101_0, hx101_1, hx101_2, hx101_3, hx101_4, hx101_5, hl101_5, hi101_5⟩ := at_T44 HR0.out x3_1 p101 q101
              cases e101
              have HR101_5 := Aside0.mk hi101_5
              have HC101_5 := Aside0.mk hl101_5
              clear hi101_5 hl101_5
              replace p101 := eq_true p101
              replace q101 := eq_true q101
              go_wp2
              go_ret
              exact ⟨by first | rfl | (simp; done) | (simp [*]; done), by repeat (first | exact Drawn0.refl _ | apply Drawn0.step)⟩
            · rw [if_neg c5] at H
              have c5b0 : decide (20 < (((rd_T44 l0 x3_1).f3).length : Int)) = false := decide_eq_false c5
              have c5b1 : decide (20 < ((rd_T44 l0 x3_1).f3).length) = false := decide_eq_false (by omega)
              clear c5
              have H' := Aside0.mk H
              clear H
              have p101 : 0 ≤ (x3_1 : Int) := of_decide_eq_true (by first | (with_reducible assumption) | assumption)
              have q101 : x3_1 < (l0.length : Int) := of_decide_eq_true (by first | (with_reducible assumption) | assumption)
              obtain ⟨ad101, A101_5, c101_5, e101, hx101_0, hx101_1, hx101_2, hx101_3, hx101_4, hx101_5, hl101_5, hi101_5⟩ := at_T44 HR0.out x3_1 p101 q101
              cases e101
              have HR101_5 := Aside0.mk hi101_5
              have HC101_5 := Aside0.mk hl101_5
              clear hi101_5 hl101_5
              replace p101 := eq_true p101
              replace q101 := eq_true q101
              go_wp2
              go_roundg k1
              case measure => have := HK1.out; omega
              case rel => exact ⟨(wrap64 (x3_1 + 1)), (by first | rfl | (simp; done) | (simp [*]; done)), H', ⟨by have := HK1.out; omega⟩, by repeat (first | exact Drawn0.refl _ | apply Drawn0.step)⟩
          · rw [if_neg c4] at H
            exact absurd H (by simp)
        · rw [if_neg c3] at H
          have c3b0 : decide (x3_1 < (l0.length : Int)) = false := decide_eq_false c3
          clear c3
          obtain rfl := Option.some.inj H
          go_wp2
          go_ret
          exact ⟨by first | rfl | (simp; done) | (simp [*]; done), by repeat (first | exact Drawn0.refl _ | apply Drawn0.step)⟩

-- NOT PRINTED: function 24 (view_seen)

-- GIVEN: function 17 (view_Seen): its contract lies in a text of its own

/-! ### view_Ref: function 10 -/
def view_Ref.j0 : Nat → List (S44) → Int → List Int → Bool → Option (Int × Int × Int)
  | 0, _, _, _, _ => none
  | k + 1, x0, x1, x6, x9 => if x9 = true then (some (0, 0, 1)) else (if x1 = 0 then (some (0, 0, 0)) else (if 0 ≤ (wrap64 (x1 - 1)) then (if (wrap64 (x1 - 1)) < (x6.length : Int) then (if 0 ≤ (rd x6 (wrap64 (x1 - 1))) then (if (rd x6 (wrap64 (x1 - 1))) < (x0.length : Int) then (some ((rd_T44 x0 (rd x6 (wrap64 (x1 - 1)))).f0.f0, (rd_T44 x0 (rd x6 (wrap64 (x1 - 1)))).f0.f1, 0)) else (none)) else (none)) else (none)) else (none)))
def view_Ref.f (k : Nat) (l0 : List (S44)) (a1 : Int) : Option (Int × Int × Int) := (view_Seen.f l0).bind fun t103 => (if a1 < 0 then (view_Ref.j0 k l0 a1 t103 true) else (view_Ref.j0 k l0 a1 t103 (decide (a1 > (t103.length : Int)))))
theorem view_Ref.mono_l : ∀ k, (∀ y0 y1 y2 y3, LeO (view_Ref.j0 k y0 y1 y2 y3) (view_Ref.j0 (k + 1) y0 y1 y2 y3))
  | 0 => fun _ _ _ _ r h => by simp [view_Ref.j0] at h
  | k + 1 => by
    have ih0 := view_Ref.mono_l k
    · intro y0 y1 y2 y3
      unfold view_Ref.j0
      repeat' first
      | (with_reducible exact ih0 _ _ _ _)
      | (with_reducible exact LeO.refl _)
      | (with_reducible exact LeO.none _)
      | (with_reducible refine LeO.ite ?_ ?_)
      | (with_reducible refine LeO.bind ?_ (fun _ => ?_))
      | exact ih0 _ _ _ _
      | exact LeO.none _
      | refine LeO.ite ?_ ?_
      | refine LeO.bind ?_ (fun _ => ?_)
theorem view_Ref.mono : ∀ a0 a1 k, LeO (view_Ref.f k a0 a1) (view_Ref.f (k + 1) a0 a1) := by
  intro a0 a1 k
  have ih0 := view_Ref.mono_l k
  unfold view_Ref.f
  repeat' first
      | (with_reducible exact ih0 _ _ _ _)
      | (with_reducible exact LeO.refl _)
      | (with_reducible exact LeO.none _)
      | (with_reducible refine LeO.ite ?_ ?_)
      | (with_reducible refine LeO.bind ?_ (fun _ => ?_))
      | exact ih0 _ _ _ _
      | exact LeO.none _
      | refine LeO.ite ?_ ?_
      | refine LeO.bind ?_ (fun _ => ?_)
set_option maxHeartbeats 8000000 in
set_option maxRecDepth 100000 in
theorem view_Ref.calls (k : Nat) (A0 : Option Addr) (c0 : Nat) (l0 : List (S44)) (a1 : Int) (r1 : Int) (r2 : Int) (r3 : Int) (w : World) (hr0 : Kd.C k44 w A0 l0.length l0) (hc0 : l0.length ≤ c0) (h : view_Ref.f k l0 a1 = some (r1, r2, r3)) :
    Calls Try.prog 10 #[.slice A0 l0.length c0, .int .i64 a1] w fun e w' => e = .returned (.tuple #[.agg #[.int .i64 r1, .int .i64 r2], .int .i64 r3]) ∧ Below w.heap.size w w' := by
  have hu24 := Try.underlying24
  have HR0 := Aside0.mk hr0
  have HC0 := Aside0.mk hc0
  clear hr0 hc0
  have HB := Aside0.mk (Below.refl w.heap.size w)
  have H : ((view_Seen.f l0).bind fun t103 => (if a1 < 0 then (view_Ref.j0 k l0 a1 t103 true) else (view_Ref.j0 k l0 a1 t103 (decide (a1 > (t103.length : Int)))))) = some (r1, r2, r3) := h
  clear h
  replace H := Option.bind_eq_some_iff.mp H
  obtain ⟨t103, A30, H⟩ := H
  replace H : (if a1 < 0 then (view_Ref.j0 k l0 a1 t103 true) else (view_Ref.j0 k l0 a1 t103 (decide (a1 > (t103.length : Int))))) = some (r1, r2, r3) := H
  have A3 := Aside0.mk A30
  clear A30
  have HC4 := Aside0.mk H
  clear H
  go_enter Try.func10, Try.ntmps10
  go_upto_region 2 with (first | ((with_reducible refine gate_dst (N := 4) rfl ?_); (try (refine gate_guard (by rfl) ?_; dsimp only)); refine box_event ?hg (N := 4) ?hd (cs := #[.int .i64 0, .int .i64 0]) (t := 24) ?hr ?_; (case hd => rfl); (case hg => rfl); (case hr => first | (go_simp; done) | (go_simp; rfl)); intro gb102 hg w5 hbox hb; have n0_ := Aside0.mk (below_step (by repeat (first | (with_reducible first | exact HB.out | apply below_alloc | apply pw_below_drewN | apply below_drew1) | exact HB.out)) hb); have n1_ := Aside0.mk (hbox); have n2_ := Aside0.mk ((by rw [hg]; exact (below_size (by repeat (first | (with_reducible first | exact HB.out | apply below_alloc | apply pw_below_drewN | apply below_drew1) | exact HB.out))) : w.heap.size ≤ gb102)); have n3_ := Aside0.mk ((by rw [hg]; exact (below_size (by repeat (first | (with_reducible first | exact HB.out | apply below_alloc | apply pw_below_drewN | apply below_drew1) | exact HB.out))) : w.heap.size ≤ gb102)); clear HB; have HB := n0_; have BK102 := n1_; have GW102 := n2_; have GE102 := n3_; clear n0_ n1_ n2_ n3_; clear hb hbox hg) | ((with_reducible refine gate_callee (f := 17) rfl ?_); refine goesL_ (some 8) rfl rfl Try.func17 (by kernel_rfl) rfl #[.slice A0 l0.length c0] rfl (by (try simp only [List.map_toArray, List.map_cons, List.map_nil]); first | done | rfl | (simp only [List.length_drop, List.length_take]; rfl)) ?_; (with_reducible refine (view_Seen.calls _ _ l0 t103 _ ?side1 ?side2 A3.out).mono ?_); (case side1 => repeat (first | exact (Kd.C_below HR0.out HB.out) | (with_reducible refine Kd.C_alloc ?_ _) | (with_reducible refine Kd.C_drewN ?_ _) | (with_reducible refine Kd.C_drew ?_))); (case side2 => exact HC0.out); rintro e w6 ⟨v104, rfl, ho0, hb⟩; refine ⟨_, rfl, ?_⟩; have n0_ := Aside0.mk (Kd.R_lower ho0 (below_size (by repeat (first | (with_reducible first | exact HB.out | apply below_alloc | apply pw_below_drewN | apply below_drew1 | refine below_set ?_ GE102.out) | exact HB.out)))); have n1_ := Aside0.mk (blk_below (g := gb102) (o := .cells #[.int .i64 0, .int .i64 0] 24 (0, 0)) (by (with_reducible repeat (first | refine blk_drewN ?_ _ | refine blk_drew ?_ | refine blk_alloc ?_ _)); exact BK102.out) hb); have n2_ := Aside0.mk (below_step (by repeat (first | (with_reducible first | exact HB.out | apply below_alloc | apply pw_below_drewN | apply below_drew1 | refine below_set ?_ GE102.out) | exact HB.out)) hb); clear BK102; clear HB; have HO105 := n0_; have BK102 := n1_; have HB := n2_; clear n0_ n1_ n2_; (try clear hb); (try clear hb2); (try clear hk); (try clear hi); (try clear ho0)))
  (try simp only [Act.put, List.setIfInBounds_toArray, List.set_cons_zero, List.set_cons_succ])
  go_cut [9] (fun v9 wc => ∃ (kq : Nat) (x9_3 : Bool), v9 = .bool x9_3 ∧ Aside0 (view_Ref.j0 kq l0 a1 t103 x9_3 = some (r1, r2, r3)) ∧ Aside0 (kq ≤ k) ∧ Aside0 (Kd.R (Kd.int .i64) 3 wc w.heap.size (fun _ => True) v104 t103) ∧ Aside0 (wc.heap[gb102]? = some (.cells #[.int .i64 0, .int .i64 0] 24 (0, 0))) ∧ Aside0 (Below w.heap.size w wc))
  case first =>
    have H := HC4.out
    clear HC4
    by_cases c7 : a1 < 0
    · rw [if_pos c7] at H
      have c7b0 : decide (a1 < 0) = true := decide_eq_true c7
      clear c7
      (first | rw [c7b0] | (simp only [i64_w, i32_w]; rw [c7b0]) | skip)
      have H' := Aside0.mk H
      clear H
      go_wp2
      go_meet
      case rel => exact ⟨_, (true), (by first | rfl | (simp; done) | (simp [*]; done)), H', ⟨by first | omega | exact Nat.le_refl _⟩, ⟨by (with_reducible repeat (first | apply Kd.R_alloc | apply Kd.R_drewN | apply Kd.R_drew)); exact HO105.out⟩, ⟨by (with_reducible repeat (first | refine blk_drewN ?_ _ | refine blk_drew ?_ | refine blk_alloc ?_ _)); exact BK102.out⟩, ⟨by repeat (first | (with_reducible first | exact HB.out | apply below_alloc | apply pw_below_drewN | apply below_drew1 | refine below_set ?_ GE102.out) | exact HB.out)⟩⟩
    · rw [if_neg c7] at H
      have c7b0 : decide (a1 < 0) = false := decide_eq_false c7
      clear c7
      (first | rw [c7b0] | (simp only [i64_w, i32_w]; rw [c7b0]) | skip)
      have H' := Aside0.mk H
      clear H
      obtain ⟨Ao8, co8, eo8⟩ := Kd.R_slice HO105.out
      subst eo8
      go_wp2
      go_meet
      case rel => exact ⟨_, (decide (a1 > (t103.length : Int))), (by first | rfl | (simp; done) | (simp [*]; done)), H', ⟨by first | omega | exact Nat.le_refl _⟩, ⟨by (with_reducible repeat (first | apply Kd.R_alloc | apply Kd.R_drewN | apply Kd.R_drew)); exact HO105.out⟩, ⟨by (with_reducible repeat (first | refine blk_drewN ?_ _ | refine blk_drew ?_ | refine blk_alloc ?_ _)); exact BK102.out⟩, ⟨by repeat (first | (with_reducible first | exact HB.out | apply below_alloc | apply pw_below_drewN | apply below_drew1 | refine below_set ?_ GE102.out) | exact HB.out)⟩⟩
  case rest =>
    clear HC4
    try clear c1
    try clear p2
    try clear c7
    try clear c7b0
    obtain ⟨kq, x9_3, rfl, HA, HJ3, HO_6, BK102, HB⟩ := hcut
    cases kq with
    | zero => exact absurd HA.out (by simp [view_Ref.j0])
    | succ kj3 =>
      have H := HA.out
      clear HA
      simp only [view_Ref.j0] at H
      by_cases c9 : x9_3 = true
      · subst c9
        have H1 : (some (0, 0, 1)) = some (r1, r2, r3) := by rw [if_pos rfl] at H; exact H
        clear H
        have H := H1
        clear H1
        simp only [Option.some.injEq, Prod.mk.injEq] at H
        obtain ⟨rfl, rfl, rfl⟩ := H
        have hcz10_0 : wc.cell? ⟨gb102, 0, none⟩ = some (.int .i64 0) := (blk_cell BK102.out 0).trans rfl
        have hcz10_1 : wc.cell? ⟨gb102, 1, none⟩ = some (.int .i64 0) := (blk_cell BK102.out 1).trans rfl
        have hfz10_0 := blk_frozen BK102.out 0
        have hfz10_1 := blk_frozen BK102.out 1
        go_wp2
        refine bodyPost_ret (results_ct rfl _ _ gb102 24 #[.int .i64 0, .int .i64 0] (0, 0) _ rfl (by (with_reducible repeat (first | refine blk_drewN ?_ _ | refine blk_drew ?_ | refine blk_alloc ?_ _)); refine blk_put (cs := #[.int .i64 0, .int .i64 0]) ?_ 1 _ rfl; (with_reducible repeat (first | refine blk_drewN ?_ _ | refine blk_drew ?_ | refine blk_alloc ?_ _)); refine blk_put (cs := #[.int .i64 0, .int .i64 0]) ?_ 0 _ rfl; (with_reducible repeat (first | refine blk_drewN ?_ _ | refine blk_drew ?_ | refine blk_alloc ?_ _)); exact BK102.out) Try.underlying24 rfl (by kernel_rfl)) rfl ?_
        exact ⟨by first | rfl | (simp [errW_none, errW_some] <;> rfl) | (simp [*, errW_none, errW_some] <;> rfl), by repeat (first | (with_reducible first | exact HB.out | apply below_alloc | apply pw_below_drewN | apply below_drew1 | refine below_set ?_ GE102.out) | exact HB.out)⟩
      · replace c9 := Bool.eq_false_iff.mpr c9
        subst c9
        have H1 : (if a1 = 0 then (some (0, 0, 0)) else (if 0 ≤ (wrap64 (a1 - 1)) then (if (wrap64 (a1 - 1)) < (t103.length : Int) then (if 0 ≤ (rd t103 (wrap64 (a1 - 1))) then (if (rd t103 (wrap64 (a1 - 1))) < (l0.length : Int) then (some ((rd_T44 l0 (rd t103 (wrap64 (a1 - 1)))).f0.f0, (rd_T44 l0 (rd t103 (wrap64 (a1 - 1)))).f0.f1, 0)) else (none)) else (none)) else (none)) else (none))) = some (r1, r2, r3) := by rw [if_neg (show ¬ (false = true) by decide)] at H; exact H
        clear H
        have H := H1
        clear H1
        by_cases c11 : a1 = 0
        · rw [if_pos c11] at H
          have c11b0 : (a1 == 0) = true := beq_iff_eq.mpr c11
          have c11b1 : (a1 != 0) = false := bne_eq_false_iff_eq.mpr c11
          clear c11
          simp only [Option.some.injEq, Prod.mk.injEq] at H
          obtain ⟨rfl, rfl, rfl⟩ := H
          have hcz12_0 : wc.cell? ⟨gb102, 0, none⟩ = some (.int .i64 0) := (blk_cell BK102.out 0).trans rfl
          have hcz12_1 : wc.cell? ⟨gb102, 1, none⟩ = some (.int .i64 0) := (blk_cell BK102.out 1).trans rfl
          have hfz12_0 := blk_frozen BK102.out 0
          have hfz12_1 := blk_frozen BK102.out 1
          go_wp2
          refine bodyPost_ret (results_ct rfl _ _ gb102 24 #[.int .i64 0, .int .i64 0] (0, 0) _ rfl (by (with_reducible repeat (first | refine blk_drewN ?_ _ | refine blk_drew ?_ | refine blk_alloc ?_ _)); refine blk_put (cs := #[.int .i64 0, .int .i64 0]) ?_ 1 _ rfl; (with_reducible repeat (first | refine blk_drewN ?_ _ | refine blk_drew ?_ | refine blk_alloc ?_ _)); refine blk_put (cs := #[.int .i64 0, .int .i64 0]) ?_ 0 _ rfl; (with_reducible repeat (first | refine blk_drewN ?_ _ | refine blk_drew ?_ | refine blk_alloc ?_ _)); exact BK102.out) Try.underlying24 rfl (by kernel_rfl)) rfl ?_
          exact ⟨by first | rfl | (simp [errW_none, errW_some] <;> rfl) | (simp [*, errW_none, errW_some] <;> rfl), by repeat (first | (with_reducible first | exact HB.out | apply below_alloc | apply pw_below_drewN | apply below_drew1 | refine below_set ?_ GE102.out) | exact HB.out)⟩
        · rw [if_neg c11] at H
          have c11b0 : (a1 == 0) = false := beq_eq_false_iff_ne.mpr c11
          have c11b1 : (a1 != 0) = true := bne_iff_ne.mpr c11
          obtain ⟨ji13, hji13⟩ : ∃ j_ : Int, (wrap64 (a1 - 1)) = j_ := ⟨_, rfl⟩
          replace H : (if 0 ≤ (ji13) then (if (ji13) < (t103.length : Int) then (if 0 ≤ (rd t103 (ji13)) then (if (rd t103 (ji13)) < (l0.length : Int) then (some ((rd_T44 l0 (rd t103 (ji13))).f0.f0, (rd_T44 l0 (rd t103 (ji13))).f0.f1, 0)) else (none)) else (none)) else (none)) else (none)) = some (r1, r2, r3) := by first | (rw [hji13] at H; exact H) | (simp only [hji13] at H ⊢; exact H)
          have hji13w : (IntKind.i64.wrap (a1 - 1)) = ji13 := (i64_w _).trans hji13
          by_cases c14 : 0 ≤ (ji13)
          · rw [if_pos c14] at H
            have c14b0 : decide (0 ≤ (ji13)) = true := decide_eq_true c14
            clear c14
            by_cases c15 : (ji13) < (t103.length : Int)
            · rw [if_pos c15] at H
              have c15b0 : decide ((ji13) < (t103.length : Int)) = true := decide_eq_true c15
              clear c15
              by_cases c16 : 0 ≤ (rd t103 (ji13))
              · rw [if_pos c16] at H
                have c16b0 : decide (0 ≤ (rd t103 (ji13))) = true := decide_eq_true c16
                clear c16
                by_cases c17 : (rd t103 (ji13)) < (l0.length : Int)
                · rw [if_pos c17] at H
                  have c17b0 : decide ((rd t103 (ji13)) < (l0.length : Int)) = true := decide_eq_true c17
                  clear c17
                  simp only [Option.some.injEq, Prod.mk.injEq] at H
                  obtain ⟨rfl, rfl, rfl⟩ := H
                  obtain ⟨Ao18, co18, eo18⟩ := Kd.R_slice HO_6.out
                  subst eo18
                  have p106 : 0 ≤ ((ji13) : Int) := of_decide_eq_true (by first | (with_reducible assumption) | assumption)
                  have q106 : (ji13) < (t103.length : Int) := of_decide_eq_true (by first | (with_reducible assumption) | assumption)
                  obtain ⟨ad106, e106, hx106_0⟩ := Kd.at_int (Kd.R_reads' HO_6.out).2.2 (ji13) p106 q106
                  cases e106
                  replace p106 := eq_true p106
                  replace q106 := eq_true q106
                  have p107 : 0 ≤ ((rd t103 (ji13)) : Int) := of_decide_eq_true (by first | (with_reducible assumption) | assumption)
                  have q107 : (rd t103 (ji13)) < (l0.length : Int) := of_decide_eq_true (by first | (with_reducible assumption) | assumption)
                  obtain ⟨ad107, A107_5, c107_5, e107, hx107_0, hx107_1, hx107_2, hx107_3, hx107_4, hx107_5, hl107_5, hi107_5⟩ := at_T44 HR0.out (rd t103 (ji13)) p107 q107
                  cases e107
                  (try replace hx107_0 := (HB.out.cell (World.block_lt_of_cell? w _ hx107_0)).trans hx107_0)
                  (try replace hx107_1 := (HB.out.cell (World.block_lt_of_cell? w _ hx107_1)).trans hx107_1)
                  (try replace hx107_2 := (HB.out.cell (World.block_lt_of_cell? w _ hx107_2)).trans hx107_2)
                  (try replace hx107_3 := (HB.out.cell (World.block_lt_of_cell? w _ hx107_3)).trans hx107_3)
                  (try replace hx107_4 := (HB.out.cell (World.block_lt_of_cell? w _ hx107_4)).trans hx107_4)
                  (try replace hx107_5 := (HB.out.cell (World.block_lt_of_cell? w _ hx107_5)).trans hx107_5)
                  have HR107_5 := Aside0.mk hi107_5
                  have HC107_5 := Aside0.mk hl107_5
                  clear hi107_5 hl107_5
                  replace p107 := eq_true p107
                  replace q107 := eq_true q107
                  have hcz19_0 : wc.cell? ⟨gb102, 0, none⟩ = some (.int .i64 0) := (blk_cell BK102.out 0).trans rfl
                  have hcz19_1 : wc.cell? ⟨gb102, 1, none⟩ = some (.int .i64 0) := (blk_cell BK102.out 1).trans rfl
                  have hfz19_0 := blk_frozen BK102.out 0
                  have hfz19_1 := blk_frozen BK102.out 1
                  go_wp2
                  refine bodyPost_ret (results_ct rfl _ _ gb102 24 #[.int .i64 ((rd_T44 l0 (rd t103 (ji13))).f0.f0), .int .i64 ((rd_T44 l0 (rd t103 (ji13))).f0.f1)] (0, 0) _ rfl (by (with_reducible repeat (first | refine blk_drewN ?_ _ | refine blk_drew ?_ | refine blk_alloc ?_ _)); refine blk_put (cs := #[.int .i64 ((rd_T44 l0 (rd t103 (ji13))).f0.f0), .int .i64 0]) ?_ 1 _ rfl; (with_reducible repeat (first | refine blk_drewN ?_ _ | refine blk_drew ?_ | refine blk_alloc ?_ _)); refine blk_put (cs := #[.int .i64 0, .int .i64 0]) ?_ 0 _ rfl; (with_reducible repeat (first | refine blk_drewN ?_ _ | refine blk_drew ?_ | refine blk_alloc ?_ _)); exact BK102.out) Try.underlying24 rfl (by kernel_rfl)) rfl ?_
                  exact ⟨by first | rfl | (simp [errW_none, errW_some] <;> rfl) | (simp only [← hji13]; first | rfl | (simp [errW_none, errW_some] <;> rfl)) | (simp [*, errW_none, errW_some] <;> rfl), by repeat (first | (with_reducible first | exact HB.out | apply below_alloc | apply pw_below_drewN | apply below_drew1 | refine below_set ?_ GE102.out) | exact HB.out)⟩
                · rw [if_neg c17] at H
                  exact absurd H (by simp)
              · rw [if_neg c16] at H
                exact absurd H (by simp)
            · rw [if_neg c15] at H
              exact absurd H (by simp)
          · rw [if_neg c14] at H
            exact absurd H (by simp)

/-! ### view_Index: function 12 -/
def view_Index.l0 : Nat → List (S44) → List (S44) → Int → Int → Int → Int → Option (Int × Int)
  | 0, _, _, _, _, _, _ => none
  | k + 1, x0, x11, x12, x13, x109000, x109001 => if x13 < x12 then (if 0 ≤ x13 then (if x13 < (x11.length : Int) then (if (((rd_T44 x11 x13).f0.f0) == x109000 && (((rd_T44 x11 x13).f0.f1) == x109001)) = true then (if 0 ≤ (wrap64 (x13 + 1)) then (if (wrap64 (x13 + 1)) ≤ (x0.length : Int) then ((view_Seen.f (x0.take ((wrap64 (x13 + 1)) : Int).toNat)).bind fun t115 => (some ((t115.length : Int), 0))) else (none)) else (none)) else (view_Index.l0 k x0 x11 x12 (wrap64 (x13 + 1)) x109000 x109001)) else (none)) else (none)) else (some (0, 6))
def view_Index.f (k : Nat) (l0 : List (S44)) (a1_0 : Int) (a1_1 : Int) : Option (Int × Int) := if (a1_0 == 0 && (a1_1 == 0)) = true then (some (0, 0)) else (view_Index.l0 k l0 l0 (l0.length : Int) 0 a1_0 a1_1)
theorem view_Index.mono_l : ∀ k, (∀ y0 y1 y2 y3 y4 y5, LeO (view_Index.l0 k y0 y1 y2 y3 y4 y5) (view_Index.l0 (k + 1) y0 y1 y2 y3 y4 y5))
  | 0 => fun _ _ _ _ _ _ r h => by simp [view_Index.l0] at h
  | k + 1 => by
    have ih0 := view_Index.mono_l k
    · intro y0 y1 y2 y3 y4 y5
      unfold view_Index.l0
      repeat' first
      | (with_reducible exact ih0 _ _ _ _ _ _)
      | (with_reducible exact LeO.refl _)
      | (with_reducible exact LeO.none _)
      | (with_reducible refine LeO.ite ?_ ?_)
      | (with_reducible refine LeO.bind ?_ (fun _ => ?_))
      | exact ih0 _ _ _ _ _ _
      | exact LeO.none _
      | refine LeO.ite ?_ ?_
      | refine LeO.bind ?_ (fun _ => ?_)
theorem view_Index.mono : ∀ a0 a1 a2 k, LeO (view_Index.f k a0 a1 a2) (view_Index.f (k + 1) a0 a1 a2) := by
  intro a0 a1 a2 k
  have ih0 := view_Index.mono_l k
  unfold view_Index.f
  repeat' first
      | (with_reducible exact ih0 _ _ _ _ _ _)
      | (with_reducible exact LeO.refl _)
      | (with_reducible exact LeO.none _)
      | (with_reducible refine LeO.ite ?_ ?_)
      | (with_reducible refine LeO.bind ?_ (fun _ => ?_))
      | exact ih0 _ _ _ _ _ _
      | exact LeO.none _
      | refine LeO.ite ?_ ?_
      | refine LeO.bind ?_ (fun _ => ?_)
set_option maxHeartbeats 8000000 in
set_option maxRecDepth 100000 in
theorem view_Index.calls (k : Nat) (A0 : Option Addr) (c0 : Nat) (l0 : List (S44)) (a1_0 : Int) (a1_1 : Int) (r1 : Int) (r2 : Int) (w : World) (hr0 : Kd.C k44 w A0 l0.length l0) (hc0 : l0.length ≤ c0) (h : view_Index.f k l0 a1_0 a1_1 = some (r1, r2)) :
    Calls Try.prog 12 #[.slice A0 l0.length c0, .agg #[.int .i64 a1_0, .int .i64 a1_1]] w fun e w' => e = .returned (.tuple #[.int .i64 r1, .int .i64 r2]) ∧ Below w.heap.size w w' := by
  have hu24 := Try.underlying24
  have hu44 := Try.underlying44
  have HR0 := Aside0.mk hr0
  have HC0 := Aside0.mk hc0
  clear hr0 hc0
  have HB := Aside0.mk (Below.refl w.heap.size w)
  have H : (if (a1_0 == 0 && (a1_1 == 0)) = true then (some (0, 0)) else (view_Index.l0 k l0 l0 (l0.length : Int) 0 a1_0 a1_1)) = some (r1, r2) := h
  clear h
  by_cases c3 : (a1_0 == 0 && (a1_1 == 0)) = true
  · rw [if_pos c3] at H
    have c3b0 : (a1_0 == 0 && (a1_1 == 0)) = true := c3
    (try (have c3b1 : decide (a1_0 = 0 && (a1_1 == 0)) = true := by simpa using c3))
    (try (have c3b2 : (a1_0 == 0 && (a1_1 == 0)) = true := by simpa using c3))
    clear c3
    simp only [Option.some.injEq, Prod.mk.injEq] at H
    obtain ⟨rfl, rfl⟩ := H
    go_enter Try.func12, Try.ntmps12
    go_wp2_with (first | ((with_reducible refine gate_dst (N := 3) rfl ?_); refine box_event ?hg (N := 3) ?hd (cs := #[.int .i64 a1_0, .int .i64 a1_1]) (t := 24) ?hr ?_; (case hd => rfl); (case hg => rfl); (case hr => first | (go_simp; done) | (go_simp; rfl)); intro gb108 hg w4 hbox hb; have n0_ := Aside0.mk (below_step (by repeat (first | (with_reducible first | exact HB.out | apply below_alloc | apply pw_below_drewN | apply below_drew1) | exact HB.out)) hb); have n1_ := Aside0.mk (hbox); have n2_ := Aside0.mk ((by rw [hg]; exact (below_size (by repeat (first | (with_reducible first | exact HB.out | apply below_alloc | apply pw_below_drewN | apply below_drew1) | exact HB.out))) : w.heap.size ≤ gb108)); have n3_ := Aside0.mk ((by rw [hg]; exact (below_size (by repeat (first | (with_reducible first | exact HB.out | apply below_alloc | apply pw_below_drewN | apply below_drew1) | exact HB.out))) : w.heap.size ≤ gb108)); clear HB; have HB := n0_; have BK108 := n1_; have GW108 := n2_; have GE108 := n3_; clear n0_ n1_ n2_ n3_; clear hb hbox hg; have hcz5_0 : w4.cell? ⟨gb108, 0, none⟩ = some (.int .i64 a1_0) := (blk_cell BK108.out 0).trans rfl; have hcz5_1 : w4.cell? ⟨gb108, 1, none⟩ = some (.int .i64 a1_1) := (blk_cell BK108.out 1).trans rfl; have hfz5_0 := blk_frozen BK108.out 0; have hfz5_1 := blk_frozen BK108.out 1))
    go_ret2
    exact ⟨by first | rfl | (simp [errW_none, errW_some] <;> rfl) | (simp [*, errW_none, errW_some] <;> rfl), by repeat (first | (with_reducible first | exact HB.out | apply below_alloc | apply pw_below_drewN | apply below_drew1 | refine below_set ?_ GE108.out) | exact HB.out)⟩
  · rw [if_neg c3] at H
    have c3b0 : (a1_0 == 0 && (a1_1 == 0)) = false := by simpa using c3
    (try (have c3b1 : decide (a1_0 = 0 && (a1_1 == 0)) = false := by simpa using c3))
    (try (have c3b2 : (a1_0 == 0 && (a1_1 == 0)) = false := by simpa using c3))
    (try (have c3b3 : ¬ (a1_0 = 0 && (a1_1 == 0)) := by simpa using c3))
    clear c3
    have H' := Aside0.mk H
    clear H
    go_enter Try.func12, Try.ntmps12
    go_wp2_with (first | ((with_reducible refine gate_dst (N := 3) rfl ?_); refine box_event ?hg (N := 3) ?hd (cs := #[.int .i64 a1_0, .int .i64 a1_1]) (t := 24) ?hr ?_; (case hd => rfl); (case hg => rfl); (case hr => first | (go_simp; done) | (go_simp; rfl)); intro gb108 hg w6 hbox hb; have n0_ := Aside0.mk (below_step (by repeat (first | (with_reducible first | exact HB.out | apply below_alloc | apply pw_below_drewN | apply below_drew1) | exact HB.out)) hb); have n1_ := Aside0.mk (hbox); have n2_ := Aside0.mk ((by rw [hg]; exact (below_size (by repeat (first | (with_reducible first | exact HB.out | apply below_alloc | apply pw_below_drewN | apply below_drew1) | exact HB.out))) : w.heap.size ≤ gb108)); have n3_ := Aside0.mk ((by rw [hg]; exact (below_size (by repeat (first | (with_reducible first | exact HB.out | apply below_alloc | apply pw_below_drewN | apply below_drew1) | exact HB.out))) : w.heap.size ≤ gb108)); clear HB; have HB := n0_; have BK108 := n1_; have GW108 := n2_; have GE108 := n3_; clear n0_ n1_ n2_ n3_; clear hb hbox hg; have hcz7_0 : w6.cell? ⟨gb108, 0, none⟩ = some (.int .i64 a1_0) := (blk_cell BK108.out 0).trans rfl; have hcz7_1 : w6.cell? ⟨gb108, 1, none⟩ = some (.int .i64 a1_1) := (blk_cell BK108.out 1).trans rfl; have hfz7_0 := blk_frozen BK108.out 0; have hfz7_1 := blk_frozen BK108.out 1))
    go_loopg [13] k (fun kq v13 w' => ∃ (x13_1 : Int), v13 = .int .i64 x13_1 ∧ Aside0 (view_Index.l0 kq l0 l0 (l0.length : Int) x13_1 a1_0 a1_1 = some (r1, r2)) ∧ Aside0 (kq ≤ k) ∧ Aside0 (w'.heap[gb108]? = some (.cells #[.int .i64 a1_0, .int .i64 a1_1] 24 (0, 0))) ∧ Aside0 (Below w.heap.size w w'))
    case atStart => exact ⟨(0), (by first | rfl | (simp; done) | (simp [*]; done)), H', ⟨Nat.le_refl _⟩, ⟨by (with_reducible repeat (first | refine blk_drewN ?_ _ | refine blk_drew ?_ | refine blk_alloc ?_ _)); exact BK108.out⟩, ⟨by repeat (first | (with_reducible first | exact HB.out | apply below_alloc | apply pw_below_drewN | apply below_drew1 | refine below_set ?_ GE108.out) | exact HB.out)⟩⟩
    case round =>
      clear H'
      try clear c1
      try clear p2
      try clear c3
      try clear c3b0
      try clear c3b1
      try clear c3b2
      try clear hcz5_0
      try clear hcz5_1
      try clear hcz7_0
      try clear hcz7_1
      try clear hfz5_0
      try clear hfz5_1
      try clear hfz7_0
      try clear hfz7_1
      obtain ⟨x13_1, rfl, HA, HK1, BK108, HB⟩ := hrel
      cases gk with
      | zero => exact absurd HA.out (by simp [view_Index.l0])
      | succ k1 =>
        have H := HA.out
        clear HA
        simp only [view_Index.l0] at H
        by_cases c8 : x13_1 < (l0.length : Int)
        · rw [if_pos c8] at H
          have c8b0 : decide (x13_1 < (l0.length : Int)) = true := decide_eq_true c8
          clear c8
          by_cases c9 : 0 ≤ x13_1
          · rw [if_pos c9] at H
            have c9b0 : decide (0 ≤ x13_1) = true := decide_eq_true c9
            clear c9
            by_cases c10 : x13_1 < (l0.length : Int)
            · rw [if_pos c10] at H
              have c10b0 : decide (x13_1 < (l0.length : Int)) = true := decide_eq_true c10
              clear c10
              by_cases c11 : (((rd_T44 l0 x13_1).f0.f0) == a1_0 && (((rd_T44 l0 x13_1).f0.f1) == a1_1)) = true
              · rw [if_pos c11] at H
                have c11b0 : (((rd_T44 l0 x13_1).f0.f0) == a1_0 && (((rd_T44 l0 x13_1).f0.f1) == a1_1)) = true := c11
                (try (have c11b1 : decide (((rd_T44 l0 x13_1).f0.f0) = a1_0 && (((rd_T44 l0 x13_1).f0.f1) == a1_1)) = true := by simpa using c11))
                (try (have c11b2 : (((rd_T44 l0 x13_1).f0.f0) == a1_0 && (((rd_T44 l0 x13_1).f0.f1) == a1_1)) = true := by simpa using c11))
                clear c11
                obtain ⟨ji12, hji12⟩ : ∃ j_ : Int, (wrap64 (x13_1 + 1)) = j_ := ⟨_, rfl⟩
                replace H : (if 0 ≤ (ji12) then (if (ji12) ≤ (l0.length : Int) then ((view_Seen.f (l0.take ((ji12) : Int).toNat)).bind fun t115 => (some ((t115.length : Int), 0))) else (none)) else (none)) = some (r1, r2) := by first | (rw [hji12] at H; exact H) | (simp only [hji12] at H ⊢; exact H)
                have hji12w : (IntKind.i64.wrap (x13_1 + 1)) = ji12 := (i64_w _).trans hji12
                by_cases c13 : 0 ≤ (ji12)
                · rw [if_pos c13] at H
                  have c13b0 := eq_true c13
                  have c13b1 : decide (0 ≤ (ji12)) = true := decide_eq_true c13
                  clear c13
                  by_cases c14 : (ji12) ≤ (l0.length : Int)
                  · rw [if_pos c14] at H
                    have c14b0 := eq_true c14
                    have c14b1 : decide ((ji12) ≤ (l0.length : Int)) = true := decide_eq_true c14
                    clear c14
                    obtain ⟨y111, hy111⟩ : ∃ y_ : List (S44), y_ = (l0.take ((ji12) : Int).toNat) := ⟨_, rfl⟩
                    replace H : ((view_Seen.f y111).bind fun t115 => (some ((t115.length : Int), 0))) = some (r1, r2) := by first | (rw [hy111]; with_reducible exact H) | (have H2_ := (Option.bind_some _ _).symm.trans H; rw [hy111]; with_reducible exact H2_) | (have H2_ := (Option.bind_some _ _).symm.trans H; with_reducible exact H2_) | with_reducible exact H | (rw [hy111]; exact H) | exact H
                    have Ny111 := Aside0.mk hy111
                    clear hy111
                    replace H := Option.bind_eq_some_iff.mp H
                    obtain ⟨t115, A150, H⟩ := H
                    replace H : (some ((t115.length : Int), 0)) = some (r1, r2) := H
                    have A15 := Aside0.mk A150
                    clear A150
                    simp only [Option.some.injEq, Prod.mk.injEq] at H
                    obtain ⟨rfl, rfl⟩ := H
                    have p109 : 0 ≤ (x13_1 : Int) := of_decide_eq_true (by first | (with_reducible assumption) | assumption)
                    have q109 : x13_1 < (l0.length : Int) := of_decide_eq_true (by first | (with_reducible assumption) | assumption)
                    obtain ⟨ad109, A109_5, c109_5, e109, hx109_0, hx109_1, hx109_2, hx109_3, hx109_4, hx109_5, hl109_5, hi109_5⟩ := at_T44 HR0.out x13_1 p109 q109
                    cases e109
                    (try replace hx109_0 := (HB.out.cell (World.block_lt_of_cell? w _ hx109_0)).trans hx109_0)
                    (try replace hx109_1 := (HB.out.cell (World.block_lt_of_cell? w _ hx109_1)).trans hx109_1)
                    (try replace hx109_2 := (HB.out.cell (World.block_lt_of_cell? w _ hx109_2)).trans hx109_2)
                    (try replace hx109_3 := (HB.out.cell (World.block_lt_of_cell? w _ hx109_3)).trans hx109_3)
                    (try replace hx109_4 := (HB.out.cell (World.block_lt_of_cell? w _ hx109_4)).trans hx109_4)
                    (try replace hx109_5 := (HB.out.cell (World.block_lt_of_cell? w _ hx109_5)).trans hx109_5)
                    have HR109_5 := Aside0.mk hi109_5
                    have HC109_5 := Aside0.mk hl109_5
                    clear hi109_5 hl109_5
                    replace p109 := eq_true p109
                    replace q109 := eq_true q109
                    go_wp2_with (first | ((with_reducible refine gate_dst (N := 7) rfl ?_); refine box_event ?hg (N := 7) ?hd (cs := #[.int .i64 0, .int .i64 0, .int .i64 0, .int .i64 0, .int .i64 0, .slice none 0 0]) (t := 44) ?hr ?_; (case hd => rfl); (case hg => rfl); (case hr => first | (go_simp; done) | (go_simp; rfl)); intro gb110 hg w16 hbox hb; have n0_ := Aside0.mk (blk_below (g := gb108) (o := .cells #[.int .i64 a1_0, .int .i64 a1_1] 24 (0, 0)) (by (with_reducible repeat (first | refine blk_drewN ?_ _ | refine blk_drew ?_ | refine blk_alloc ?_ _)); exact BK108.out) hb); have n1_ := Aside0.mk (below_step (by repeat (first | (with_reducible first | exact HB.out | apply below_alloc | apply pw_below_drewN | apply below_drew1 | refine below_set ?_ GE108.out) | exact HB.out)) hb); have n2_ := Aside0.mk (hbox); have n3_ := Aside0.mk ((by rw [hg]; exact (below_size (by repeat (first | (with_reducible first | exact HB.out | apply below_alloc | apply pw_below_drewN | apply below_drew1 | refine below_set ?_ GE108.out) | exact HB.out))) : w.heap.size ≤ gb110)); have n4_ := Aside0.mk ((by rw [hg]; exact (below_size (by repeat (first | (with_reducible first | exact HB.out | apply below_alloc | apply pw_below_drewN | apply below_drew1 | refine below_set ?_ GE108.out) | exact HB.out))) : w.heap.size ≤ gb110)); have n5_ := Aside0.mk ((by rw [hg]; exact Nat.ne_of_lt (blk_lt (g := gb108) (o := .cells #[.int .i64 a1_0, .int .i64 a1_1] 24 (0, 0)) (by (with_reducible repeat (first | refine blk_drewN ?_ _ | refine blk_drew ?_ | refine blk_alloc ?_ _)); exact BK108.out)) : gb108 ≠ gb110)); have n6_ := Aside0.mk ((by rw [hg]; exact Nat.ne_of_gt (blk_lt (g := gb108) (o := .cells #[.int .i64 a1_0, .int .i64 a1_1] 24 (0, 0)) (by (with_reducible repeat (first | refine blk_drewN ?_ _ | refine blk_drew ?_ | refine blk_alloc ?_ _)); exact BK108.out)) : gb110 ≠ gb108)); clear BK108; clear HB; have BK108 := n0_; have HB := n1_; have BK110 := n2_; have GW110 := n3_; have GE110 := n4_; have NB108_110 := n5_; have NB110_108 := n6_; clear n0_ n1_ n2_ n3_ n4_ n5_ n6_; clear hb hbox hg; have hnb17 := NB110_108.out; have hnc17 := NB108_110.out; have hcz18_0 : w16.cell? ⟨gb110, 0, none⟩ = some (.int .i64 0) := (blk_cell BK110.out 0).trans rfl; have hcz18_1 : w16.cell? ⟨gb110, 1, none⟩ = some (.int .i64 0) := (blk_cell BK110.out 1).trans rfl; have hcz18_2 : w16.cell? ⟨gb110, 2, none⟩ = some (.int .i64 0) := (blk_cell BK110.out 2).trans rfl; have hcz18_3 : w16.cell? ⟨gb110, 3, none⟩ = some (.int .i64 0) := (blk_cell BK110.out 3).trans rfl; have hcz18_4 : w16.cell? ⟨gb110, 4, none⟩ = some (.int .i64 0) := (blk_cell BK110.out 4).trans rfl; have hcz18_5 : w16.cell? ⟨gb110, 5, none⟩ = some (.slice none 0 0) := (blk_cell BK110.out 5).trans rfl; have hfz18_0 := blk_frozen BK110.out 0; have hfz18_1 := blk_frozen BK110.out 1; have hfz18_2 := blk_frozen BK110.out 2; have hfz18_3 := blk_frozen BK110.out 3; have hfz18_4 := blk_frozen BK110.out 4; have hfz18_5 := blk_frozen BK110.out 5) | ((with_reducible refine gate_store (t := 44) (p := 7) rfl ?_); refine store_event (t := 44) (p := 7) (v := ?vo_w19) (w1 := ((((((w16.setCell ⟨gb110, 0, none⟩ (.int .i64 ((rd_T44 l0 x13_1).f0.f0))).setCell ⟨gb110, 1, none⟩ (.int .i64 ((rd_T44 l0 x13_1).f0.f1))).setCell ⟨gb110, 2, none⟩ (.int .i64 ((rd_T44 l0 x13_1).f1.f0))).setCell ⟨gb110, 3, none⟩ (.int .i64 ((rd_T44 l0 x13_1).f1.f1))).setCell ⟨gb110, 4, none⟩ (.int .i64 ((rd_T44 l0 x13_1).f2))).setCell ⟨gb110, 5, none⟩ (.slice A109_5 ((rd_T44 l0 x13_1).f3).length c109_5))) ?hg ?ho ?hn ?hr ?_; (case ho => rfl); (case hg => rfl); (case hn => rfl); (case hr => first | (go_simp; done) | (go_simp; rfl)); intro w19 hw; have n0_ : Aside0 (w19.heap[gb108]? = some (.cells #[.int .i64 a1_0, .int .i64 a1_1] 24 (0, 0))) := ⟨(by rw [hw]; exact (by (with_reducible repeat (first | refine blk_drewN ?_ _ | refine blk_drew ?_ | refine blk_alloc ?_ _)); refine blk_far ?_ NB108_110.out _; (with_reducible repeat (first | refine blk_drewN ?_ _ | refine blk_drew ?_ | refine blk_alloc ?_ _)); refine blk_far ?_ NB108_110.out _; (with_reducible repeat (first | refine blk_drewN ?_ _ | refine blk_drew ?_ | refine blk_alloc ?_ _)); refine blk_far ?_ NB108_110.out _; (with_reducible repeat (first | refine blk_drewN ?_ _ | refine blk_drew ?_ | refine blk_alloc ?_ _)); refine blk_far ?_ NB108_110.out _; (with_reducible repeat (first | refine blk_drewN ?_ _ | refine blk_drew ?_ | refine blk_alloc ?_ _)); refine blk_far ?_ NB108_110.out _; (with_reducible repeat (first | refine blk_drewN ?_ _ | refine blk_drew ?_ | refine blk_alloc ?_ _)); refine blk_far ?_ NB108_110.out _; (with_reducible repeat (first | refine blk_drewN ?_ _ | refine blk_drew ?_ | refine blk_alloc ?_ _)); exact BK108.out))⟩; have n1_ : Aside0 (w19.heap[gb110]? = some (.cells #[.int .i64 ((rd_T44 l0 x13_1).f0.f0), .int .i64 ((rd_T44 l0 x13_1).f0.f1), .int .i64 ((rd_T44 l0 x13_1).f1.f0), .int .i64 ((rd_T44 l0 x13_1).f1.f1), .int .i64 ((rd_T44 l0 x13_1).f2), .slice A109_5 ((rd_T44 l0 x13_1).f3).length c109_5] 44 (0, 0))) := ⟨(by rw [hw]; exact (by (with_reducible repeat (first | refine blk_drewN ?_ _ | refine blk_drew ?_ | refine blk_alloc ?_ _)); refine blk_put (cs := #[.int .i64 ((rd_T44 l0 x13_1).f0.f0), .int .i64 ((rd_T44 l0 x13_1).f0.f1), .int .i64 ((rd_T44 l0 x13_1).f1.f0), .int .i64 ((rd_T44 l0 x13_1).f1.f1), .int .i64 ((rd_T44 l0 x13_1).f2), .slice none 0 0]) ?_ 5 _ rfl; (with_reducible repeat (first | refine blk_drewN ?_ _ | refine blk_drew ?_ | refine blk_alloc ?_ _)); refine blk_put (cs := #[.int .i64 ((rd_T44 l0 x13_1).f0.f0), .int .i64 ((rd_T44 l0 x13_1).f0.f1), .int .i64 ((rd_T44 l0 x13_1).f1.f0), .int .i64 ((rd_T44 l0 x13_1).f1.f1), .int .i64 0, .slice none 0 0]) ?_ 4 _ rfl; (with_reducible repeat (first | refine blk_drewN ?_ _ | refine blk_drew ?_ | refine blk_alloc ?_ _)); refine blk_put (cs := #[.int .i64 ((rd_T44 l0 x13_1).f0.f0), .int .i64 ((rd_T44 l0 x13_1).f0.f1), .int .i64 ((rd_T44 l0 x13_1).f1.f0), .int .i64 0, .int .i64 0, .slice none 0 0]) ?_ 3 _ rfl; (with_reducible repeat (first | refine blk_drewN ?_ _ | refine blk_drew ?_ | refine blk_alloc ?_ _)); refine blk_put (cs := #[.int .i64 ((rd_T44 l0 x13_1).f0.f0), .int .i64 ((rd_T44 l0 x13_1).f0.f1), .int .i64 0, .int .i64 0, .int .i64 0, .slice none 0 0]) ?_ 2 _ rfl; (with_reducible repeat (first | refine blk_drewN ?_ _ | refine blk_drew ?_ | refine blk_alloc ?_ _)); refine blk_put (cs := #[.int .i64 ((rd_T44 l0 x13_1).f0.f0), .int .i64 0, .int .i64 0, .int .i64 0, .int .i64 0, .slice none 0 0]) ?_ 1 _ rfl; (with_reducible repeat (first | refine blk_drewN ?_ _ | refine blk_drew ?_ | refine blk_alloc ?_ _)); refine blk_put (cs := #[.int .i64 0, .int .i64 0, .int .i64 0, .int .i64 0, .int .i64 0, .slice none 0 0]) ?_ 0 _ rfl; (with_reducible repeat (first | refine blk_drewN ?_ _ | refine blk_drew ?_ | refine blk_alloc ?_ _)); exact BK110.out))⟩; have n2_ : Aside0 (Below w.heap.size w w19) := ⟨(by rw [hw]; exact (by repeat (first | (with_reducible first | exact HB.out | apply below_alloc | apply pw_below_drewN | apply below_drew1 | refine below_set ?_ GE108.out | refine below_set ?_ GE110.out) | exact HB.out)))⟩; clear hw; clear BK108; clear BK110; clear HB; have BK108 := n0_; have BK110 := n1_; have HB := n2_; clear n0_ n1_ n2_; have hcz20_0 : w19.cell? ⟨gb110, 0, none⟩ = some (.int .i64 ((rd_T44 l0 x13_1).f0.f0)) := (blk_cell BK110.out 0).trans rfl; have hcz20_1 : w19.cell? ⟨gb110, 1, none⟩ = some (.int .i64 ((rd_T44 l0 x13_1).f0.f1)) := (blk_cell BK110.out 1).trans rfl; have hcz20_2 : w19.cell? ⟨gb110, 2, none⟩ = some (.int .i64 ((rd_T44 l0 x13_1).f1.f0)) := (blk_cell BK110.out 2).trans rfl; have hcz20_3 : w19.cell? ⟨gb110, 3, none⟩ = some (.int .i64 ((rd_T44 l0 x13_1).f1.f1)) := (blk_cell BK110.out 3).trans rfl; have hcz20_4 : w19.cell? ⟨gb110, 4, none⟩ = some (.int .i64 ((rd_T44 l0 x13_1).f2)) := (blk_cell BK110.out 4).trans rfl; have hcz20_5 : w19.cell? ⟨gb110, 5, none⟩ = some (.slice A109_5 ((rd_T44 l0 x13_1).f3).length c109_5) := (blk_cell BK110.out 5).trans rfl; have hfz20_0 := blk_frozen BK110.out 0; have hfz20_1 := blk_frozen BK110.out 1; have hfz20_2 := blk_frozen BK110.out 2; have hfz20_3 := blk_frozen BK110.out 3; have hfz20_4 := blk_frozen BK110.out 4; have hfz20_5 := blk_frozen BK110.out 5; have hcz21_0 : w19.cell? ⟨gb108, 0, none⟩ = some (.int .i64 a1_0) := (blk_cell BK108.out 0).trans rfl; have hcz21_1 : w19.cell? ⟨gb108, 1, none⟩ = some (.int .i64 a1_1) := (blk_cell BK108.out 1).trans rfl; have hfz21_0 := blk_frozen BK108.out 0; have hfz21_1 := blk_frozen BK108.out 1; have q22 : ((ji12) : Int) ≤ ((l0.length : Int) : Int) := of_decide_eq_true (by first | (with_reducible assumption) | assumption); obtain ⟨i022, hi022, _, hsz22, _⟩ := info_parts info44; have hroom22 : l0.length ≤ c0 := HC0.out; have hC22 : Kd.C k44 _ (some ad109) l0.length l0 := HR0.out; have hcut22 := cut_to (P := Try.prog) 22 44 .i64 Try.underlying22 hi022 (some ad109) l0.length c0 (ji12) (of_decide_eq_true (by first | (with_reducible assumption) | assumption)) q22 hroom22; have hr22 := Kd.C_take (m := ((ji12) : Int).toNat) hC22 (by omega); have hy22 : y111.length = ((ji12) : Int).toNat := (by rw [Ny111.out, List.length_take]; omega); rw [← Ny111.out] at hr22; rw [← hy22] at hcut22; have HR114 := Aside0.mk hr22; have HC114 := Aside0.mk (show y111.length ≤ c0 from by omega); clear hr22 hC22 hroom22 hi022 hsz22; have KY22 := Aside0.mk hy22; clear hy22; replace q22 := eq_true q22) | ((with_reducible refine gate_callee (f := 17) rfl ?_); refine goesL_ (some 26) rfl rfl Try.func17 (by kernel_rfl) rfl #[.slice (some ad109) y111.length c0] rfl (by (try simp only [List.map_toArray, List.map_cons, List.map_nil]); first | done | rfl | (simp only [List.length_drop, List.length_take]; rfl)) ?_; (with_reducible refine (view_Seen.calls _ _ y111 t115 _ ?side1 ?side2 A15.out).mono ?_); (case side1 => repeat (first | exact (Kd.C_below HR114.out HB.out) | (with_reducible refine Kd.C_alloc ?_ _) | (with_reducible refine Kd.C_drewN ?_ _) | (with_reducible refine Kd.C_drew ?_))); (case side2 => exact HC114.out); rintro e w23 ⟨v116, rfl, ho0, hb⟩; refine ⟨_, rfl, ?_⟩; have n0_ := Aside0.mk (Kd.R_lower ho0 (below_size (by repeat (first | (with_reducible first | exact HB.out | apply below_alloc | apply pw_below_drewN | apply below_drew1 | refine below_set ?_ GE108.out | refine below_set ?_ GE110.out) | exact HB.out)))); have n1_ := Aside0.mk (blk_below (g := gb108) (o := .cells #[.int .i64 a1_0, .int .i64 a1_1] 24 (0, 0)) (by (with_reducible repeat (first | refine blk_drewN ?_ _ | refine blk_drew ?_ | refine blk_alloc ?_ _)); exact BK108.out) hb); have n2_ := Aside0.mk (blk_below (g := gb110) (o := .cells #[.int .i64 ((rd_T44 l0 x13_1).f0.f0), .int .i64 ((rd_T44 l0 x13_1).f0.f1), .int .i64 ((rd_T44 l0 x13_1).f1.f0), .int .i64 ((rd_T44 l0 x13_1).f1.f1), .int .i64 ((rd_T44 l0 x13_1).f2), .slice A109_5 ((rd_T44 l0 x13_1).f3).length c109_5] 44 (0, 0)) (by (with_reducible repeat (first | refine blk_drewN ?_ _ | refine blk_drew ?_ | refine blk_alloc ?_ _)); exact BK110.out) hb); have n3_ := Aside0.mk (below_step (by repeat (first | (with_reducible first | exact HB.out | apply below_alloc | apply pw_below_drewN | apply below_drew1 | refine below_set ?_ GE108.out | refine below_set ?_ GE110.out) | exact HB.out)) hb); clear BK108; clear BK110; clear HB; have HO117 := n0_; have BK108 := n1_; have BK110 := n2_; have HB := n3_; clear n0_ n1_ n2_ n3_; (try clear hb); (try clear hb2); (try clear hk); (try clear hi); (try clear ho0); obtain ⟨Ao24, co24, eo24⟩ := Kd.R_slice HO117.out; subst eo24))
                    go_ret2
                    exact ⟨by first | rfl | (simp [errW_none, errW_some] <;> rfl) | (simp only [← hji12]; first | rfl | (simp [errW_none, errW_some] <;> rfl)) | (simp [*, errW_none, errW_some] <;> rfl), by repeat (first | (with_reducible first | exact HB.out | apply below_alloc | apply pw_below_drewN | apply below_drew1 | refine below_set ?_ GE108.out | refine below_set ?_ GE110.out) | exact HB.out)⟩
                  · rw [if_neg c14] at H
                    exact absurd H (by simp)
                · rw [if_neg c13] at H
                  exact absurd H (by simp)
              · rw [if_neg c11] at H
                have c11b0 : (((rd_T44 l0 x13_1).f0.f0) == a1_0 && (((rd_T44 l0 x13_1).f0.f1) == a1_1)) = false := by simpa using c11
                (try (have c11b1 : decide (((rd_T44 l0 x13_1).f0.f0) = a1_0 && (((rd_T44 l0 x13_1).f0.f1) == a1_1)) = false := by simpa using c11))
                (try (have c11b2 : (((rd_T44 l0 x13_1).f0.f0) == a1_0 && (((rd_T44 l0 x13_1).f0.f1) == a1_1)) = false := by simpa using c11))
                (try (have c11b3 : ¬ (((rd_T44 l0 x13_1).f0.f0) = a1_0 && (((rd_T44 l0 x13_1).f0.f1) == a1_1)) := by simpa using c11))
                clear c11
                have H' := Aside0.mk H
                clear H
                have p109 : 0 ≤ (x13_1 : Int) := of_decide_eq_true (by first | (with_reducible assumption) | assumption)
                have q109 : x13_1 < (l0.length : Int) := of_decide_eq_true (by first | (with_reducible assumption) | assumption)
                obtain ⟨ad109, A109_5, c109_5, e109, hx109_0, hx109_1, hx109_2, hx109_3, hx109_4, hx109_5, hl109_5, hi109_5⟩ := at_T44 HR0.out x13_1 p109 q109
                cases e109
                (try replace hx109_0 := (HB.out.cell (World.block_lt_of_cell? w _ hx109_0)).trans hx109_0)
                (try replace hx109_1 := (HB.out.cell (World.block_lt_of_cell? w _ hx109_1)).trans hx109_1)
                (try replace hx109_2 := (HB.out.cell (World.block_lt_of_cell? w _ hx109_2)).trans hx109_2)
                (try replace hx109_3 := (HB.out.cell (World.block_lt_of_cell? w _ hx109_3)).trans hx109_3)
                (try replace hx109_4 := (HB.out.cell (World.block_lt_of_cell? w _ hx109_4)).trans hx109_4)
                (try replace hx109_5 := (HB.out.cell (World.block_lt_of_cell? w _ hx109_5)).trans hx109_5)
                have HR109_5 := Aside0.mk hi109_5
                have HC109_5 := Aside0.mk hl109_5
                clear hi109_5 hl109_5
                replace p109 := eq_true p109
                replace q109 := eq_true q109
                go_wp2_with (first | ((with_reducible refine gate_dst (N := 7) rfl ?_); refine box_event ?hg (N := 7) ?hd (cs := #[.int .i64 0, .int .i64 0, .int .i64 0, .int .i64 0, .int .i64 0, .slice none 0 0]) (t := 44) ?hr ?_; (case hd => rfl); (case hg => rfl); (case hr => first | (go_simp; done) | (go_simp; rfl)); intro gb110 hg w25 hbox hb; have n0_ := Aside0.mk (blk_below (g := gb108) (o := .cells #[.int .i64 a1_0, .int .i64 a1_1] 24 (0, 0)) (by (with_reducible repeat (first | refine blk_drewN ?_ _ | refine blk_drew ?_ | refine blk_alloc ?_ _)); exact BK108.out) hb); have n1_ := Aside0.mk (below_step (by repeat (first | (with_reducible first | exact HB.out | apply below_alloc | apply pw_below_drewN | apply below_drew1 | refine below_set ?_ GE108.out) | exact HB.out)) hb); have n2_ := Aside0.mk (hbox); have n3_ := Aside0.mk ((by rw [hg]; exact (below_size (by repeat (first | (with_reducible first | exact HB.out | apply below_alloc | apply pw_below_drewN | apply below_drew1 | refine below_set ?_ GE108.out) | exact HB.out))) : w.heap.size ≤ gb110)); have n4_ := Aside0.mk ((by rw [hg]; exact (below_size (by repeat (first | (with_reducible first | exact HB.out | apply below_alloc | apply pw_below_drewN | apply below_drew1 | refine below_set ?_ GE108.out) | exact HB.out))) : w.heap.size ≤ gb110)); have n5_ := Aside0.mk ((by rw [hg]; exact Nat.ne_of_lt (blk_lt (g := gb108) (o := .cells #[.int .i64 a1_0, .int .i64 a1_1] 24 (0, 0)) (by (with_reducible repeat (first | refine blk_drewN ?_ _ | refine blk_drew ?_ | refine blk_alloc ?_ _)); exact BK108.out)) : gb108 ≠ gb110)); have n6_ := Aside0.mk ((by rw [hg]; exact Nat.ne_of_gt (blk_lt (g := gb108) (o := .cells #[.int .i64 a1_0, .int .i64 a1_1] 24 (0, 0)) (by (with_reducible repeat (first | refine blk_drewN ?_ _ | refine blk_drew ?_ | refine blk_alloc ?_ _)); exact BK108.out)) : gb110 ≠ gb108)); clear BK108; clear HB; have BK108 := n0_; have HB := n1_; have BK110 := n2_; have GW110 := n3_; have GE110 := n4_; have NB108_110 := n5_; have NB110_108 := n6_; clear n0_ n1_ n2_ n3_ n4_ n5_ n6_; clear hb hbox hg; have hnb26 := NB110_108.out; have hnc26 := NB108_110.out; have hcz27_0 : w25.cell? ⟨gb110, 0, none⟩ = some (.int .i64 0) := (blk_cell BK110.out 0).trans rfl; have hcz27_1 : w25.cell? ⟨gb110, 1, none⟩ = some (.int .i64 0) := (blk_cell BK110.out 1).trans rfl; have hcz27_2 : w25.cell? ⟨gb110, 2, none⟩ = some (.int .i64 0) := (blk_cell BK110.out 2).trans rfl; have hcz27_3 : w25.cell? ⟨gb110, 3, none⟩ = some (.int .i64 0) := (blk_cell BK110.out 3).trans rfl; have hcz27_4 : w25.cell? ⟨gb110, 4, none⟩ = some (.int .i64 0) := (blk_cell BK110.out 4).trans rfl; have hcz27_5 : w25.cell? ⟨gb110, 5, none⟩ = some (.slice none 0 0) := (blk_cell BK110.out 5).trans rfl; have hfz27_0 := blk_frozen BK110.out 0; have hfz27_1 := blk_frozen BK110.out 1; have hfz27_2 := blk_frozen BK110.out 2; have hfz27_3 := blk_frozen BK110.out 3; have hfz27_4 := blk_frozen BK110.out 4; have hfz27_5 := blk_frozen BK110.out 5; have hcz28_0 : w25.cell? ⟨gb108, 0, none⟩ = some (.int .i64 a1_0) := (blk_cell BK108.out 0).trans rfl; have hcz28_1 : w25.cell? ⟨gb108, 1, none⟩ = some (.int .i64 a1_1) := (blk_cell BK108.out 1).trans rfl; have hfz28_0 := blk_frozen BK108.out 0; have hfz28_1 := blk_frozen BK108.out 1))
                go_roundg k1
                case measure => have := HK1.out; omega
                case rel => exact ⟨(wrap64 (x13_1 + 1)), (by first | rfl | (simp; done) | (simp [*]; done)), H', ⟨by have := HK1.out; omega⟩, ⟨by (with_reducible repeat (first | refine blk_drewN ?_ _ | refine blk_drew ?_ | refine blk_alloc ?_ _)); refine blk_far ?_ NB108_110.out _; (with_reducible repeat (first | refine blk_drewN ?_ _ | refine blk_drew ?_ | refine blk_alloc ?_ _)); refine blk_far ?_ NB108_110.out _; (with_reducible repeat (first | refine blk_drewN ?_ _ | refine blk_drew ?_ | refine blk_alloc ?_ _)); refine blk_far ?_ NB108_110.out _; (with_reducible repeat (first | refine blk_drewN ?_ _ | refine blk_drew ?_ | refine blk_alloc ?_ _)); refine blk_far ?_ NB108_110.out _; (with_reducible repeat (first | refine blk_drewN ?_ _ | refine blk_drew ?_ | refine blk_alloc ?_ _)); refine blk_far ?_ NB108_110.out _; (with_reducible repeat (first | refine blk_drewN ?_ _ | refine blk_drew ?_ | refine blk_alloc ?_ _)); refine blk_far ?_ NB108_110.out _; (with_reducible repeat (first | refine blk_drewN ?_ _ | refine blk_drew ?_ | refine blk_alloc ?_ _)); exact BK108.out⟩, ⟨by repeat (first | (with_reducible first | exact HB.out | apply below_alloc | apply pw_below_drewN | apply below_drew1 | refine below_set ?_ GE108.out | refine below_set ?_ GE110.out) | exact HB.out)⟩⟩
            · rw [if_neg c10] at H
              exact absurd H (by simp)
          · rw [if_neg c9] at H
            exact absurd H (by simp)
        · rw [if_neg c8] at H
          have c8b0 : decide (x13_1 < (l0.length : Int)) = false := decide_eq_false c8
          clear c8
          simp only [Option.some.injEq, Prod.mk.injEq] at H
          obtain ⟨rfl, rfl⟩ := H
          go_wp2
          go_ret2
          exact ⟨by first | rfl | (simp [errW_none, errW_some] <;> rfl) | (simp [*, errW_none, errW_some] <;> rfl), by repeat (first | (with_reducible first | exact HB.out | apply below_alloc | apply pw_below_drewN | apply below_drew1 | refine below_set ?_ GE108.out) | exact HB.out)⟩

/-! ### view_Range: function 14 -/
mutual
def view_Range.j0 : Nat → List (S44) → Int → Int → List Int → Bool → Option ((List (S24)) × Int)
  | 0, _, _, _, _, _ => none
  | k + 1, x0, x1, x2, x8, x26 => if x26 = true then (some (([] : List (S24)), 1)) else (if 0 ≤ x1 then (if x1 ≤ x2 then (if x2 ≤ (x8.length : Int) then ((some ((x8.take (x2 : Int).toNat).drop (x1 : Int).toNat : List Int)).bind fun y121 => (view_Range.l0 k x0 ([] : List (S24)) y121 (y121.length : Int) 0)) else (none)) else (none)) else (none))
def view_Range.l0 : Nat → List (S44) → List (S24) → List Int → Int → Int → Option ((List (S24)) × Int)
  | 0, _, _, _, _, _ => none
  | k + 1, x0, x9, x30, x31, x32 => if x32 < x31 then (if 0 ≤ x32 then (if x32 < (x30.length : Int) then (if 0 ≤ (rd x30 x32) then (if (rd x30 x32) < (x0.length : Int) then (if x9.length < 8796093022208 then (view_Range.l0 k x0 (x9 ++ [(⟨(rd_T44 x0 (rd x30 x32)).f0.f0, (rd_T44 x0 (rd x30 x32)).f0.f1⟩ : S24)]) x30 x31 (wrap64 (x32 + 1))) else (none)) else (none)) else (none)) else (none)) else (none)) else (some (x9, 0))
end
def view_Range.f (k : Nat) (l0 : List (S44)) (a1 : Int) (a2 : Int) : Option ((List (S24)) × Int) := (view_Seen.f l0).bind fun t118 => (if a1 < 0 then (view_Range.j0 k l0 a1 a2 t118 true) else (if a1 > a2 then (view_Range.j0 k l0 a1 a2 t118 true) else (view_Range.j0 k l0 a1 a2 t118 (decide (a2 > (t118.length : Int))))))
theorem view_Range.mono_l : ∀ k, (∀ y0 y1 y2 y3 y4, LeO (view_Range.j0 k y0 y1 y2 y3 y4) (view_Range.j0 (k + 1) y0 y1 y2 y3 y4)) ∧ (∀ y0 y1 y2 y3 y4, LeO (view_Range.l0 k y0 y1 y2 y3 y4) (view_Range.l0 (k + 1) y0 y1 y2 y3 y4))
  | 0 => ⟨fun _ _ _ _ _ r h => by simp [view_Range.j0] at h, fun _ _ _ _ _ r h => by simp [view_Range.l0] at h⟩
  | k + 1 => by
    obtain ⟨ih0, ih1⟩ := view_Range.mono_l k
    refine ⟨?_, ?_⟩
    · intro y0 y1 y2 y3 y4
      unfold view_Range.j0
      repeat' first
      | (with_reducible exact ih0 _ _ _ _ _)
      | (with_reducible exact ih1 _ _ _ _ _)
      | (with_reducible exact LeO.refl _)
      | (with_reducible exact LeO.none _)
      | (with_reducible refine LeO.ite ?_ ?_)
      | (with_reducible refine LeO.bind ?_ (fun _ => ?_))
      | exact ih0 _ _ _ _ _
      | exact ih1 _ _ _ _ _
      | exact LeO.none _
      | refine LeO.ite ?_ ?_
      | refine LeO.bind ?_ (fun _ => ?_)
    · intro y0 y1 y2 y3 y4
      unfold view_Range.l0
      repeat' first
      | (with_reducible exact ih0 _ _ _ _ _)
      | (with_reducible exact ih1 _ _ _ _ _)
      | (with_reducible exact LeO.refl _)
      | (with_reducible exact LeO.none _)
      | (with_reducible refine LeO.ite ?_ ?_)
      | (with_reducible refine LeO.bind ?_ (fun _ => ?_))
      | exact ih0 _ _ _ _ _
      | exact ih1 _ _ _ _ _
      | exact LeO.none _
      | refine LeO.ite ?_ ?_
      | refine LeO.bind ?_ (fun _ => ?_)
theorem view_Range.mono : ∀ a0 a1 a2 k, LeO (view_Range.f k a0 a1 a2) (view_Range.f (k + 1) a0 a1 a2) := by
  intro a0 a1 a2 k
  obtain ⟨ih0, ih1⟩ := view_Range.mono_l k
  unfold view_Range.f
  repeat' first
      | (with_reducible exact ih0 _ _ _ _ _)
      | (with_reducible exact ih1 _ _ _ _ _)
      | (with_reducible exact LeO.refl _)
      | (with_reducible exact LeO.none _)
      | (with_reducible refine LeO.ite ?_ ?_)
      | (with_reducible refine LeO.bind ?_ (fun _ => ?_))
      | exact ih0 _ _ _ _ _
      | exact ih1 _ _ _ _ _
      | exact LeO.none _
      | refine LeO.ite ?_ ?_
      | refine LeO.bind ?_ (fun _ => ?_)
set_option maxHeartbeats 8000000 in
set_option maxRecDepth 100000 in
theorem view_Range.calls (k : Nat) (A0 : Option Addr) (c0 : Nat) (l0 : List (S44)) (a1 : Int) (a2 : Int) (r1 : List (S24)) (r2 : Int) (w : World) (hr0 : Kd.C k44 w A0 l0.length l0) (hc0 : l0.length ≤ c0) (h : view_Range.f k l0 a1 a2 = some (r1, r2)) :
    Calls Try.prog 14 #[.slice A0 l0.length c0, .int .i64 a1, .int .i64 a2] w fun e w' => ∃ v0_ : Value, e = .returned (.tuple #[v0_, .int .i64 r2]) ∧ Kd.R k24 24 w' w.heap.size (fun _ => True) v0_ r1 ∧ Below w.heap.size w w' := by
  have hu24 := Try.underlying24
  have HR0 := Aside0.mk hr0
  have HC0 := Aside0.mk hc0
  clear hr0 hc0
  have HB := Aside0.mk (Below.refl w.heap.size w)
  have H : ((view_Seen.f l0).bind fun t118 => (if a1 < 0 then (view_Range.j0 k l0 a1 a2 t118 true) else (if a1 > a2 then (view_Range.j0 k l0 a1 a2 t118 true) else (view_Range.j0 k l0 a1 a2 t118 (decide (a2 > (t118.length : Int))))))) = some (r1, r2) := h
  clear h
  replace H := Option.bind_eq_some_iff.mp H
  obtain ⟨t118, A40, H⟩ := H
  replace H : (if a1 < 0 then (view_Range.j0 k l0 a1 a2 t118 true) else (if a1 > a2 then (view_Range.j0 k l0 a1 a2 t118 true) else (view_Range.j0 k l0 a1 a2 t118 (decide (a2 > (t118.length : Int)))))) = some (r1, r2) := H
  have A4 := Aside0.mk A40
  clear A40
  have HC5 := Aside0.mk H
  clear H
  go_enter Try.func14, Try.ntmps14
  go_upto_region 2 with (first | ((with_reducible refine gate_callee (f := 17) rfl ?_); refine goesL_ (some 13) rfl rfl Try.func17 (by kernel_rfl) rfl #[.slice A0 l0.length c0] rfl (by (try simp only [List.map_toArray, List.map_cons, List.map_nil]); first | done | rfl | (simp only [List.length_drop, List.length_take]; rfl)) ?_; (with_reducible refine (view_Seen.calls _ _ l0 t118 _ ?side1 ?side2 A4.out).mono ?_); (case side1 => repeat (first | exact HR0.out | (with_reducible refine Kd.C_alloc ?_ _) | (with_reducible refine Kd.C_drewN ?_ _) | (with_reducible refine Kd.C_drew ?_))); (case side2 => exact HC0.out); rintro e w6 ⟨v119, rfl, ho0, hb⟩; refine ⟨_, rfl, ?_⟩; have n0_ := Aside0.mk (Kd.R_lower ho0 (below_size (by repeat (first | (with_reducible first | exact HB.out | apply below_alloc | apply pw_below_drewN | apply below_drew1) | exact HB.out)))); have n1_ := Aside0.mk (below_step (by repeat (first | (with_reducible first | exact HB.out | apply below_alloc | apply pw_below_drewN | apply below_drew1) | exact HB.out)) hb); clear HB; have HO120 := n0_; have HB := n1_; clear n0_ n1_; (try clear hb); (try clear hb2); (try clear hk); (try clear hi); (try clear ho0)))
  (try simp only [Act.put, List.setIfInBounds_toArray, List.set_cons_zero, List.set_cons_succ])
  go_cut [26] (fun v26 wc => ∃ (kq : Nat) (x26_4 : Bool), v26 = .bool x26_4 ∧ Aside0 (view_Range.j0 kq l0 a1 a2 t118 x26_4 = some (r1, r2)) ∧ Aside0 (kq ≤ k) ∧ Aside0 (Kd.R (Kd.int .i64) 3 wc w.heap.size (fun _ => True) v119 t118) ∧ Aside0 (Below w.heap.size w wc))
  case first =>
    have H := HC5.out
    clear HC5
    by_cases c7 : a1 < 0
    · rw [if_pos c7] at H
      have c7b0 : decide (a1 < 0) = true := decide_eq_true c7
      clear c7
      (first | rw [c7b0] | (simp only [i64_w, i32_w]; rw [c7b0]) | skip)
      have H' := Aside0.mk H
      clear H
      go_wp2
      go_meet
      case rel => exact ⟨_, (true), (by first | rfl | (simp; done) | (simp [*]; done)), H', ⟨by first | omega | exact Nat.le_refl _⟩, ⟨by (with_reducible repeat (first | apply Kd.R_alloc | apply Kd.R_drewN | apply Kd.R_drew)); exact HO120.out⟩, ⟨by repeat (first | (with_reducible first | exact HB.out | apply below_alloc | apply pw_below_drewN | apply below_drew1) | exact HB.out)⟩⟩
    · rw [if_neg c7] at H
      have c7b0 : decide (a1 < 0) = false := decide_eq_false c7
      clear c7
      (first | rw [c7b0] | (simp only [i64_w, i32_w]; rw [c7b0]) | skip)
      by_cases c8 : a1 > a2
      · rw [if_pos c8] at H
        have c8b0 : decide (a2 < a1) = true := decide_eq_true c8
        clear c8
        have H' := Aside0.mk H
        clear H
        go_wp2
        go_meet
        case rel => exact ⟨_, (true), (by first | rfl | (simp; done) | (simp [*]; done)), H', ⟨by first | omega | exact Nat.le_refl _⟩, ⟨by (with_reducible repeat (first | apply Kd.R_alloc | apply Kd.R_drewN | apply Kd.R_drew)); exact HO120.out⟩, ⟨by repeat (first | (with_reducible first | exact HB.out | apply below_alloc | apply pw_below_drewN | apply below_drew1) | exact HB.out)⟩⟩
      · rw [if_neg c8] at H
        have c8b0 : decide (a2 < a1) = false := decide_eq_false c8
        clear c8
        have H' := Aside0.mk H
        clear H
        obtain ⟨Ao9, co9, eo9⟩ := Kd.R_slice HO120.out
        subst eo9
        go_wp2
        go_meet
        case rel => exact ⟨_, (decide (a2 > (t118.length : Int))), (by first | rfl | (simp; done) | (simp [*]; done)), H', ⟨by first | omega | exact Nat.le_refl _⟩, ⟨by (with_reducible repeat (first | apply Kd.R_alloc | apply Kd.R_drewN | apply Kd.R_drew)); exact HO120.out⟩, ⟨by repeat (first | (with_reducible first | exact HB.out | apply below_alloc | apply pw_below_drewN | apply below_drew1) | exact HB.out)⟩⟩
  case rest =>
    clear HC5
    try clear c1
    try clear p2
    try clear c7
    try clear c7b0
    try clear c8
    try clear c8b0
    obtain ⟨kq, x26_4, rfl, HA, HJ4, HO_8, HB⟩ := hcut
    cases kq with
    | zero => exact absurd HA.out (by simp [view_Range.j0])
    | succ kj4 =>
      have H := HA.out
      clear HA
      simp only [view_Range.j0] at H
      by_cases c10 : x26_4 = true
      · subst c10
        have H1 : (some (([] : List (S24)), 1)) = some (r1, r2) := by rw [if_pos rfl] at H; exact H
        clear H
        have H := H1
        clear H1
        simp only [Option.some.injEq, Prod.mk.injEq] at H
        obtain ⟨rfl, rfl⟩ := H
        go_wp2
        go_ret2
        exact ⟨_, by first | rfl | (simp [errW_none, errW_some] <;> rfl) | (simp [*, errW_none, errW_some] <;> rfl), by first | exact Kd.R_nil _ _ _ _ _ | exact Kd.N_nil _ _ _ _ _ | exact Kd.V_nil _ _ _ _ _ | exact Kd.Q_nil _ _ _ _ _ | exact Kd.S_nil _ _ _ _ _, by repeat (first | (with_reducible first | exact HB.out | apply below_alloc | apply pw_below_drewN | apply below_drew1) | exact HB.out)⟩
      · replace c10 := Bool.eq_false_iff.mpr c10
        subst c10
        have H1 : (if 0 ≤ a1 then (if a1 ≤ a2 then (if a2 ≤ (t118.length : Int) then ((some ((t118.take (a2 : Int).toNat).drop (a1 : Int).toNat : List Int)).bind fun y121 => (view_Range.l0 kj4 l0 ([] : List (S24)) y121 (y121.length : Int) 0)) else (none)) else (none)) else (none)) = some (r1, r2) := by rw [if_neg (show ¬ (false = true) by decide)] at H; exact H
        clear H
        have H := H1
        clear H1
        by_cases c11 : 0 ≤ a1
        · rw [if_pos c11] at H
          have c11b0 := eq_true c11
          have c11b1 : decide (0 ≤ a1) = true := decide_eq_true c11
          clear c11
          by_cases c12 : a1 ≤ a2
          · rw [if_pos c12] at H
            have c12b0 := eq_true c12
            have c12b1 : decide (a1 ≤ a2) = true := decide_eq_true c12
            clear c12
            by_cases c13 : a2 ≤ (t118.length : Int)
            · rw [if_pos c13] at H
              have c13b0 := eq_true c13
              have c13b1 : decide (a2 ≤ (t118.length : Int)) = true := decide_eq_true c13
              clear c13
              obtain ⟨y121, hy121⟩ : ∃ y_ : List Int, y_ = ((t118.take (a2 : Int).toNat).drop (a1 : Int).toNat) := ⟨_, rfl⟩
              replace H : (view_Range.l0 kj4 l0 ([] : List (S24)) y121 (y121.length : Int) 0) = some (r1, r2) := by first | (rw [hy121]; with_reducible exact H) | (have H2_ := (Option.bind_some _ _).symm.trans H; rw [hy121]; with_reducible exact H2_) | (have H2_ := (Option.bind_some _ _).symm.trans H; with_reducible exact H2_) | with_reducible exact H | (rw [hy121]; exact H) | exact H
              have Ny121 := Aside0.mk hy121
              clear hy121
              have H' := Aside0.mk H
              clear H
              obtain ⟨Ao15, co15, eo15⟩ := Kd.R_slice HO_8.out
              subst eo15
              have q14 : (a2 : Int) ≤ ((t118.length : Int) : Int) := of_decide_eq_true (by first | (with_reducible assumption) | assumption)
              obtain ⟨i014, hi014, _, hsz14, _⟩ := info_parts info3
              have hroom14 : t118.length ≤ co15 := (Kd.R_reads' HO_8.out).2.1
              have hC14 : Kd.C (Kd.int .i64) _ Ao15 t118.length t118 := (Kd.R_reads' HO_8.out).2.2
              have ql14 : (a1 : Int) ≤ (a2 : Int) := of_decide_eq_true (by first | (with_reducible assumption) | assumption)
              have q014 : (0 : Int) ≤ (a1 : Int) := of_decide_eq_true (by first | (with_reducible assumption) | assumption)
              have hcut14 := cut_mid (P := Try.prog) 38 3 .i64 .i64 Try.underlying38 hi014 1 hsz14 Ao15 t118.length co15 a1 a2 q014 ql14 q14 hroom14
              have hr14 := Kd.C_mid (lo := (a1 : Int).toNat) (hi := (a2 : Int).toNat) (c := co15) hC14 (by omega) (by omega) hroom14
              obtain ⟨A14, hA14⟩ : ∃ A1, A1 = (if co15 = (a1 : Int).toNat then Ao15 else (Ao15 : Option Addr).map (·.add ((a1 : Int).toNat * 1))) := ⟨_, rfl⟩
              obtain ⟨c14, hc14⟩ : ∃ c1, c1 = co15 - (a1 : Int).toNat := ⟨_, rfl⟩
              have hy14 : y121.length = (a2 : Int).toNat - (a1 : Int).toNat := (by rw [Ny121.out, List.length_drop, List.length_take] <;> omega)
              rw [show ((t118).take (a2 : Int).toNat).drop (a1 : Int).toNat = y121 from Ny121.out.symm] at hr14
              replace hr14 : Kd.C (Kd.int .i64) _ A14 y121.length y121 := (by rw [hA14]; exact hr14)
              rw [← hy14, ← hA14, ← hc14] at hcut14
              have HR124 := Aside0.mk hr14
              have HC124 := Aside0.mk (show y121.length ≤ c14 from by rw [hy14, hc14]; exact Nat.sub_le_sub_right (Nat.le_trans (by omega) hroom14) _)
              clear hr14 hC14 hroom14 hi014 hsz14 hc14
              have KY14 := Aside0.mk hy14
              have KA14 := Aside0.mk hA14
              clear hy14 hA14
              have KL14 := Aside0.mk (show (a2 : Int).toNat ≤ t118.length from by omega)
              have KM14 := Aside0.mk (show (a1 : Int).toNat ≤ (a2 : Int).toNat from by omega)
              replace q14 := eq_true q14
              have HBw := HB
              clear HB
              have HR0w := Aside0.mk (Kd.C_below HR0.out HBw.out)
              clear HR0
              have HR0 := HR0w
              have HB := Aside0.mk (Below.refl wc.heap.size wc)
              go_wp2
              go_loopg [9, 32] kj4 (fun kq v9 v32 w' => ∃ (x9_2 : List (S24)) (x32_2 : Int), v32 = .int .i64 x32_2 ∧ Aside0 (view_Range.l0 kq l0 x9_2 y121 (y121.length : Int) x32_2 = some (r1, r2)) ∧ Aside0 (kq ≤ kj4) ∧ Aside0 (Kd.R k24 24 w' wc.heap.size (fun _ => True) v9 x9_2) ∧ Aside0 (Below wc.heap.size wc w'))
              case atStart => exact ⟨(([] : List (S24))), (0), (by first | rfl | (simp; done) | (simp [*]; done)), H', ⟨Nat.le_refl _⟩, ⟨by first | exact Kd.R_nil _ _ _ _ _ | exact Kd.N_nil _ _ _ _ _ | exact Kd.V_nil _ _ _ _ _ | exact Kd.Q_nil _ _ _ _ _ | exact Kd.S_nil _ _ _ _ _⟩, ⟨by repeat (first | (with_reducible first | exact HB.out | apply below_alloc | apply pw_below_drewN | apply below_drew1) | exact HB.out)⟩⟩
              case round =>
                clear H'
                try clear c1
                try clear q1
                                try clear c7
                try clear c7b0
                try clear c8
                try clear c8b0
                try clear c10
                try clear c11
                try clear c11b0
                try clear c11b1
                try clear c12
                try clear c12b0
                try clear c12b1
                try clear c13
                try clear c13b0
                try clear c13b1
                try clear c14
                try clear q14
                                try clear q014
                try clear q14
                obtain ⟨x9_2, x32_2, rfl, HA, HK2, HO_9, HB⟩ := hrel
                cases gk with
                | zero => exact absurd HA.out (by simp [view_Range.l0])
                | succ k2 =>
                  have H := HA.out
                  clear HA
                  simp only [view_Range.l0] at H
                  by_cases c16 : x32_2 < (y121.length : Int)
                  · rw [if_pos c16] at H
                    have c16b0 : decide (x32_2 < (y121.length : Int)) = true := decide_eq_true c16
                    clear c16
                    by_cases c17 : 0 ≤ x32_2
                    · rw [if_pos c17] at H
                      have c17b0 : decide (0 ≤ x32_2) = true := decide_eq_true c17
                      clear c17
                      by_cases c18 : x32_2 < (y121.length : Int)
                      · rw [if_pos c18] at H
                        have c18b0 : decide (x32_2 < (y121.length : Int)) = true := decide_eq_true c18
                        clear c18
                        by_cases c19 : 0 ≤ (rd y121 x32_2)
                        · rw [if_pos c19] at H
                          have c19b0 : decide (0 ≤ (rd y121 x32_2)) = true := decide_eq_true c19
                          clear c19
                          by_cases c20 : (rd y121 x32_2) < (l0.length : Int)
                          · rw [if_pos c20] at H
                            have c20b0 : decide ((rd y121 x32_2) < (l0.length : Int)) = true := decide_eq_true c20
                            clear c20
                            by_cases c21 : x9_2.length < 8796093022208
                            · rw [if_pos c21] at H
                              have LMc21 := Aside0.mk c21
                              clear c21
                              obtain ⟨y127, hy127⟩ : ∃ y_ : List (S24), y_ = (x9_2 ++ [(⟨(rd_T44 l0 (rd y121 x32_2)).f0.f0, (rd_T44 l0 (rd y121 x32_2)).f0.f1⟩ : S24)]) := ⟨_, rfl⟩
                              replace H : (view_Range.l0 k2 l0 y127 y121 (y121.length : Int) (wrap64 (x32_2 + 1))) = some (r1, r2) := by first | (rw [hy127]; with_reducible exact H) | (have H2_ := (Option.bind_some _ _).symm.trans H; rw [hy127]; with_reducible exact H2_) | (have H2_ := (Option.bind_some _ _).symm.trans H; with_reducible exact H2_) | with_reducible exact H | (rw [hy127]; exact H) | exact H
                              have Ny127 := Aside0.mk hy127
                              clear hy127
                              have H' := Aside0.mk H
                              clear H
                              have p125 : 0 ≤ (x32_2 : Int) := of_decide_eq_true (by first | (with_reducible assumption) | assumption)
                              have q125 : x32_2 < (y121.length : Int) := of_decide_eq_true (by first | (with_reducible assumption) | assumption)
                              obtain ⟨ad125, e125, hx125_0⟩ := Kd.at_int HR124.out x32_2 p125 q125
                              cases e125
                              replace hx125_0 := (HB.out.cell (World.block_lt_of_cell? wc _ hx125_0)).trans hx125_0
                              replace p125 := eq_true p125
                              replace q125 := eq_true q125
                              have p126 : 0 ≤ ((rd y121 x32_2) : Int) := of_decide_eq_true (by first | (with_reducible assumption) | assumption)
                              have q126 : (rd y121 x32_2) < (l0.length : Int) := of_decide_eq_true (by first | (with_reducible assumption) | assumption)
                              obtain ⟨ad126, A126_5, c126_5, e126, hx126_0, hx126_1, hx126_2, hx126_3, hx126_4, hx126_5, hl126_5, hi126_5⟩ := at_T44 HR0.out (rd y121 x32_2) p126 q126
                              cases e126
                              (try replace hx126_0 := (HB.out.cell (World.block_lt_of_cell? wc _ hx126_0)).trans hx126_0)
                              (try replace hx126_1 := (HB.out.cell (World.block_lt_of_cell? wc _ hx126_1)).trans hx126_1)
                              (try replace hx126_2 := (HB.out.cell (World.block_lt_of_cell? wc _ hx126_2)).trans hx126_2)
                              (try replace hx126_3 := (HB.out.cell (World.block_lt_of_cell? wc _ hx126_3)).trans hx126_3)
                              (try replace hx126_4 := (HB.out.cell (World.block_lt_of_cell? wc _ hx126_4)).trans hx126_4)
                              (try replace hx126_5 := (HB.out.cell (World.block_lt_of_cell? wc _ hx126_5)).trans hx126_5)
                              have HR126_5 := Aside0.mk hi126_5
                              have HC126_5 := Aside0.mk hl126_5
                              clear hi126_5 hl126_5
                              replace p126 := eq_true p126
                              replace q126 := eq_true q126
                              go_wp2_with (first | ((with_reducible refine gate_builtin (b := .append) (xs := #[.tmp 36, .tmp 42]) rfl ?_); (try (refine gate_guard (by rfl) ?_; dsimp only)); at_builtin; refine Kd.R_append k24 (w0 := wc) wc.heap.size rfl (.tmp 36) (.tmp 42) 34 24 (.agg #[(.int .i64 0), (.int .i64 0)]) 16 rfl Try.underlying34 info24 rfl (by decide) (by omega) u9 x9_2 (⟨(rd_T44 l0 (rd y121 x32_2)).f0.f0, (rd_T44 l0 (rd y121 x32_2)).f0.f1⟩ : S24) [.int .i64 ((rd_T44 l0 (rd y121 x32_2)).f0.f0), .int .i64 ((rd_T44 l0 (rd y121 x32_2)).f0.f1)] (fun _ => True) (fun _ => False) rfl rfl ?aP (fun _ hk => hk.elim) ?aF ?aO ?aB ?aS ?aL ?_; (case aP => exact k24_mkM _ _ _ (⟨(rd_T44 l0 (rd y121 x32_2)).f0.f0, (rd_T44 l0 (rd y121 x32_2)).f0.f1⟩ : S24)); (case aB => exact (by repeat (first | (with_reducible first | exact HB.out | apply below_alloc | apply pw_below_drewN | apply below_drew1) | exact HB.out))); (case aF => exact (fun _ _ => trivial)); (case aO => exact (by (with_reducible repeat (first | apply Kd.R_alloc | apply Kd.R_drewN | apply Kd.R_drew)); exact HO_9.out)); (case aS => exact (below_size (by repeat (first | (with_reducible first | exact HB.out | apply below_alloc | apply pw_below_drewN | apply below_drew1) | exact HB.out)))); (case aL => have := LMc21.out; omega); intro v128 w22 ho hb hg hat; rw [← Ny127.out] at ho; have n0_ := Aside0.mk (hb); have n1_ := Aside0.mk (ho); clear HB; clear HO_9; have HB := n0_; have HO129 := n1_; clear n0_ n1_; clear ho hb hg hat))
                              go_roundg k2
                              case measure => have := HJ4.out; have := HK2.out; omega
                              case rel => exact ⟨(y127), (wrap64 (x32_2 + 1)), (by first | rfl | (simp; done) | (simp [*]; done)), H', ⟨by have := HJ4.out; have := HK2.out; omega⟩, ⟨by (with_reducible repeat (first | apply Kd.R_alloc | apply Kd.R_drewN | apply Kd.R_drew)); exact HO129.out⟩, ⟨by repeat (first | (with_reducible first | exact HB.out | apply below_alloc | apply pw_below_drewN | apply below_drew1) | exact HB.out)⟩⟩
                            · rw [if_neg c21] at H
                              exact absurd H (by simp)
                          · rw [if_neg c20] at H
                            exact absurd H (by simp)
                        · rw [if_neg c19] at H
                          exact absurd H (by simp)
                      · rw [if_neg c18] at H
                        exact absurd H (by simp)
                    · rw [if_neg c17] at H
                      exact absurd H (by simp)
                  · rw [if_neg c16] at H
                    have c16b0 : decide (x32_2 < (y121.length : Int)) = false := decide_eq_false c16
                    clear c16
                    simp only [Option.some.injEq, Prod.mk.injEq] at H
                    obtain ⟨rfl, rfl⟩ := H
                    go_wp2
                    go_ret2
                    exact ⟨_, rfl, Kd.R_lower (by (with_reducible repeat (first | apply Kd.R_alloc | apply Kd.R_drewN | apply Kd.R_drew)); exact HO_9.out) (below_size HBw.out), below_step HBw.out (by repeat (first | (with_reducible first | exact HB.out | apply below_alloc | apply pw_below_drewN | apply below_drew1) | exact HB.out))⟩
            · rw [if_neg c13] at H
              exact absurd H (by simp)
          · rw [if_neg c12] at H
            exact absurd H (by simp)
        · rw [if_neg c11] at H
          exact absurd H (by simp)

end Go.Proofs.Ytpclgafcldmchaa.P

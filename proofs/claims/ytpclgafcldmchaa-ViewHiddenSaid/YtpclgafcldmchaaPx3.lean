-- Written by a program of this session (wip/tools/pp.py) out of the translation. Not trusted: Lean checks it.
import Derived.Test.YtpclgafcldmchaaPx0
import Derived.Test.YtpclgafcldmchaaPx1
import Derived.Test.YtpclgafcldmchaaPx2
import Derived.Test.YtpclgafcldmchaaGiv
namespace Go.Proofs.Ytpclgafcldmchaa.P
open Go.RowKit Go.Proofs.YtpclgafcldmchaaW.PrintWords Go.Proofs.YtpclgafcldmchaaW.PrintLast Go.Proofs.YtpclgafcldmchaaW.PrintMore
open Go.Proofs.Ytpclgafcldmchaa.Giv
attribute [local go_sem] max2_int min2_int max_two min_two max_three min_three max_four min_four   -- for this text's walks alone
set_option linter.unusedVariables false
set_option linter.unusedSimpArgs false

attribute [local go_sem high] eqA24
/-! ### duetref01_Same: function 16 -/
def duetref01_Same.l0 : Nat → List Int → List Int → Int → Option (Bool)
  | 0, _, _, _ => none
  | k + 1, x0, x1, x5 => if x5 < (x0.length : Int) then (if 0 ≤ x5 then (if x5 < (x1.length : Int) then (if (rd x0 x5) = (rd x1 x5) then (duetref01_Same.l0 k x0 x1 (wrap64 (x5 + 1))) else (some false)) else (none)) else (none)) else (some true)
def duetref01_Same.f (k : Nat) (l0 : List Int) (l1 : List Int) : Option (Bool) := if (l0.length : Int) = (l1.length : Int) then (duetref01_Same.l0 k l0 l1 0) else (some false)
theorem duetref01_Same.mono_l : ∀ k, (∀ y0 y1 y2, LeO (duetref01_Same.l0 k y0 y1 y2) (duetref01_Same.l0 (k + 1) y0 y1 y2))
  | 0 => fun _ _ _ r h => by simp [duetref01_Same.l0] at h
  | k + 1 => by
    have ih0 := duetref01_Same.mono_l k
    · intro y0 y1 y2
      unfold duetref01_Same.l0
      repeat' first
      | (with_reducible exact ih0 _ _ _)
      | (with_reducible exact LeO.refl _)
      | (with_reducible exact LeO.none _)
      | (with_reducible refine LeO.ite ?_ ?_)
      | (with_reducible refine LeO.bind ?_ (fun _ => ?_))
      | exact ih0 _ _ _
      | exact LeO.none _
      | refine LeO.ite ?_ ?_
      | refine LeO.bind ?_ (fun _ => ?_)
theorem duetref01_Same.mono : ∀ a0 a1 k, LeO (duetref01_Same.f k a0 a1) (duetref01_Same.f (k + 1) a0 a1) := by
  intro a0 a1 k
  have ih0 := duetref01_Same.mono_l k
  unfold duetref01_Same.f
  repeat' first
      | (with_reducible exact ih0 _ _ _)
      | (with_reducible exact LeO.refl _)
      | (with_reducible exact LeO.none _)
      | (with_reducible refine LeO.ite ?_ ?_)
      | (with_reducible refine LeO.bind ?_ (fun _ => ?_))
      | exact ih0 _ _ _
      | exact LeO.none _
      | refine LeO.ite ?_ ?_
      | refine LeO.bind ?_ (fun _ => ?_)
set_option maxHeartbeats 8000000 in
set_option maxRecDepth 100000 in
theorem duetref01_Same.calls (k : Nat) (A0 : Option Addr) (c0 : Nat) (l0 : List Int) (A1 : Option Addr) (c1 : Nat) (l1 : List Int) (r : Bool) (w : World) (hr0 : Kd.C (Kd.int .i64) w A0 l0.length l0) (hc0 : l0.length ≤ c0) (hr1 : Kd.C (Kd.int .i64) w A1 l1.length l1) (hc1 : l1.length ≤ c1) (h : duetref01_Same.f k l0 l1 = some r) :
    Calls Try.prog 16 #[.slice A0 l0.length c0, .slice A1 l1.length c1] w fun e w' => e = .returned (.bool r) ∧ Drawn0 w w' := by
  have HR0 := Aside0.mk hr0
  have HC0 := Aside0.mk hc0
  clear hr0 hc0
  have HR1 := Aside0.mk hr1
  have HC1 := Aside0.mk hc1
  clear hr1 hc1
  have H : (if (l0.length : Int) = (l1.length : Int) then (duetref01_Same.l0 k l0 l1 0) else (some false)) = some r := h
  clear h
  by_cases c3 : (l0.length : Int) = (l1.length : Int)
  · rw [if_pos c3] at H
    have c3b0 : ((l0.length : Int) == (l1.length : Int)) = true := beq_iff_eq.mpr c3
    have c3b1 : ((l0.length : Int) != (l1.length : Int)) = false := bne_eq_false_iff_eq.mpr c3
    have c3b2 : (l0.length == l1.length) = true := by first | simpa using c3 | (simp at c3 ⊢; omega)
    clear c3
    have H' := Aside0.mk H
    clear H
    go_enter Try.func16, Try.ntmps16
    go_wp2
    repeat (go_quiet (fail); try go_wp2)
    go_loopg [5] k (fun kq v5 w' => ∃ (x5_1 : Int), v5 = .int .i64 x5_1 ∧ Aside0 (duetref01_Same.l0 kq l0 l1 x5_1 = some r) ∧ Aside0 (kq ≤ k) ∧ Drawn0 w w')
    case atStart => exact ⟨(0), (by first | rfl | (simp; done) | (simp [*]; done)), H', ⟨Nat.le_refl _⟩, by repeat (first | exact Drawn0.refl _ | apply Drawn0.step)⟩
    case round =>
      clear H'
      try clear c1
      try clear p2
      try clear c3
      try clear c3b0
      try clear c3b1
      try clear c3b2
      obtain ⟨x5_1, rfl, HA, HK1, ⟨m1, rfl⟩⟩ := hrel
      cases gk with
      | zero => exact absurd HA.out (by simp [duetref01_Same.l0])
      | succ k1 =>
        have H := HA.out
        clear HA
        simp only [duetref01_Same.l0] at H
        by_cases c4 : x5_1 < (l0.length : Int)
        · rw [if_pos c4] at H
          have c4b0 : decide (x5_1 < (l0.length : Int)) = true := decide_eq_true c4
          clear c4
          by_cases c5 : 0 ≤ x5_1
          · rw [if_pos c5] at H
            have c5b0 : decide (0 ≤ x5_1) = true := decide_eq_true c5
            clear c5
            by_cases c6 : x5_1 < (l1.length : Int)
            · rw [if_pos c6] at H
              have c6b0 : decide (x5_1 < (l1.length : Int)) = true := decide_eq_true c6
              clear c6
              by_cases c7 : (rd l0 x5_1) = (rd l1 x5_1)
              · rw [if_pos c7] at H
                have c7b0 : ((rd l0 x5_1) == (rd l1 x5_1)) = true := beq_iff_eq.mpr c7
                have c7b1 : ((rd l0 x5_1) != (rd l1 x5_1)) = false := bne_eq_false_iff_eq.mpr c7
                clear c7
                have H' := Aside0.mk H
                clear H
                have p130 : 0 ≤ (x5_1 : Int) := of_decide_eq_true (by first | (with_reducible assumption) | assumption)
                have q130 : x5_1 < (l0.length : Int) := of_decide_eq_true (by first | (with_reducible assumption) | assumption)
                obtain ⟨ad130, e130, hx130_0⟩ := Kd.at_int HR0.out x5_1 p130 q130
                cases e130
                replace p130 := eq_true p130
                replace q130 := eq_true q130
                have p131 : 0 ≤ (x5_1 : Int) := of_decide_eq_true (by first | (with_reducible assumption) | assumption)
                have q131 : x5_1 < (l1.length : Int) := of_decide_eq_true (by first | (with_reducible assumption) | assumption)
                obtain ⟨ad131, e131, hx131_0⟩ := Kd.at_int HR1.out x5_1 p131 q131
                cases e131
                replace p131 := eq_true p131
                replace q131 := eq_true q131
                go_wp2
                repeat (go_quiet (fail); try go_wp2)
                go_roundg k1
                case measure => have := HK1.out; omega
                case rel => exact ⟨(wrap64 (x5_1 + 1)), (by first | rfl | (simp; done) | (simp [*]; done)), H', ⟨by have := HK1.out; omega⟩, by repeat (first | exact Drawn0.refl _ | apply Drawn0.step)⟩
              · rw [if_neg c7] at H
                have c7b0 : ((rd l0 x5_1) == (rd l1 x5_1)) = false := beq_eq_false_iff_ne.mpr c7
                have c7b1 : ((rd l0 x5_1) != (rd l1 x5_1)) = true := bne_iff_ne.mpr c7
                obtain rfl := Option.some.inj H
                have p130 : 0 ≤ (x5_1 : Int) := of_decide_eq_true (by first | (with_reducible assumption) | assumption)
                have q130 : x5_1 < (l0.length : Int) := of_decide_eq_true (by first | (with_reducible assumption) | assumption)
                obtain ⟨ad130, e130, hx130_0⟩ := Kd.at_int HR0.out x5_1 p130 q130
                cases e130
                replace p130 := eq_true p130
                replace q130 := eq_true q130
                have p131 : 0 ≤ (x5_1 : Int) := of_decide_eq_true (by first | (with_reducible assumption) | assumption)
                have q131 : x5_1 < (l1.length : Int) := of_decide_eq_true (by first | (with_reducible assumption) | assumption)
                obtain ⟨ad131, e131, hx131_0⟩ := Kd.at_int HR1.out x5_1 p131 q131
                cases e131
                replace p131 := eq_true p131
                replace q131 := eq_true q131
                go_wp2
                repeat (go_quiet (fail); try go_wp2)
                go_ret
                exact ⟨by first | rfl | (simp; done) | (simp [*]; done), by repeat (first | exact Drawn0.refl _ | apply Drawn0.step)⟩
            · rw [if_neg c6] at H
              exact absurd H (by simp)
          · rw [if_neg c5] at H
            exact absurd H (by simp)
        · rw [if_neg c4] at H
          have c4b0 : decide (x5_1 < (l0.length : Int)) = false := decide_eq_false c4
          clear c4
          obtain rfl := Option.some.inj H
          go_wp2
          repeat (go_quiet (fail); try go_wp2)
          go_ret
          exact ⟨by first | rfl | (simp; done) | (simp [*]; done), by repeat (first | exact Drawn0.refl _ | apply Drawn0.step)⟩
  · rw [if_neg c3] at H
    have c3b0 : ((l0.length : Int) == (l1.length : Int)) = false := beq_eq_false_iff_ne.mpr c3
    have c3b1 : ((l0.length : Int) != (l1.length : Int)) = true := bne_iff_ne.mpr c3
    have c3b2 : (l0.length == l1.length) = false := by first | simpa using c3 | (simp at c3 ⊢; omega)
    obtain rfl := Option.some.inj H
    go_enter Try.func16, Try.ntmps16
    go_wp2
    repeat (go_quiet (fail); try go_wp2)
    go_ret
    exact ⟨by first | rfl | (simp; done) | (simp [*]; done), by repeat (first | exact Drawn0.refl _ | apply Drawn0.step)⟩

-- GIVEN: function 19 (view_Text): its contract lies in a text of its own

/-! ### duetlaw12_one: function 23 -/
def duetlaw12_one.f (a0 : Int) (a1 : Int) (l2 : List Int) : Option (Int × Int × Int × Int × Int × List Int) := some (a0, 0, 0, 0, a1, l2)
set_option maxHeartbeats 8000000 in
set_option maxRecDepth 100000 in
theorem duetlaw12_one.calls (a0 : Int) (a1 : Int) (P2_ : Nat → Prop) (u9000_ : Value) (l2 : List Int) (r1 : Int) (r2 : Int) (r3 : Int) (r4 : Int) (r5 : Int) (r6 : List Int) (w0 w : World) (hB : Below w0.heap.size w0 w) (ho2 : Kd.R (Kd.int .i64) 3 w w0.heap.size P2_ u9000_ l2) (h : duetlaw12_one.f a0 a1 l2 = some (r1, r2, r3, r4, r5, r6)) :
    Calls Try.prog 23 #[.int .i64 a0, .int .i64 a1, u9000_] w fun e w' => ∃ v5_ : Value, e = .returned (.agg #[.int .i64 r1, .int .i64 r2, .int .i64 r3, .int .i64 r4, .int .i64 r5, v5_]) ∧ Kd.R (Kd.int .i64) 3 w' w0.heap.size (fun k_ => (P2_ k_ ∨ w.heap.size ≤ k_)) v5_ r6 ∧ Below w0.heap.size w0 w' ∧ Kept w w' (fun k_ => P2_ k_) := by
  have hu44 := Try.underlying44
  have hu24 := Try.underlying24
  have HO2 := Aside0.mk (show Kd.R (Kd.int .i64) 3 w w0.heap.size (fun k_ => (P2_ k_ ∨ w.heap.size ≤ k_)) u9000_ l2 from Kd.R_mono ho2 (fun k_ hk => (.inl hk)))
  have HK := Aside0.mk (Kept.refl w (fun k_ => P2_ k_))
  have HW0 := Aside0.mk hB.size
  have HB := Aside0.mk hB
  clear hB
  have H : (some (a0, 0, 0, 0, a1, l2)) = some (r1, r2, r3, r4, r5, r6) := h
  clear h
  simp only [Option.some.injEq, Prod.mk.injEq] at H
  obtain ⟨rfl, rfl, rfl, rfl, rfl, rfl⟩ := H
  go_enter Try.func23, Try.ntmps23
  go_wp2_with (first | ((with_reducible refine gate_dst (N := 6) rfl ?_); refine box_event ?hg (N := 6) ?hd (cs := #[.int .i64 0, .int .i64 0, .int .i64 0, .int .i64 0, .int .i64 0, .slice none 0 0]) (t := 44) ?hr ?_; (case hd => rfl); (case hg => rfl); (case hr => first | (go_simp; done) | (go_simp; rfl)); intro gb132 hg w4 hbox hb; have n0_ := Aside0.mk (Kd.R_below (by (with_reducible repeat (first | apply Kd.R_alloc | apply Kd.R_drewN | apply Kd.R_drew)); exact HO2.out) hb); have n1_ := Aside0.mk (Kept.below (S := (fun k_ => P2_ k_)) (by repeat (first | (with_reducible first | exact HK.out | apply Kept.alloc | apply Kept.drewN | apply Kept.drew) | exact HK.out)) hb); have n2_ := Aside0.mk (below_step (by repeat (first | (with_reducible first | exact HB.out | apply below_alloc | apply pw_below_drewN | apply below_drew1) | exact HB.out)) hb); have n3_ := Aside0.mk (hbox); have n4_ := Aside0.mk ((by rw [hg]; exact (by first | exact HK.out.1 | exact (show Kept w _ (fun k_ => P2_ k_) from by repeat (first | (with_reducible first | exact HK.out | apply Kept.alloc | apply Kept.drewN | apply Kept.drew) | exact HK.out)).1) : w.heap.size ≤ gb132)); have n5_ := Aside0.mk ((by rw [hg]; exact (below_size (by repeat (first | (with_reducible first | exact HB.out | apply below_alloc | apply pw_below_drewN | apply below_drew1) | exact HB.out))) : w0.heap.size ≤ gb132)); clear HO2; clear HK; clear HB; have HO2 := n0_; have HK := n1_; have HB := n2_; have BK132 := n3_; have GW132 := n4_; have GE132 := n5_; clear n0_ n1_ n2_ n3_ n4_ n5_; clear hb hbox hg; obtain ⟨Ao5, co5, eo5⟩ := Kd.R_slice HO2.out; subst eo5; have hcz6_0 : w4.cell? ⟨gb132, 0, none⟩ = some (.int .i64 0) := (blk_cell BK132.out 0).trans rfl; have hcz6_1 : w4.cell? ⟨gb132, 1, none⟩ = some (.int .i64 0) := (blk_cell BK132.out 1).trans rfl; have hcz6_2 : w4.cell? ⟨gb132, 2, none⟩ = some (.int .i64 0) := (blk_cell BK132.out 2).trans rfl; have hcz6_3 : w4.cell? ⟨gb132, 3, none⟩ = some (.int .i64 0) := (blk_cell BK132.out 3).trans rfl; have hcz6_4 : w4.cell? ⟨gb132, 4, none⟩ = some (.int .i64 0) := (blk_cell BK132.out 4).trans rfl; have hcz6_5 : w4.cell? ⟨gb132, 5, none⟩ = some (.slice none 0 0) := (blk_cell BK132.out 5).trans rfl; have hfz6_0 := blk_frozen BK132.out 0; have hfz6_1 := blk_frozen BK132.out 1; have hfz6_2 := blk_frozen BK132.out 2; have hfz6_3 := blk_frozen BK132.out 3; have hfz6_4 := blk_frozen BK132.out 4; have hfz6_5 := blk_frozen BK132.out 5))
  refine bodyPost_ret (results_cell_row rfl _ _ gb132 44 #[.int .i64 a0, .int .i64 0, .int .i64 0, .int .i64 0, .int .i64 a1, .slice Ao5 l2.length co5] (0, 0) _ rfl (by (with_reducible repeat (first | refine blk_drewN ?_ _ | refine blk_drew ?_ | refine blk_alloc ?_ _)); refine blk_put (cs := #[.int .i64 a0, .int .i64 0, .int .i64 0, .int .i64 0, .int .i64 a1, .slice none 0 0]) ?_ 5 _ rfl; (with_reducible repeat (first | refine blk_drewN ?_ _ | refine blk_drew ?_ | refine blk_alloc ?_ _)); refine blk_put (cs := #[.int .i64 a0, .int .i64 0, .int .i64 0, .int .i64 0, .int .i64 0, .slice none 0 0]) ?_ 4 _ rfl; (with_reducible repeat (first | refine blk_drewN ?_ _ | refine blk_drew ?_ | refine blk_alloc ?_ _)); refine blk_put (cs := #[.int .i64 a0, .int .i64 0, .int .i64 0, .int .i64 0, .int .i64 0, .slice none 0 0]) ?_ 3 _ rfl; (with_reducible repeat (first | refine blk_drewN ?_ _ | refine blk_drew ?_ | refine blk_alloc ?_ _)); refine blk_put (cs := #[.int .i64 a0, .int .i64 0, .int .i64 0, .int .i64 0, .int .i64 0, .slice none 0 0]) ?_ 2 _ rfl; (with_reducible repeat (first | refine blk_drewN ?_ _ | refine blk_drew ?_ | refine blk_alloc ?_ _)); refine blk_put (cs := #[.int .i64 a0, .int .i64 0, .int .i64 0, .int .i64 0, .int .i64 0, .slice none 0 0]) ?_ 1 _ rfl; (with_reducible repeat (first | refine blk_drewN ?_ _ | refine blk_drew ?_ | refine blk_alloc ?_ _)); refine blk_put (cs := #[.int .i64 0, .int .i64 0, .int .i64 0, .int .i64 0, .int .i64 0, .slice none 0 0]) ?_ 0 _ rfl; (with_reducible repeat (first | refine blk_drewN ?_ _ | refine blk_drew ?_ | refine blk_alloc ?_ _)); exact BK132.out) Try.underlying44 rfl (by kernel_rfl)) rfl ?_
  exact ⟨_, by first | rfl | (simp [errW_none, errW_some] <;> rfl) | (simp [*, errW_none, errW_some] <;> rfl), by (with_reducible repeat (first | apply Kd.R_alloc | apply Kd.R_drewN | apply Kd.R_drew)); exact Kd.R_mono (Kd.R_far (p := ⟨gb132, 5, none⟩) (Kd.R_far (p := ⟨gb132, 4, none⟩) (Kd.R_far (p := ⟨gb132, 3, none⟩) (Kd.R_far (p := ⟨gb132, 2, none⟩) (Kd.R_far (p := ⟨gb132, 1, none⟩) (Kd.R_far (p := ⟨gb132, 0, none⟩) (Kd.R_types HO2.out BK132.out (by decide)) (fun _ hk => hk.2) (.int .i64 a0)) (fun _ hk => hk.2) (.int .i64 0)) (fun _ hk => hk.2) (.int .i64 0)) (fun _ hk => hk.2) (.int .i64 0)) (fun _ hk => hk.2) (.int .i64 a1)) (fun _ hk => hk.2) (.slice Ao5 l2.length co5)) (fun _ hk => hk.1), by repeat (first | (with_reducible first | exact HB.out | apply below_alloc | apply pw_below_drewN | apply below_drew1 | refine below_set ?_ GE132.out) | exact HB.out), by repeat (first | (with_reducible first | exact HK.out | apply Kept.alloc | apply Kept.drewN | apply Kept.drew | refine Kept.setCell ?_ (.inr GW132.out) _) | exact HK.out)⟩

/-! ### duetlaw12_live: function 9 -/
def duetlaw12_live.f (k : Nat)  : Option (Bool) := (duetlaw12_one.f 1 97 ([] : List Int)).bind fun bt133 => ((duetlaw12_one.f 2 98 (([0] : List Int))).bind fun bt144 => ((duetlaw12_one.f 3 8364 ([] : List Int)).bind fun bt152 => ((some (([(⟨(⟨bt133.1, bt133.2.1⟩ : S24), (⟨bt133.2.2.1, bt133.2.2.2.1⟩ : S24), bt133.2.2.2.2.1, bt133.2.2.2.2.2⟩ : S44), (⟨(⟨bt144.1, bt144.2.1⟩ : S24), (⟨bt144.2.2.1, bt144.2.2.2.1⟩ : S24), bt144.2.2.2.2.1, bt144.2.2.2.2.2⟩ : S44), (⟨(⟨bt152.1, bt152.2.1⟩ : S24), (⟨bt152.2.2.1, bt152.2.2.2.1⟩ : S24), bt152.2.2.2.2.1, bt152.2.2.2.2.2⟩ : S44)] : List (S44)) : List (S44))).bind fun y160 => ((view_Ref.f k y160 2).bind fun bt163 => ((view_Ref.f k y160 3).bind fun bt167 => ((view_Index.f k y160 2 0).bind fun bt171 => ((view_Index.f k y160 9 0).bind fun bt173 => ((view_Range.f k y160 0 2).bind fun bt175 => ((view_Text.f y160).bind fun t179 => (if t179.toList = ([97, 226, 130, 172] : List UInt8) then ((view_Seen.f y160).bind fun t180 => ((duetref01_Same.f k t180 (([0, 2] : List Int))).bind fun t186 => (if t186 = true then (if (bt163.1 == 3 && (bt163.2.1 == 0)) = true then (if bt163.2.2 = 0 then (if bt167.2.2 = 1 then (if bt171.1 = 1 then (if bt171.2 = 0 then (if bt173.2 = 6 then (if (bt175.1.length : Int) = 2 then (some (bt175.2 == 0)) else (some false)) else (some false)) else (some false)) else (some false)) else (some false)) else (some false)) else (some false)) else (some false)))) else (some false)))))))))))
theorem duetlaw12_live.mono : ∀ k, LeO (duetlaw12_live.f k ) (duetlaw12_live.f (k + 1) ) := by
  intro  k
  unfold duetlaw12_live.f
  repeat' first
      | (with_reducible exact duetref01_Same.mono _ _ _)
      | (with_reducible exact view_Index.mono _ _ _ _)
      | (with_reducible exact view_Range.mono _ _ _ _)
      | (with_reducible exact view_Ref.mono _ _ _)
      | (with_reducible exact LeO.refl _)
      | (with_reducible exact LeO.none _)
      | (with_reducible refine LeO.ite ?_ ?_)
      | (with_reducible refine LeO.bind ?_ (fun _ => ?_))
      | exact duetref01_Same.mono _ _ _
      | exact view_Index.mono _ _ _ _
      | exact view_Range.mono _ _ _ _
      | exact view_Ref.mono _ _ _
      | exact LeO.none _
      | refine LeO.ite ?_ ?_
      | refine LeO.bind ?_ (fun _ => ?_)
set_option maxHeartbeats 8000000 in
set_option maxRecDepth 100000 in
theorem duetlaw12_live.calls (k : Nat)  (r : Bool) (w : World) (hr_ : Aside0 (r = true)) (h : duetlaw12_live.f k  = some r) :
    Calls Try.prog 9 #[] w fun e w' => e = .returned (.bool r) ∧ Below w.heap.size w w' := by
  have hu24 := Try.underlying24
  have HB := Aside0.mk (Below.refl w.heap.size w)
  have H : ((duetlaw12_one.f 1 97 ([] : List Int)).bind fun bt133 => ((duetlaw12_one.f 2 98 (([0] : List Int))).bind fun bt144 => ((duetlaw12_one.f 3 8364 ([] : List Int)).bind fun bt152 => ((some (([(⟨(⟨bt133.1, bt133.2.1⟩ : S24), (⟨bt133.2.2.1, bt133.2.2.2.1⟩ : S24), bt133.2.2.2.2.1, bt133.2.2.2.2.2⟩ : S44), (⟨(⟨bt144.1, bt144.2.1⟩ : S24), (⟨bt144.2.2.1, bt144.2.2.2.1⟩ : S24), bt144.2.2.2.2.1, bt144.2.2.2.2.2⟩ : S44), (⟨(⟨bt152.1, bt152.2.1⟩ : S24), (⟨bt152.2.2.1, bt152.2.2.2.1⟩ : S24), bt152.2.2.2.2.1, bt152.2.2.2.2.2⟩ : S44)] : List (S44)) : List (S44))).bind fun y160 => ((view_Ref.f k y160 2).bind fun bt163 => ((view_Ref.f k y160 3).bind fun bt167 => ((view_Index.f k y160 2 0).bind fun bt171 => ((view_Index.f k y160 9 0).bind fun bt173 => ((view_Range.f k y160 0 2).bind fun bt175 => ((view_Text.f y160).bind fun t179 => (if t179.toList = ([97, 226, 130, 172] : List UInt8) then ((view_Seen.f y160).bind fun t180 => ((duetref01_Same.f k t180 (([0, 2] : List Int))).bind fun t186 => (if t186 = true then (if (bt163.1 == 3 && (bt163.2.1 == 0)) = true then (if bt163.2.2 = 0 then (if bt167.2.2 = 1 then (if bt171.1 = 1 then (if bt171.2 = 0 then (if bt173.2 = 6 then (if (bt175.1.length : Int) = 2 then (some (bt175.2 == 0)) else (some false)) else (some false)) else (some false)) else (some false)) else (some false)) else (some false)) else (some false)) else (some false)))) else (some false)))))))))))) = some r := h
  clear h
  replace H := Option.bind_eq_some_iff.mp H
  obtain ⟨⟨t133, t134, t135, t136, t137, t138⟩, A10, H⟩ := H
  replace H : ((duetlaw12_one.f 2 98 (([0] : List Int))).bind fun bt144 => ((duetlaw12_one.f 3 8364 ([] : List Int)).bind fun bt152 => ((some (([(⟨(⟨t133, t134⟩ : S24), (⟨t135, t136⟩ : S24), t137, t138⟩ : S44), (⟨(⟨bt144.1, bt144.2.1⟩ : S24), (⟨bt144.2.2.1, bt144.2.2.2.1⟩ : S24), bt144.2.2.2.2.1, bt144.2.2.2.2.2⟩ : S44), (⟨(⟨bt152.1, bt152.2.1⟩ : S24), (⟨bt152.2.2.1, bt152.2.2.2.1⟩ : S24), bt152.2.2.2.2.1, bt152.2.2.2.2.2⟩ : S44)] : List (S44)) : List (S44))).bind fun y160 => ((view_Ref.f k y160 2).bind fun bt163 => ((view_Ref.f k y160 3).bind fun bt167 => ((view_Index.f k y160 2 0).bind fun bt171 => ((view_Index.f k y160 9 0).bind fun bt173 => ((view_Range.f k y160 0 2).bind fun bt175 => ((view_Text.f y160).bind fun t179 => (if t179.toList = ([97, 226, 130, 172] : List UInt8) then ((view_Seen.f y160).bind fun t180 => ((duetref01_Same.f k t180 (([0, 2] : List Int))).bind fun t186 => (if t186 = true then (if (bt163.1 == 3 && (bt163.2.1 == 0)) = true then (if bt163.2.2 = 0 then (if bt167.2.2 = 1 then (if bt171.1 = 1 then (if bt171.2 = 0 then (if bt173.2 = 6 then (if (bt175.1.length : Int) = 2 then (some (bt175.2 == 0)) else (some false)) else (some false)) else (some false)) else (some false)) else (some false)) else (some false)) else (some false)) else (some false)))) else (some false))))))))))) = some r := H
  have A1 := Aside0.mk A10
  clear A10
  obtain ⟨y141, hy141⟩ : ∃ y_ : List Int, y_ = (([0] : List Int)) := ⟨_, rfl⟩
  replace H : ((duetlaw12_one.f 2 98 y141).bind fun bt144 => ((duetlaw12_one.f 3 8364 ([] : List Int)).bind fun bt152 => ((some (([(⟨(⟨t133, t134⟩ : S24), (⟨t135, t136⟩ : S24), t137, t138⟩ : S44), (⟨(⟨bt144.1, bt144.2.1⟩ : S24), (⟨bt144.2.2.1, bt144.2.2.2.1⟩ : S24), bt144.2.2.2.2.1, bt144.2.2.2.2.2⟩ : S44), (⟨(⟨bt152.1, bt152.2.1⟩ : S24), (⟨bt152.2.2.1, bt152.2.2.2.1⟩ : S24), bt152.2.2.2.2.1, bt152.2.2.2.2.2⟩ : S44)] : List (S44)) : List (S44))).bind fun y160 => ((view_Ref.f k y160 2).bind fun bt163 => ((view_Ref.f k y160 3).bind fun bt167 => ((view_Index.f k y160 2 0).bind fun bt171 => ((view_Index.f k y160 9 0).bind fun bt173 => ((view_Range.f k y160 0 2).bind fun bt175 => ((view_Text.f y160).bind fun t179 => (if t179.toList = ([97, 226, 130, 172] : List UInt8) then ((view_Seen.f y160).bind fun t180 => ((duetref01_Same.f k t180 (([0, 2] : List Int))).bind fun t186 => (if t186 = true then (if (bt163.1 == 3 && (bt163.2.1 == 0)) = true then (if bt163.2.2 = 0 then (if bt167.2.2 = 1 then (if bt171.1 = 1 then (if bt171.2 = 0 then (if bt173.2 = 6 then (if (bt175.1.length : Int) = 2 then (some (bt175.2 == 0)) else (some false)) else (some false)) else (some false)) else (some false)) else (some false)) else (some false)) else (some false)) else (some false)))) else (some false))))))))))) = some r := by first | (rw [hy141]; with_reducible exact H) | (have H2_ := (Option.bind_some _ _).symm.trans H; rw [hy141]; with_reducible exact H2_) | (have H2_ := (Option.bind_some _ _).symm.trans H; with_reducible exact H2_) | with_reducible exact H | (rw [hy141]; exact H) | exact H
  have Ny141 := Aside0.mk hy141
  clear hy141
  replace H := Option.bind_eq_some_iff.mp H
  obtain ⟨⟨t144, t145, t146, t147, t148, t149⟩, A20, H⟩ := H
  replace H : ((duetlaw12_one.f 3 8364 ([] : List Int)).bind fun bt152 => ((some (([(⟨(⟨t133, t134⟩ : S24), (⟨t135, t136⟩ : S24), t137, t138⟩ : S44), (⟨(⟨t144, t145⟩ : S24), (⟨t146, t147⟩ : S24), t148, t149⟩ : S44), (⟨(⟨bt152.1, bt152.2.1⟩ : S24), (⟨bt152.2.2.1, bt152.2.2.2.1⟩ : S24), bt152.2.2.2.2.1, bt152.2.2.2.2.2⟩ : S44)] : List (S44)) : List (S44))).bind fun y160 => ((view_Ref.f k y160 2).bind fun bt163 => ((view_Ref.f k y160 3).bind fun bt167 => ((view_Index.f k y160 2 0).bind fun bt171 => ((view_Index.f k y160 9 0).bind fun bt173 => ((view_Range.f k y160 0 2).bind fun bt175 => ((view_Text.f y160).bind fun t179 => (if t179.toList = ([97, 226, 130, 172] : List UInt8) then ((view_Seen.f y160).bind fun t180 => ((duetref01_Same.f k t180 (([0, 2] : List Int))).bind fun t186 => (if t186 = true then (if (bt163.1 == 3 && (bt163.2.1 == 0)) = true then (if bt163.2.2 = 0 then (if bt167.2.2 = 1 then (if bt171.1 = 1 then (if bt171.2 = 0 then (if bt173.2 = 6 then (if (bt175.1.length : Int) = 2 then (some (bt175.2 == 0)) else (some false)) else (some false)) else (some false)) else (some false)) else (some false)) else (some false)) else (some false)) else (some false)))) else (some false)))))))))) = some r := H
  have A2 := Aside0.mk A20
  clear A20
  replace H := Option.bind_eq_some_iff.mp H
  obtain ⟨⟨t152, t153, t154, t155, t156, t157⟩, A30, H⟩ := H
  replace H : ((some (([(⟨(⟨t133, t134⟩ : S24), (⟨t135, t136⟩ : S24), t137, t138⟩ : S44), (⟨(⟨t144, t145⟩ : S24), (⟨t146, t147⟩ : S24), t148, t149⟩ : S44), (⟨(⟨t152, t153⟩ : S24), (⟨t154, t155⟩ : S24), t156, t157⟩ : S44)] : List (S44)) : List (S44))).bind fun y160 => ((view_Ref.f k y160 2).bind fun bt163 => ((view_Ref.f k y160 3).bind fun bt167 => ((view_Index.f k y160 2 0).bind fun bt171 => ((view_Index.f k y160 9 0).bind fun bt173 => ((view_Range.f k y160 0 2).bind fun bt175 => ((view_Text.f y160).bind fun t179 => (if t179.toList = ([97, 226, 130, 172] : List UInt8) then ((view_Seen.f y160).bind fun t180 => ((duetref01_Same.f k t180 (([0, 2] : List Int))).bind fun t186 => (if t186 = true then (if (bt163.1 == 3 && (bt163.2.1 == 0)) = true then (if bt163.2.2 = 0 then (if bt167.2.2 = 1 then (if bt171.1 = 1 then (if bt171.2 = 0 then (if bt173.2 = 6 then (if (bt175.1.length : Int) = 2 then (some (bt175.2 == 0)) else (some false)) else (some false)) else (some false)) else (some false)) else (some false)) else (some false)) else (some false)) else (some false)))) else (some false))))))))) = some r := H
  have A3 := Aside0.mk A30
  clear A30
  obtain ⟨y160, hy160⟩ : ∃ y_ : List (S44), y_ = (([(⟨(⟨t133, t134⟩ : S24), (⟨t135, t136⟩ : S24), t137, t138⟩ : S44), (⟨(⟨t144, t145⟩ : S24), (⟨t146, t147⟩ : S24), t148, t149⟩ : S44), (⟨(⟨t152, t153⟩ : S24), (⟨t154, t155⟩ : S24), t156, t157⟩ : S44)] : List (S44))) := ⟨_, rfl⟩
  replace H : ((view_Ref.f k y160 2).bind fun bt163 => ((view_Ref.f k y160 3).bind fun bt167 => ((view_Index.f k y160 2 0).bind fun bt171 => ((view_Index.f k y160 9 0).bind fun bt173 => ((view_Range.f k y160 0 2).bind fun bt175 => ((view_Text.f y160).bind fun t179 => (if t179.toList = ([97, 226, 130, 172] : List UInt8) then ((view_Seen.f y160).bind fun t180 => ((duetref01_Same.f k t180 (([0, 2] : List Int))).bind fun t186 => (if t186 = true then (if (bt163.1 == 3 && (bt163.2.1 == 0)) = true then (if bt163.2.2 = 0 then (if bt167.2.2 = 1 then (if bt171.1 = 1 then (if bt171.2 = 0 then (if bt173.2 = 6 then (if (bt175.1.length : Int) = 2 then (some (bt175.2 == 0)) else (some false)) else (some false)) else (some false)) else (some false)) else (some false)) else (some false)) else (some false)) else (some false)))) else (some false)))))))) = some r := by first | (rw [hy160]; with_reducible exact H) | (have H2_ := (Option.bind_some _ _).symm.trans H; rw [hy160]; with_reducible exact H2_) | (have H2_ := (Option.bind_some _ _).symm.trans H; with_reducible exact H2_) | with_reducible exact H | (rw [hy160]; exact H) | exact H
  have Ny160 := Aside0.mk hy160
  clear hy160
  replace H := Option.bind_eq_some_iff.mp H
  obtain ⟨⟨t163, t164, t165⟩, A40, H⟩ := H
  replace H : ((view_Ref.f k y160 3).bind fun bt167 => ((view_Index.f k y160 2 0).bind fun bt171 => ((view_Index.f k y160 9 0).bind fun bt173 => ((view_Range.f k y160 0 2).bind fun bt175 => ((view_Text.f y160).bind fun t179 => (if t179.toList = ([97, 226, 130, 172] : List UInt8) then ((view_Seen.f y160).bind fun t180 => ((duetref01_Same.f k t180 (([0, 2] : List Int))).bind fun t186 => (if t186 = true then (if (t163 == 3 && (t164 == 0)) = true then (if t165 = 0 then (if bt167.2.2 = 1 then (if bt171.1 = 1 then (if bt171.2 = 0 then (if bt173.2 = 6 then (if (bt175.1.length : Int) = 2 then (some (bt175.2 == 0)) else (some false)) else (some false)) else (some false)) else (some false)) else (some false)) else (some false)) else (some false)) else (some false)))) else (some false))))))) = some r := H
  have A4 := Aside0.mk A40
  clear A40
  replace H := Option.bind_eq_some_iff.mp H
  obtain ⟨⟨t167, t168, t169⟩, A50, H⟩ := H
  replace H : ((view_Index.f k y160 2 0).bind fun bt171 => ((view_Index.f k y160 9 0).bind fun bt173 => ((view_Range.f k y160 0 2).bind fun bt175 => ((view_Text.f y160).bind fun t179 => (if t179.toList = ([97, 226, 130, 172] : List UInt8) then ((view_Seen.f y160).bind fun t180 => ((duetref01_Same.f k t180 (([0, 2] : List Int))).bind fun t186 => (if t186 = true then (if (t163 == 3 && (t164 == 0)) = true then (if t165 = 0 then (if t169 = 1 then (if bt171.1 = 1 then (if bt171.2 = 0 then (if bt173.2 = 6 then (if (bt175.1.length : Int) = 2 then (some (bt175.2 == 0)) else (some false)) else (some false)) else (some false)) else (some false)) else (some false)) else (some false)) else (some false)) else (some false)))) else (some false)))))) = some r := H
  have A5 := Aside0.mk A50
  clear A50
  replace H := Option.bind_eq_some_iff.mp H
  obtain ⟨⟨t171, t172⟩, A60, H⟩ := H
  replace H : ((view_Index.f k y160 9 0).bind fun bt173 => ((view_Range.f k y160 0 2).bind fun bt175 => ((view_Text.f y160).bind fun t179 => (if t179.toList = ([97, 226, 130, 172] : List UInt8) then ((view_Seen.f y160).bind fun t180 => ((duetref01_Same.f k t180 (([0, 2] : List Int))).bind fun t186 => (if t186 = true then (if (t163 == 3 && (t164 == 0)) = true then (if t165 = 0 then (if t169 = 1 then (if t171 = 1 then (if t172 = 0 then (if bt173.2 = 6 then (if (bt175.1.length : Int) = 2 then (some (bt175.2 == 0)) else (some false)) else (some false)) else (some false)) else (some false)) else (some false)) else (some false)) else (some false)) else (some false)))) else (some false))))) = some r := H
  have A6 := Aside0.mk A60
  clear A60
  replace H := Option.bind_eq_some_iff.mp H
  obtain ⟨⟨t173, t174⟩, A70, H⟩ := H
  replace H : ((view_Range.f k y160 0 2).bind fun bt175 => ((view_Text.f y160).bind fun t179 => (if t179.toList = ([97, 226, 130, 172] : List UInt8) then ((view_Seen.f y160).bind fun t180 => ((duetref01_Same.f k t180 (([0, 2] : List Int))).bind fun t186 => (if t186 = true then (if (t163 == 3 && (t164 == 0)) = true then (if t165 = 0 then (if t169 = 1 then (if t171 = 1 then (if t172 = 0 then (if t174 = 6 then (if (bt175.1.length : Int) = 2 then (some (bt175.2 == 0)) else (some false)) else (some false)) else (some false)) else (some false)) else (some false)) else (some false)) else (some false)) else (some false)))) else (some false)))) = some r := H
  have A7 := Aside0.mk A70
  clear A70
  replace H := Option.bind_eq_some_iff.mp H
  obtain ⟨⟨t175, t176⟩, A80, H⟩ := H
  replace H : ((view_Text.f y160).bind fun t179 => (if t179.toList = ([97, 226, 130, 172] : List UInt8) then ((view_Seen.f y160).bind fun t180 => ((duetref01_Same.f k t180 (([0, 2] : List Int))).bind fun t186 => (if t186 = true then (if (t163 == 3 && (t164 == 0)) = true then (if t165 = 0 then (if t169 = 1 then (if t171 = 1 then (if t172 = 0 then (if t174 = 6 then (if (t175.length : Int) = 2 then (some (t176 == 0)) else (some false)) else (some false)) else (some false)) else (some false)) else (some false)) else (some false)) else (some false)) else (some false)))) else (some false))) = some r := H
  have A8 := Aside0.mk A80
  clear A80
  replace H := Option.bind_eq_some_iff.mp H
  obtain ⟨t179, A90, H⟩ := H
  replace H : (if t179.toList = ([97, 226, 130, 172] : List UInt8) then ((view_Seen.f y160).bind fun t180 => ((duetref01_Same.f k t180 (([0, 2] : List Int))).bind fun t186 => (if t186 = true then (if (t163 == 3 && (t164 == 0)) = true then (if t165 = 0 then (if t169 = 1 then (if t171 = 1 then (if t172 = 0 then (if t174 = 6 then (if (t175.length : Int) = 2 then (some (t176 == 0)) else (some false)) else (some false)) else (some false)) else (some false)) else (some false)) else (some false)) else (some false)) else (some false)))) else (some false)) = some r := H
  have A9 := Aside0.mk A90
  clear A90
  by_cases c10 : t179.toList = ([97, 226, 130, 172] : List UInt8)
  · rw [if_pos c10] at H
    have c10b0 : (t179.toList == ([97, 226, 130, 172] : List UInt8)) = true := beq_iff_eq.mpr c10
    have c10b1 : (t179.toList != ([97, 226, 130, 172] : List UInt8)) = false := bne_eq_false_iff_eq.mpr c10
    clear c10
    replace H := Option.bind_eq_some_iff.mp H
    obtain ⟨t180, A110, H⟩ := H
    replace H : ((duetref01_Same.f k t180 (([0, 2] : List Int))).bind fun t186 => (if t186 = true then (if (t163 == 3 && (t164 == 0)) = true then (if t165 = 0 then (if t169 = 1 then (if t171 = 1 then (if t172 = 0 then (if t174 = 6 then (if (t175.length : Int) = 2 then (some (t176 == 0)) else (some false)) else (some false)) else (some false)) else (some false)) else (some false)) else (some false)) else (some false)) else (some false))) = some r := H
    have A11 := Aside0.mk A110
    clear A110
    obtain ⟨y183, hy183⟩ : ∃ y_ : List Int, y_ = (([0, 2] : List Int)) := ⟨_, rfl⟩
    replace H : ((duetref01_Same.f k t180 y183).bind fun t186 => (if t186 = true then (if (t163 == 3 && (t164 == 0)) = true then (if t165 = 0 then (if t169 = 1 then (if t171 = 1 then (if t172 = 0 then (if t174 = 6 then (if (t175.length : Int) = 2 then (some (t176 == 0)) else (some false)) else (some false)) else (some false)) else (some false)) else (some false)) else (some false)) else (some false)) else (some false))) = some r := by first | (rw [hy183]; with_reducible exact H) | (have H2_ := (Option.bind_some _ _).symm.trans H; rw [hy183]; with_reducible exact H2_) | (have H2_ := (Option.bind_some _ _).symm.trans H; with_reducible exact H2_) | with_reducible exact H | (rw [hy183]; exact H) | exact H
    have Ny183 := Aside0.mk hy183
    clear hy183
    replace H := Option.bind_eq_some_iff.mp H
    obtain ⟨t186, A120, H⟩ := H
    replace H : (if t186 = true then (if (t163 == 3 && (t164 == 0)) = true then (if t165 = 0 then (if t169 = 1 then (if t171 = 1 then (if t172 = 0 then (if t174 = 6 then (if (t175.length : Int) = 2 then (some (t176 == 0)) else (some false)) else (some false)) else (some false)) else (some false)) else (some false)) else (some false)) else (some false)) else (some false)) = some r := H
    have A12 := Aside0.mk A120
    clear A120
    by_cases c13 : t186 = true
    · subst c13
      have H1 : (if (t163 == 3 && (t164 == 0)) = true then (if t165 = 0 then (if t169 = 1 then (if t171 = 1 then (if t172 = 0 then (if t174 = 6 then (if (t175.length : Int) = 2 then (some (t176 == 0)) else (some false)) else (some false)) else (some false)) else (some false)) else (some false)) else (some false)) else (some false)) = some r := by rw [if_pos rfl] at H; exact H
      clear H
      have H := H1
      clear H1
      by_cases c14 : (t163 == 3 && (t164 == 0)) = true
      · rw [if_pos c14] at H
        have c14b0 : (t163 == 3 && (t164 == 0)) = true := c14
        (try (have c14b1 : decide (t163 = 3 && (t164 == 0)) = true := by simpa using c14))
        (try (have c14b2 : (t163 == 3 && (t164 == 0)) = true := by simpa using c14))
        clear c14
        by_cases c15 : t165 = 0
        · rw [if_pos c15] at H
          have c15b0 : (t165 == 0) = true := beq_iff_eq.mpr c15
          have c15b1 : (t165 != 0) = false := bne_eq_false_iff_eq.mpr c15
          clear c15
          by_cases c16 : t169 = 1
          · rw [if_pos c16] at H
            have c16b0 : (t169 == 1) = true := beq_iff_eq.mpr c16
            have c16b1 : (t169 != 1) = false := bne_eq_false_iff_eq.mpr c16
            clear c16
            by_cases c17 : t171 = 1
            · rw [if_pos c17] at H
              have c17b0 : (t171 == 1) = true := beq_iff_eq.mpr c17
              have c17b1 : (t171 != 1) = false := bne_eq_false_iff_eq.mpr c17
              clear c17
              by_cases c18 : t172 = 0
              · rw [if_pos c18] at H
                have c18b0 : (t172 == 0) = true := beq_iff_eq.mpr c18
                have c18b1 : (t172 != 0) = false := bne_eq_false_iff_eq.mpr c18
                clear c18
                by_cases c19 : t174 = 6
                · rw [if_pos c19] at H
                  have c19b0 : (t174 == 6) = true := beq_iff_eq.mpr c19
                  have c19b1 : (t174 != 6) = false := bne_eq_false_iff_eq.mpr c19
                  clear c19
                  by_cases c20 : (t175.length : Int) = 2
                  · rw [if_pos c20] at H
                    have c20b0 : ((t175.length : Int) == 2) = true := beq_iff_eq.mpr c20
                    have c20b1 : ((t175.length : Int) != 2) = false := bne_eq_false_iff_eq.mpr c20
                    clear c20
                    obtain rfl := Option.some.inj H
                    go_enter Try.func9, Try.ntmps9
                    go_wp2_with (first | ((with_reducible refine gate_callee (f := 23) rfl ?_); refine goesL_ (some 12) rfl rfl Try.func23 (by kernel_rfl) rfl #[.int .i64 1, .int .i64 97, .slice none 0 0] rfl (by (try simp only [List.map_toArray, List.map_cons, List.map_nil]); first | done | rfl | (simp only [List.length_drop, List.length_take]; rfl)) ?_; (refine (duetlaw12_one.calls 1 97 (fun k_ => some k_ = (.slice none 0 0 : Value).ownBlock) (.slice none 0 0) ([] : List Int) t133 t134 t135 t136 t137 t138 w _ ?side1 ?side2 A1.out).mono ?_); (case side1 => repeat (first | (with_reducible first | exact HB.out | apply below_alloc | apply pw_below_drewN | apply below_drew1) | exact HB.out)); (case side2 => exact Kd.R_nil _ _ _ _ _); rintro e w21 ⟨v139, rfl, ho0, hb, hkp⟩; refine ⟨_, rfl, ?_⟩; have n0_ := Aside0.mk (Kd.R_mono (ok' := fun k_ => True) ho0 (fun k_ hk_ => trivial)); have n1_ := Aside0.mk (hb); clear HB; have HO140 := n0_; have HB := n1_; clear n0_ n1_; (try clear hb); (try clear hkp); (try clear ho0)) | ((with_reducible refine gate_dst (N := 13) rfl ?_); (try (refine gate_guard (by rfl) ?_; dsimp only)); refine Kd.R_lit (Kd.int .i64) _ 3 ?hg (N := 13) ?hd (xs := ([0] : List Int)) (inner := [.int .i64 0]) (ok := fun _ => True) (okp := fun _ => True) ?hr ?hp (fun _ hk => hk) trivial (Below.refl _ _) (Nat.le_refl _) (by simp) ?_; (case hd => rfl); (case hg => rfl); (case hr => first | (go_simp; done) | (go_simp; rfl)); (case hp => exact (Reps.one (show Kd.M (Kd.int .i64) _ _ _ 0 [.int .i64 0] from rfl) (Reps.none _ _))); intro v142 w22 ho23 hb hg_ hnew_; clear hg_ hnew_; (first | rw [← Ny141.out] at ho23 | (simp only [Int.reduceToNat] at ho23; rw [← Ny141.out] at ho23)); have n0_ := Aside0.mk (Kd.R_elder' (by (with_reducible repeat (first | apply Kd.R_alloc | apply Kd.R_drewN | apply Kd.R_drew)); exact HO140.out) (Kd.R_base ho23) hb); have n1_ := Aside0.mk (Kd.R_lower (Kd.R_new' ho23 (Kd.R_lt (by (with_reducible repeat (first | apply Kd.R_alloc | apply Kd.R_drewN | apply Kd.R_drew)); exact HO140.out))) (below_size (by repeat (first | (with_reducible first | exact HB.out | apply below_alloc | apply pw_below_drewN | apply below_drew1) | exact HB.out)))); have n2_ := Aside0.mk (below_step (by repeat (first | (with_reducible first | exact HB.out | apply below_alloc | apply pw_below_drewN | apply below_drew1) | exact HB.out)) hb); clear HO140; clear HB; have HO140 := n0_; have HO143 := n1_; have HB := n2_; clear n0_ n1_ n2_; clear hb ho23; obtain ⟨Ao24, co24, eo24⟩ := Kd.R_slice HO143.out; subst eo24) | ((with_reducible refine gate_callee (f := 23) rfl ?_); refine goesL_ (some 14) rfl rfl Try.func23 (by kernel_rfl) rfl #[.int .i64 2, .int .i64 98, .slice Ao24 y141.length co24] rfl (by (try simp only [List.map_toArray, List.map_cons, List.map_nil]); first | done | rfl | (simp only [List.length_drop, List.length_take]; rfl)) ?_; (with_reducible refine (duetlaw12_one.calls 2 98 (fun k_ => some k_ = (.slice Ao24 y141.length co24 : Value).ownBlock) (.slice Ao24 y141.length co24) y141 t144 t145 t146 t147 t148 t149 w _ ?side1 ?side2 A2.out).mono ?_); (case side1 => repeat (first | (with_reducible first | exact HB.out | apply below_alloc | apply pw_below_drewN | apply below_drew1) | exact HB.out)); (case side2 => exact Kd.R_tight rfl HO143.out); rintro e w25 ⟨v150, rfl, ho0, hb, hkp⟩; refine ⟨_, rfl, ?_⟩; have n0_ := Aside0.mk (Kd.R_mono (ok' := fun k_ => some k_ ≠ (v150 : Value).ownBlock) (Kd.R_keptB (HO140.out) hkp (fun k_ hk_ hs_ => (hk_.2) hs_)) (fun k_ hk_ => fun e_ => Or.elim (ho0.1 k_ e_.symm) (fun hs_ => hk_.2.1 hs_) (fun hn_ => Nat.not_le.2 hk_.2.2 hn_))); have n1_ := Aside0.mk (Kd.R_mono (ok' := fun k_ => some k_ ≠ (v139 : Value).ownBlock) ho0 (fun k_ hk_ => Or.elim hk_ (fun hs_ => fun e_ => (((HO140.out).1 k_ e_.symm).2) hs_) (fun hn_ => (Kd.fresh' (Kd.R_lt (by (with_reducible repeat (first | apply Kd.R_alloc | apply Kd.R_drewN | apply Kd.R_drew)); exact HO140.out)) k_ hn_)))); have n2_ := Aside0.mk (hb); clear HO140; clear HB; clear HO143; have HO140 := n0_; have HO151 := n1_; have HB := n2_; clear n0_ n1_ n2_; (try clear hb); (try clear hkp); (try clear ho0)) | ((with_reducible refine gate_callee (f := 23) rfl ?_); refine goesL_ (some 15) rfl rfl Try.func23 (by kernel_rfl) rfl #[.int .i64 3, .int .i64 8364, .slice none 0 0] rfl (by (try simp only [List.map_toArray, List.map_cons, List.map_nil]); first | done | rfl | (simp only [List.length_drop, List.length_take]; rfl)) ?_; (refine (duetlaw12_one.calls 3 8364 (fun k_ => some k_ = (.slice none 0 0 : Value).ownBlock) (.slice none 0 0) ([] : List Int) t152 t153 t154 t155 t156 t157 w _ ?side1 ?side2 A3.out).mono ?_); (case side1 => repeat (first | (with_reducible first | exact HB.out | apply below_alloc | apply pw_below_drewN | apply below_drew1) | exact HB.out)); (case side2 => exact Kd.R_nil _ _ _ _ _); rintro e w26 ⟨v158, rfl, ho0, hb, hkp⟩; refine ⟨_, rfl, ?_⟩; have n0_ := Aside0.mk (Kd.R_mono (ok' := fun k_ => some k_ ≠ (v150 : Value).ownBlock ∧ some k_ ≠ (v158 : Value).ownBlock) (Kd.R_keptB (HO140.out) hkp (fun k_ hk_ hs_ => (fun e_ => by simp [Value.ownBlock] at e_) hs_)) (fun k_ hk_ => ⟨hk_.1, fun e_ => Or.elim (ho0.1 k_ e_.symm) (fun hs_ => hk_.2.1 hs_) (fun hn_ => Nat.not_le.2 hk_.2.2 hn_)⟩)); have n1_ := Aside0.mk (Kd.R_mono (ok' := fun k_ => some k_ ≠ (v139 : Value).ownBlock ∧ some k_ ≠ (v158 : Value).ownBlock) (Kd.R_keptB (HO151.out) hkp (fun k_ hk_ hs_ => (fun e_ => by simp [Value.ownBlock] at e_) hs_)) (fun k_ hk_ => ⟨hk_.1, fun e_ => Or.elim (ho0.1 k_ e_.symm) (fun hs_ => hk_.2.1 hs_) (fun hn_ => Nat.not_le.2 hk_.2.2 hn_)⟩)); have n2_ := Aside0.mk (Kd.R_mono (ok' := fun k_ => some k_ ≠ (v139 : Value).ownBlock ∧ some k_ ≠ (v150 : Value).ownBlock) ho0 (fun k_ hk_ => ⟨Or.elim hk_ (fun hs_ => absurd hs_ (by simp [Value.ownBlock])) (fun hn_ => (Kd.fresh' (Kd.R_lt (by (with_reducible repeat (first | apply Kd.R_alloc | apply Kd.R_drewN | apply Kd.R_drew)); exact HO140.out)) k_ hn_)), Or.elim hk_ (fun hs_ => absurd hs_ (by simp [Value.ownBlock])) (fun hn_ => (Kd.fresh' (Kd.R_lt (by (with_reducible repeat (first | apply Kd.R_alloc | apply Kd.R_drewN | apply Kd.R_drew)); exact HO151.out)) k_ hn_))⟩)); have n3_ := Aside0.mk (hb); clear HO140; clear HO151; clear HB; have HO140 := n0_; have HO151 := n1_; have HO159 := n2_; have HB := n3_; clear n0_ n1_ n2_ n3_; (try clear hb); (try clear hkp); (try clear ho0); obtain ⟨Ao27, co27, eo27⟩ := Kd.R_slice HO140.out; subst eo27; obtain ⟨Ao28, co28, eo28⟩ := Kd.R_slice HO151.out; subst eo28; obtain ⟨Ao29, co29, eo29⟩ := Kd.R_slice HO159.out; subst eo29) | ((with_reducible refine gate_dst (N := 16) rfl ?_); (try (refine gate_guard (by rfl) ?_; dsimp only)); refine Kd.N_lit k44 _ 44 ?hg (N' := 16) ?hd (xs := ([(⟨(⟨t133, t134⟩ : S24), (⟨t135, t136⟩ : S24), t137, t138⟩ : S44), (⟨(⟨t144, t145⟩ : S24), (⟨t146, t147⟩ : S24), t148, t149⟩ : S44), (⟨(⟨t152, t153⟩ : S24), (⟨t154, t155⟩ : S24), t156, t157⟩ : S44)] : List (S44))) (inner := [.int .i64 t133, .int .i64 t134, .int .i64 t135, .int .i64 t136, .int .i64 t137, .slice Ao27 t138.length co27, .int .i64 t144, .int .i64 t145, .int .i64 t146, .int .i64 t147, .int .i64 t148, .slice Ao28 t149.length co28, .int .i64 t152, .int .i64 t153, .int .i64 t154, .int .i64 t155, .int .i64 t156, .slice Ao29 t157.length co29]) (ok := (fun _ => True)) (okp := (fun _ => True)) ?hr ?hp (fun _ hk => hk) ((show ∀ k_, w26.heap.size ≤ k_ → (fun _ => True) k_ from fun k_ hk => trivial) _ (Nat.le_refl _)) (Below.refl _ _) (Nat.le_refl _) (by simp) ?_; (case hd => rfl); (case hg => rfl); (case hr => first | (go_simp; done) | (go_simp; rfl)); (case hp => exact (Reps.c6 (show Kd.FK k44 _ _ (⟨(⟨t133, t134⟩ : S24), (⟨t135, t136⟩ : S24), t137, t138⟩ : S44) [.int .i64 t133, .int .i64 t134, .int .i64 t135, .int .i64 t136, .int .i64 t137, .slice Ao27 t138.length co27] from (k44_mkF _ _ (⟨(⟨t133, t134⟩ : S24), (⟨t135, t136⟩ : S24), t137, t138⟩ : S44) (Kd.R_reads' (Kd.R_mono (ok' := (fun _ => True)) (HO140.out) (fun k_ hk => trivial))).2.1 (Kd.R_F (Kd.R_mono (ok' := (fun _ => True)) (HO140.out) (fun k_ hk => trivial))))) (Reps.c6 (show Kd.FK k44 _ _ (⟨(⟨t144, t145⟩ : S24), (⟨t146, t147⟩ : S24), t148, t149⟩ : S44) [.int .i64 t144, .int .i64 t145, .int .i64 t146, .int .i64 t147, .int .i64 t148, .slice Ao28 t149.length co28] from (k44_mkF _ _ (⟨(⟨t144, t145⟩ : S24), (⟨t146, t147⟩ : S24), t148, t149⟩ : S44) (Kd.R_reads' (Kd.R_mono (ok' := (fun _ => True)) (HO151.out) (fun k_ hk => trivial))).2.1 (Kd.R_F (Kd.R_mono (ok' := (fun _ => True)) (HO151.out) (fun k_ hk => trivial))))) (Reps.c6 (show Kd.FK k44 _ _ (⟨(⟨t152, t153⟩ : S24), (⟨t154, t155⟩ : S24), t156, t157⟩ : S44) [.int .i64 t152, .int .i64 t153, .int .i64 t154, .int .i64 t155, .int .i64 t156, .slice Ao29 t157.length co29] from (k44_mkF _ _ (⟨(⟨t152, t153⟩ : S24), (⟨t154, t155⟩ : S24), t156, t157⟩ : S44) (Kd.R_reads' (Kd.R_mono (ok' := (fun _ => True)) (HO159.out) (fun k_ hk => trivial))).2.1 (Kd.R_F (Kd.R_mono (ok' := (fun _ => True)) (HO159.out) (fun k_ hk => trivial))))) (Reps.none _ _))))); intro v161 w30 ho31 hb hg_ hnew_; clear hg_ hnew_; (first | rw [← Ny160.out] at ho31 | (simp only [Int.reduceToNat] at ho31; rw [← Ny160.out] at ho31)); have n0_ := Aside0.mk (Kd.N_lower ho31 (below_size (by repeat (first | (with_reducible first | exact HB.out | apply below_alloc | apply pw_below_drewN | apply below_drew1) | exact HB.out)))); have n1_ := Aside0.mk (below_step (by repeat (first | (with_reducible first | exact HB.out | apply below_alloc | apply pw_below_drewN | apply below_drew1) | exact HB.out)) hb); clear HB; clear HO140; clear HO151; clear HO159; have HO162 := n0_; have HB := n1_; clear n0_ n1_; clear hb ho31; obtain ⟨Ao32, co32, eo32⟩ := Kd.N_slice HO162.out; subst eo32) | ((with_reducible refine gate_callee (f := 10) rfl ?_); refine goesL_ (some 19) rfl rfl Try.func10 (by kernel_rfl) rfl #[.slice Ao32 y160.length co32, .int .i64 2] rfl (by (try simp only [List.map_toArray, List.map_cons, List.map_nil]); first | done | rfl | (simp only [List.length_drop, List.length_take]; rfl)) ?_; (with_reducible refine (view_Ref.calls k _ _ y160 2 t163 t164 t165 _ ?side1 ?side2 A4.out).mono ?_); (case side1 => repeat (first | exact (Kd.N_reads' HO162.out).2.2 | (with_reducible refine Kd.C_alloc ?_ _) | (with_reducible refine Kd.C_drewN ?_ _) | (with_reducible refine Kd.C_drew ?_))); (case side2 => exact (Kd.N_reads' HO162.out).2.1); rintro e w33 ⟨rfl, hb⟩; refine ⟨_, rfl, ?_⟩; have n0_ := Aside0.mk (Kd.N_below (by (with_reducible repeat (first | apply Kd.N_alloc | apply Kd.N_drewN | apply Kd.N_drew)); exact HO162.out) hb); have n1_ := Aside0.mk (below_step (by repeat (first | (with_reducible first | exact HB.out | apply below_alloc | apply pw_below_drewN | apply below_drew1) | exact HB.out)) hb); clear HO162; clear HB; have HO162 := n0_; have HB := n1_; clear n0_ n1_; (try clear hb); (try clear hb2); (try clear hk); (try clear hi)) | ((with_reducible refine gate_dst (N := 2) rfl ?_); (try (refine gate_guard (by rfl) ?_; dsimp only)); refine box_event ?hg (N := 2) ?hd (cs := #[.int .i64 0, .int .i64 0]) (t := 24) ?hr ?_; (case hd => rfl); (case hg => rfl); (case hr => first | (go_simp; done) | (go_simp; rfl)); intro gb166 hg w34 hbox hb; have n0_ := Aside0.mk (Kd.N_below (Kd.N_elderB (by (with_reducible repeat (first | apply Kd.N_alloc | apply Kd.N_drewN | apply Kd.N_drew)); exact HO162.out) gb166 (Nat.le_of_eq hg.symm)) hb); have n1_ := Aside0.mk (below_step (by repeat (first | (with_reducible first | exact HB.out | apply below_alloc | apply pw_below_drewN | apply below_drew1) | exact HB.out)) hb); have n2_ := Aside0.mk (hbox); have n3_ := Aside0.mk ((by rw [hg]; exact (below_size (by repeat (first | (with_reducible first | exact HB.out | apply below_alloc | apply pw_below_drewN | apply below_drew1) | exact HB.out))) : w.heap.size ≤ gb166)); have n4_ := Aside0.mk ((by rw [hg]; exact (below_size (by repeat (first | (with_reducible first | exact HB.out | apply below_alloc | apply pw_below_drewN | apply below_drew1) | exact HB.out))) : w.heap.size ≤ gb166)); clear HO162; clear HB; have HO162 := n0_; have HB := n1_; have BK166 := n2_; have GW166 := n3_; have GE166 := n4_; clear n0_ n1_ n2_ n3_ n4_; clear hb hbox hg; have hcz35_0 : w34.cell? ⟨gb166, 0, none⟩ = some (.int .i64 0) := (blk_cell BK166.out 0).trans rfl; have hcz35_1 : w34.cell? ⟨gb166, 1, none⟩ = some (.int .i64 0) := (blk_cell BK166.out 1).trans rfl; have hfz35_0 := blk_frozen BK166.out 0; have hfz35_1 := blk_frozen BK166.out 1) | ((with_reducible refine gate_callee (f := 10) rfl ?_); refine goesL_ (some 24) rfl rfl Try.func10 (by kernel_rfl) rfl #[.slice Ao32 y160.length co32, .int .i64 3] rfl (by (try simp only [List.map_toArray, List.map_cons, List.map_nil]); first | done | rfl | (simp only [List.length_drop, List.length_take]; rfl)) ?_; (with_reducible refine (view_Ref.calls k _ _ y160 3 t167 t168 t169 _ ?side1 ?side2 A5.out).mono ?_); (case side1 => refine (Kd.N_reads' (e := 44) (base := w.heap.size) (ok := fun k_ => (True ∧ k_ ≠ gb166)) (n := y160.length) (c := co32) ?_).2.2; exact (by (with_reducible repeat (first | apply Kd.N_alloc | apply Kd.N_drewN | apply Kd.N_drew)); exact (Kd.N_mono (Kd.N_far (p := ⟨gb166, 1, none⟩) (Kd.N_far (p := ⟨gb166, 0, none⟩) (Kd.N_mono HO162.out (fun k_ hk => (⟨hk, hk.2⟩ : _ ∧ k_ ≠ gb166))) (fun _ hk => hk.2) (.int .i64 t163)) (fun _ hk => hk.2) (.int .i64 t164)) (fun _ h_ => h_.1)))); (case side2 => exact (Kd.N_reads' HO162.out).2.1); rintro e w36 ⟨rfl, hb⟩; refine ⟨_, rfl, ?_⟩; have n0_ := Aside0.mk (Kd.N_below (by (with_reducible repeat (first | apply Kd.N_alloc | apply Kd.N_drewN | apply Kd.N_drew)); exact (Kd.N_mono (Kd.N_far (p := ⟨gb166, 1, none⟩) (Kd.N_far (p := ⟨gb166, 0, none⟩) (Kd.N_mono HO162.out (fun k_ hk => (⟨hk, hk.2⟩ : _ ∧ k_ ≠ gb166))) (fun _ hk => hk.2) (.int .i64 t163)) (fun _ hk => hk.2) (.int .i64 t164)) (fun _ h_ => h_.1))) hb); have n1_ := Aside0.mk (blk_below (g := gb166) (o := .cells #[.int .i64 t163, .int .i64 t164] 24 (0, 0)) (by (with_reducible repeat (first | refine blk_drewN ?_ _ | refine blk_drew ?_ | refine blk_alloc ?_ _)); refine blk_put (cs := #[.int .i64 t163, .int .i64 0]) ?_ 1 _ rfl; (with_reducible repeat (first | refine blk_drewN ?_ _ | refine blk_drew ?_ | refine blk_alloc ?_ _)); refine blk_put (cs := #[.int .i64 0, .int .i64 0]) ?_ 0 _ rfl; (with_reducible repeat (first | refine blk_drewN ?_ _ | refine blk_drew ?_ | refine blk_alloc ?_ _)); exact BK166.out) hb); have n2_ := Aside0.mk (below_step (by repeat (first | (with_reducible first | exact HB.out | apply below_alloc | apply pw_below_drewN | apply below_drew1 | refine below_set ?_ GE166.out) | exact HB.out)) hb); clear HO162; clear BK166; clear HB; have HO162 := n0_; have BK166 := n1_; have HB := n2_; clear n0_ n1_ n2_; (try clear hb); (try clear hb2); (try clear hk); (try clear hi)) | ((with_reducible refine gate_dst (N := 4) rfl ?_); (try (refine gate_guard (by rfl) ?_; dsimp only)); refine box_event ?hg (N := 4) ?hd (cs := #[.int .i64 0, .int .i64 0]) (t := 24) ?hr ?_; (case hd => rfl); (case hg => rfl); (case hr => first | (go_simp; done) | (go_simp; rfl)); intro gb170 hg w37 hbox hb; have n0_ := Aside0.mk (Kd.N_below (Kd.N_elderB (by (with_reducible repeat (first | apply Kd.N_alloc | apply Kd.N_drewN | apply Kd.N_drew)); exact HO162.out) gb170 (Nat.le_of_eq hg.symm)) hb); have n1_ := Aside0.mk (blk_below (g := gb166) (o := .cells #[.int .i64 t163, .int .i64 t164] 24 (0, 0)) (by (with_reducible repeat (first | refine blk_drewN ?_ _ | refine blk_drew ?_ | refine blk_alloc ?_ _)); exact BK166.out) hb); have n2_ := Aside0.mk (below_step (by repeat (first | (with_reducible first | exact HB.out | apply below_alloc | apply pw_below_drewN | apply below_drew1 | refine below_set ?_ GE166.out) | exact HB.out)) hb); have n3_ := Aside0.mk (hbox); have n4_ := Aside0.mk ((by rw [hg]; exact (below_size (by repeat (first | (with_reducible first | exact HB.out | apply below_alloc | apply pw_below_drewN | apply below_drew1 | refine below_set ?_ GE166.out) | exact HB.out))) : w.heap.size ≤ gb170)); have n5_ := Aside0.mk ((by rw [hg]; exact (below_size (by repeat (first | (with_reducible first | exact HB.out | apply below_alloc | apply pw_below_drewN | apply below_drew1 | refine below_set ?_ GE166.out) | exact HB.out))) : w.heap.size ≤ gb170)); have n6_ := Aside0.mk ((by rw [hg]; exact Nat.ne_of_lt (blk_lt (g := gb166) (o := .cells #[.int .i64 t163, .int .i64 t164] 24 (0, 0)) (by (with_reducible repeat (first | refine blk_drewN ?_ _ | refine blk_drew ?_ | refine blk_alloc ?_ _)); exact BK166.out)) : gb166 ≠ gb170)); have n7_ := Aside0.mk ((by rw [hg]; exact Nat.ne_of_gt (blk_lt (g := gb166) (o := .cells #[.int .i64 t163, .int .i64 t164] 24 (0, 0)) (by (with_reducible repeat (first | refine blk_drewN ?_ _ | refine blk_drew ?_ | refine blk_alloc ?_ _)); exact BK166.out)) : gb170 ≠ gb166)); clear HO162; clear BK166; clear HB; have HO162 := n0_; have BK166 := n1_; have HB := n2_; have BK170 := n3_; have GW170 := n4_; have GE170 := n5_; have NB166_170 := n6_; have NB170_166 := n7_; clear n0_ n1_ n2_ n3_ n4_ n5_ n6_ n7_; clear hb hbox hg; have hnb38 := NB170_166.out; have hnc38 := NB166_170.out; have hcz39_0 : w37.cell? ⟨gb170, 0, none⟩ = some (.int .i64 0) := (blk_cell BK170.out 0).trans rfl; have hcz39_1 : w37.cell? ⟨gb170, 1, none⟩ = some (.int .i64 0) := (blk_cell BK170.out 1).trans rfl; have hfz39_0 := blk_frozen BK170.out 0; have hfz39_1 := blk_frozen BK170.out 1) | ((with_reducible refine gate_callee (f := 12) rfl ?_); refine goesL_ (some 30) rfl rfl Try.func12 (by kernel_rfl) rfl #[.slice Ao32 y160.length co32, .agg #[.int .i64 2, .int .i64 0]] rfl (by (try simp only [List.map_toArray, List.map_cons, List.map_nil]); first | done | rfl | (simp only [List.length_drop, List.length_take]; rfl)) ?_; (with_reducible refine (view_Index.calls k _ _ y160 2 0 t171 t172 _ ?side1 ?side2 A6.out).mono ?_); (case side1 => refine (Kd.N_reads' (e := 44) (base := w.heap.size) (ok := fun k_ => ((True ∧ k_ ≠ gb166) ∧ k_ ≠ gb170)) (n := y160.length) (c := co32) ?_).2.2; exact (by (with_reducible repeat (first | apply Kd.N_alloc | apply Kd.N_drewN | apply Kd.N_drew)); exact (Kd.N_mono (Kd.N_far (p := ⟨gb170, 1, none⟩) (Kd.N_far (p := ⟨gb170, 0, none⟩) (Kd.N_mono HO162.out (fun k_ hk => (⟨hk, hk.2⟩ : _ ∧ k_ ≠ gb170))) (fun _ hk => hk.2) (.int .i64 t167)) (fun _ hk => hk.2) (.int .i64 t168)) (fun _ h_ => h_.1)))); (case side2 => exact (Kd.N_reads' HO162.out).2.1); rintro e w40 ⟨rfl, hb⟩; refine ⟨_, rfl, ?_⟩; have n0_ := Aside0.mk (Kd.N_below (by (with_reducible repeat (first | apply Kd.N_alloc | apply Kd.N_drewN | apply Kd.N_drew)); exact (Kd.N_mono (Kd.N_far (p := ⟨gb170, 1, none⟩) (Kd.N_far (p := ⟨gb170, 0, none⟩) (Kd.N_mono HO162.out (fun k_ hk => (⟨hk, hk.2⟩ : _ ∧ k_ ≠ gb170))) (fun _ hk => hk.2) (.int .i64 t167)) (fun _ hk => hk.2) (.int .i64 t168)) (fun _ h_ => h_.1))) hb); have n1_ := Aside0.mk (blk_below (g := gb166) (o := .cells #[.int .i64 t163, .int .i64 t164] 24 (0, 0)) (by (with_reducible repeat (first | refine blk_drewN ?_ _ | refine blk_drew ?_ | refine blk_alloc ?_ _)); refine blk_far ?_ NB166_170.out _; (with_reducible repeat (first | refine blk_drewN ?_ _ | refine blk_drew ?_ | refine blk_alloc ?_ _)); refine blk_far ?_ NB166_170.out _; (with_reducible repeat (first | refine blk_drewN ?_ _ | refine blk_drew ?_ | refine blk_alloc ?_ _)); exact BK166.out) hb); have n2_ := Aside0.mk (blk_below (g := gb170) (o := .cells #[.int .i64 t167, .int .i64 t168] 24 (0, 0)) (by (with_reducible repeat (first | refine blk_drewN ?_ _ | refine blk_drew ?_ | refine blk_alloc ?_ _)); refine blk_put (cs := #[.int .i64 t167, .int .i64 0]) ?_ 1 _ rfl; (with_reducible repeat (first | refine blk_drewN ?_ _ | refine blk_drew ?_ | refine blk_alloc ?_ _)); refine blk_put (cs := #[.int .i64 0, .int .i64 0]) ?_ 0 _ rfl; (with_reducible repeat (first | refine blk_drewN ?_ _ | refine blk_drew ?_ | refine blk_alloc ?_ _)); exact BK170.out) hb); have n3_ := Aside0.mk (below_step (by repeat (first | (with_reducible first | exact HB.out | apply below_alloc | apply pw_below_drewN | apply below_drew1 | refine below_set ?_ GE166.out | refine below_set ?_ GE170.out) | exact HB.out)) hb); clear HO162; clear BK166; clear BK170; clear HB; have HO162 := n0_; have BK166 := n1_; have BK170 := n2_; have HB := n3_; clear n0_ n1_ n2_ n3_; (try clear hb); (try clear hb2); (try clear hk); (try clear hi)) | ((with_reducible refine gate_callee (f := 12) rfl ?_); refine goesL_ (some 36) rfl rfl Try.func12 (by kernel_rfl) rfl #[.slice Ao32 y160.length co32, .agg #[.int .i64 9, .int .i64 0]] rfl (by (try simp only [List.map_toArray, List.map_cons, List.map_nil]); first | done | rfl | (simp only [List.length_drop, List.length_take]; rfl)) ?_; (with_reducible refine (view_Index.calls k _ _ y160 9 0 t173 t174 _ ?side1 ?side2 A7.out).mono ?_); (case side1 => repeat (first | exact (Kd.N_reads' HO162.out).2.2 | (with_reducible refine Kd.C_alloc ?_ _) | (with_reducible refine Kd.C_drewN ?_ _) | (with_reducible refine Kd.C_drew ?_))); (case side2 => exact (Kd.N_reads' HO162.out).2.1); rintro e w41 ⟨rfl, hb⟩; refine ⟨_, rfl, ?_⟩; have n0_ := Aside0.mk (Kd.N_below (by (with_reducible repeat (first | apply Kd.N_alloc | apply Kd.N_drewN | apply Kd.N_drew)); exact HO162.out) hb); have n1_ := Aside0.mk (blk_below (g := gb166) (o := .cells #[.int .i64 t163, .int .i64 t164] 24 (0, 0)) (by (with_reducible repeat (first | refine blk_drewN ?_ _ | refine blk_drew ?_ | refine blk_alloc ?_ _)); exact BK166.out) hb); have n2_ := Aside0.mk (blk_below (g := gb170) (o := .cells #[.int .i64 t167, .int .i64 t168] 24 (0, 0)) (by (with_reducible repeat (first | refine blk_drewN ?_ _ | refine blk_drew ?_ | refine blk_alloc ?_ _)); exact BK170.out) hb); have n3_ := Aside0.mk (below_step (by repeat (first | (with_reducible first | exact HB.out | apply below_alloc | apply pw_below_drewN | apply below_drew1 | refine below_set ?_ GE166.out | refine below_set ?_ GE170.out) | exact HB.out)) hb); clear HO162; clear BK166; clear BK170; clear HB; have HO162 := n0_; have BK166 := n1_; have BK170 := n2_; have HB := n3_; clear n0_ n1_ n2_ n3_; (try clear hb); (try clear hb2); (try clear hk); (try clear hi)) | ((with_reducible refine gate_callee (f := 14) rfl ?_); refine goesL_ (some 41) rfl rfl Try.func14 (by kernel_rfl) rfl #[.slice Ao32 y160.length co32, .int .i64 0, .int .i64 2] rfl (by (try simp only [List.map_toArray, List.map_cons, List.map_nil]); first | done | rfl | (simp only [List.length_drop, List.length_take]; rfl)) ?_; (with_reducible refine (view_Range.calls k _ _ y160 0 2 t175 t176 _ ?side1 ?side2 A8.out).mono ?_); (case side1 => repeat (first | exact (Kd.N_reads' HO162.out).2.2 | (with_reducible refine Kd.C_alloc ?_ _) | (with_reducible refine Kd.C_drewN ?_ _) | (with_reducible refine Kd.C_drew ?_))); (case side2 => exact (Kd.N_reads' HO162.out).2.1); rintro e w42 ⟨v177, rfl, ho0, hb⟩; refine ⟨_, rfl, ?_⟩; have n0_ := Aside0.mk (Kd.N_elder' (by (with_reducible repeat (first | apply Kd.N_alloc | apply Kd.N_drewN | apply Kd.N_drew)); exact HO162.out) (Kd.R_base ho0) hb); have n1_ := Aside0.mk (Kd.R_lower (Kd.R_newB (Kd.R_newB ho0 (g := gb166) (o := .cells #[.int .i64 t163, .int .i64 t164] 24 (0, 0)) (by (with_reducible repeat (first | refine blk_drewN ?_ _ | refine blk_drew ?_ | refine blk_alloc ?_ _)); exact BK166.out)) (g := gb170) (o := .cells #[.int .i64 t167, .int .i64 t168] 24 (0, 0)) (by (with_reducible repeat (first | refine blk_drewN ?_ _ | refine blk_drew ?_ | refine blk_alloc ?_ _)); exact BK170.out)) (below_size (by repeat (first | (with_reducible first | exact HB.out | apply below_alloc | apply pw_below_drewN | apply below_drew1 | refine below_set ?_ GE166.out | refine below_set ?_ GE170.out) | exact HB.out)))); have n2_ := Aside0.mk (blk_below (g := gb166) (o := .cells #[.int .i64 t163, .int .i64 t164] 24 (0, 0)) (by (with_reducible repeat (first | refine blk_drewN ?_ _ | refine blk_drew ?_ | refine blk_alloc ?_ _)); exact BK166.out) hb); have n3_ := Aside0.mk (blk_below (g := gb170) (o := .cells #[.int .i64 t167, .int .i64 t168] 24 (0, 0)) (by (with_reducible repeat (first | refine blk_drewN ?_ _ | refine blk_drew ?_ | refine blk_alloc ?_ _)); exact BK170.out) hb); have n4_ := Aside0.mk (below_step (by repeat (first | (with_reducible first | exact HB.out | apply below_alloc | apply pw_below_drewN | apply below_drew1 | refine below_set ?_ GE166.out | refine below_set ?_ GE170.out) | exact HB.out)) hb); clear HO162; clear BK166; clear BK170; clear HB; have HO162 := n0_; have HO178 := n1_; have BK166 := n2_; have BK170 := n3_; have HB := n4_; clear n0_ n1_ n2_ n3_ n4_; (try clear hb); (try clear hb2); (try clear hk); (try clear hi); (try clear ho0)) | ((with_reducible refine gate_callee (f := 19) rfl ?_); refine goesL_ (some 45) rfl rfl Try.func19 (by kernel_rfl) rfl #[.slice Ao32 y160.length co32] rfl (by (try simp only [List.map_toArray, List.map_cons, List.map_nil]); first | done | rfl | (simp only [List.length_drop, List.length_take]; rfl)) ?_; (with_reducible refine (view_Text.calls _ _ y160 t179 _ ?side1 ?side2 A9.out).mono ?_); (case side1 => repeat (first | exact (Kd.N_reads' HO162.out).2.2 | (with_reducible refine Kd.C_alloc ?_ _) | (with_reducible refine Kd.C_drewN ?_ _) | (with_reducible refine Kd.C_drew ?_))); (case side2 => exact (Kd.N_reads' HO162.out).2.1); rintro e w43 ⟨rfl, hb⟩; refine ⟨_, rfl, ?_⟩; have n0_ := Aside0.mk (Kd.N_below (by (with_reducible repeat (first | apply Kd.N_alloc | apply Kd.N_drewN | apply Kd.N_drew)); exact HO162.out) hb); have n1_ := Aside0.mk (Kd.R_below (by (with_reducible repeat (first | apply Kd.R_alloc | apply Kd.R_drewN | apply Kd.R_drew)); exact HO178.out) hb); have n2_ := Aside0.mk (blk_below (g := gb166) (o := .cells #[.int .i64 t163, .int .i64 t164] 24 (0, 0)) (by (with_reducible repeat (first | refine blk_drewN ?_ _ | refine blk_drew ?_ | refine blk_alloc ?_ _)); exact BK166.out) hb); have n3_ := Aside0.mk (blk_below (g := gb170) (o := .cells #[.int .i64 t167, .int .i64 t168] 24 (0, 0)) (by (with_reducible repeat (first | refine blk_drewN ?_ _ | refine blk_drew ?_ | refine blk_alloc ?_ _)); exact BK170.out) hb); have n4_ := Aside0.mk (below_step (by repeat (first | (with_reducible first | exact HB.out | apply below_alloc | apply pw_below_drewN | apply below_drew1 | refine below_set ?_ GE166.out | refine below_set ?_ GE170.out) | exact HB.out)) hb); clear HO162; clear HO178; clear BK166; clear BK170; clear HB; have HO162 := n0_; have HO178 := n1_; have BK166 := n2_; have BK170 := n3_; have HB := n4_; clear n0_ n1_ n2_ n3_ n4_; (try clear hb); (try clear hb2); (try clear hk); (try clear hi)) | (go_at_call 17; (with_reducible refine (view_Seen.calls _ _ y160 t180 _ ?side1 ?side2 A11.out).mono ?_); (case side1 => repeat (first | exact (Kd.N_reads' HO162.out).2.2 | (with_reducible refine Kd.C_alloc ?_ _) | (with_reducible refine Kd.C_drewN ?_ _) | (with_reducible refine Kd.C_drew ?_))); (case side2 => exact (Kd.N_reads' HO162.out).2.1); rintro e w44 ⟨v181, rfl, ho0, hb⟩; have n0_ := Aside0.mk (Kd.N_elder' (by (with_reducible repeat (first | apply Kd.N_alloc | apply Kd.N_drewN | apply Kd.N_drew)); exact HO162.out) (Kd.R_base ho0) hb); have n1_ := Aside0.mk (Kd.R_below (by (with_reducible repeat (first | apply Kd.R_alloc | apply Kd.R_drewN | apply Kd.R_drew)); exact HO178.out) hb); have n2_ := Aside0.mk (Kd.R_lower ho0 (below_size (by repeat (first | (with_reducible first | exact HB.out | apply below_alloc | apply pw_below_drewN | apply below_drew1 | refine below_set ?_ GE166.out | refine below_set ?_ GE170.out) | exact HB.out)))); have n3_ := Aside0.mk (blk_below (g := gb166) (o := .cells #[.int .i64 t163, .int .i64 t164] 24 (0, 0)) (by (with_reducible repeat (first | refine blk_drewN ?_ _ | refine blk_drew ?_ | refine blk_alloc ?_ _)); exact BK166.out) hb); have n4_ := Aside0.mk (blk_below (g := gb170) (o := .cells #[.int .i64 t167, .int .i64 t168] 24 (0, 0)) (by (with_reducible repeat (first | refine blk_drewN ?_ _ | refine blk_drew ?_ | refine blk_alloc ?_ _)); exact BK170.out) hb); have n5_ := Aside0.mk (below_step (by repeat (first | (with_reducible first | exact HB.out | apply below_alloc | apply pw_below_drewN | apply below_drew1 | refine below_set ?_ GE166.out | refine below_set ?_ GE170.out) | exact HB.out)) hb); clear HO162; clear HO178; clear BK166; clear BK170; clear HB; have HO162 := n0_; have HO178 := n1_; have HO182 := n2_; have BK166 := n3_; have BK170 := n4_; have HB := n5_; clear n0_ n1_ n2_ n3_ n4_ n5_; (try clear hb); (try clear hb2); (try clear hk); (try clear hi); (try clear ho0)) | ((with_reducible refine gate_dst (N := 50) rfl ?_); (try (refine gate_guard (by rfl) ?_; dsimp only)); refine Kd.R_lit (Kd.int .i64) _ 3 ?hg (N := 50) ?hd (xs := ([0, 2] : List Int)) (inner := [.int .i64 0, .int .i64 2]) (ok := fun _ => True) (okp := fun _ => True) ?hr ?hp (fun _ hk => hk) trivial (Below.refl _ _) (Nat.le_refl _) (by simp) ?_; (case hd => rfl); (case hg => rfl); (case hr => first | (go_simp; done) | (go_simp; rfl)); (case hp => exact (Reps.one (show Kd.M (Kd.int .i64) _ _ _ 0 [.int .i64 0] from rfl) (Reps.one (show Kd.M (Kd.int .i64) _ _ _ 2 [.int .i64 2] from rfl) (Reps.none _ _)))); intro v184 w45 ho46 hb hg_ hnew_; clear hg_ hnew_; (first | rw [← Ny183.out] at ho46 | (simp only [Int.reduceToNat] at ho46; rw [← Ny183.out] at ho46)); have n0_ := Aside0.mk (Kd.N_elder' (by (with_reducible repeat (first | apply Kd.N_alloc | apply Kd.N_drewN | apply Kd.N_drew)); exact HO162.out) (Kd.R_base ho46) hb); have n1_ := Aside0.mk (Kd.R_below (by (with_reducible repeat (first | apply Kd.R_alloc | apply Kd.R_drewN | apply Kd.R_drew)); exact HO178.out) hb); have n2_ := Aside0.mk (Kd.R_elder' (by (with_reducible repeat (first | apply Kd.R_alloc | apply Kd.R_drewN | apply Kd.R_drew)); exact HO182.out) (Kd.R_base ho46) hb); have n3_ := Aside0.mk (Kd.R_lower (Kd.R_new' ho46 (Kd.R_lt (by (with_reducible repeat (first | apply Kd.R_alloc | apply Kd.R_drewN | apply Kd.R_drew)); exact HO182.out))) (below_size (by repeat (first | (with_reducible first | exact HB.out | apply below_alloc | apply pw_below_drewN | apply below_drew1 | refine below_set ?_ GE166.out | refine below_set ?_ GE170.out) | exact HB.out)))); have n4_ := Aside0.mk (blk_below (g := gb166) (o := .cells #[.int .i64 t163, .int .i64 t164] 24 (0, 0)) (by (with_reducible repeat (first | refine blk_drewN ?_ _ | refine blk_drew ?_ | refine blk_alloc ?_ _)); exact BK166.out) hb); have n5_ := Aside0.mk (blk_below (g := gb170) (o := .cells #[.int .i64 t167, .int .i64 t168] 24 (0, 0)) (by (with_reducible repeat (first | refine blk_drewN ?_ _ | refine blk_drew ?_ | refine blk_alloc ?_ _)); exact BK170.out) hb); have n6_ := Aside0.mk (below_step (by repeat (first | (with_reducible first | exact HB.out | apply below_alloc | apply pw_below_drewN | apply below_drew1 | refine below_set ?_ GE166.out | refine below_set ?_ GE170.out) | exact HB.out)) hb); clear HO162; clear HO178; clear HO182; clear BK166; clear BK170; clear HB; have HO162 := n0_; have HO178 := n1_; have HO182 := n2_; have HO185 := n3_; have BK166 := n4_; have BK170 := n5_; have HB := n6_; clear n0_ n1_ n2_ n3_ n4_ n5_ n6_; clear hb ho46; obtain ⟨Ao47, co47, eo47⟩ := Kd.R_slice HO182.out; subst eo47; obtain ⟨Ao48, co48, eo48⟩ := Kd.R_slice HO185.out; subst eo48) | (go_at_call 16; (with_reducible refine (duetref01_Same.calls k _ _ t180 _ _ y183 true _ ?side1 ?side2 ?side3 ?side4 A12.out).mono ?_); (case side1 => repeat (first | exact (Kd.R_reads' HO182.out).2.2 | (with_reducible refine Kd.C_alloc ?_ _) | (with_reducible refine Kd.C_drewN ?_ _) | (with_reducible refine Kd.C_drew ?_))); (case side2 => exact (Kd.R_reads' HO182.out).2.1); (case side3 => repeat (first | exact (Kd.R_reads' HO185.out).2.2 | (with_reducible refine Kd.C_alloc ?_ _) | (with_reducible refine Kd.C_drewN ?_ _) | (with_reducible refine Kd.C_drew ?_))); (case side4 => exact (Kd.R_reads' HO185.out).2.1); rintro e w' ⟨rfl, ⟨nd, rfl⟩⟩; have hcz49_0 : w45.cell? ⟨gb166, 0, none⟩ = some (.int .i64 t163) := (blk_cell BK166.out 0).trans rfl; have hcz49_1 : w45.cell? ⟨gb166, 1, none⟩ = some (.int .i64 t164) := (blk_cell BK166.out 1).trans rfl; have hfz49_0 := blk_frozen BK166.out 0; have hfz49_1 := blk_frozen BK166.out 1; obtain ⟨Ao50, co50, eo50⟩ := Kd.R_slice HO178.out; subst eo50))
                    go_ret
                    exact ⟨by first | rfl | (simp [errW_none, errW_some] <;> rfl) | (simp [*, errW_none, errW_some] <;> rfl), by repeat (first | (with_reducible first | exact HB.out | apply below_alloc | apply pw_below_drewN | apply below_drew1 | refine below_set ?_ GE166.out | refine below_set ?_ GE170.out) | exact HB.out)⟩
                  · rw [if_neg c20] at H
                    have c20b0 : ((t175.length : Int) == 2) = false := beq_eq_false_iff_ne.mpr c20
                    have c20b1 : ((t175.length : Int) != 2) = true := bne_iff_ne.mpr c20
                    exact absurd (Option.some.inj H) (by rw [hr_.out]; decide)
                · rw [if_neg c19] at H
                  have c19b0 : (t174 == 6) = false := beq_eq_false_iff_ne.mpr c19
                  have c19b1 : (t174 != 6) = true := bne_iff_ne.mpr c19
                  exact absurd (Option.some.inj H) (by rw [hr_.out]; decide)
              · rw [if_neg c18] at H
                have c18b0 : (t172 == 0) = false := beq_eq_false_iff_ne.mpr c18
                have c18b1 : (t172 != 0) = true := bne_iff_ne.mpr c18
                exact absurd (Option.some.inj H) (by rw [hr_.out]; decide)
            · rw [if_neg c17] at H
              have c17b0 : (t171 == 1) = false := beq_eq_false_iff_ne.mpr c17
              have c17b1 : (t171 != 1) = true := bne_iff_ne.mpr c17
              exact absurd (Option.some.inj H) (by rw [hr_.out]; decide)
          · rw [if_neg c16] at H
            have c16b0 : (t169 == 1) = false := beq_eq_false_iff_ne.mpr c16
            have c16b1 : (t169 != 1) = true := bne_iff_ne.mpr c16
            exact absurd (Option.some.inj H) (by rw [hr_.out]; decide)
        · rw [if_neg c15] at H
          have c15b0 : (t165 == 0) = false := beq_eq_false_iff_ne.mpr c15
          have c15b1 : (t165 != 0) = true := bne_iff_ne.mpr c15
          exact absurd (Option.some.inj H) (by rw [hr_.out]; decide)
      · rw [if_neg c14] at H
        have c14b0 : (t163 == 3 && (t164 == 0)) = false := by simpa using c14
        (try (have c14b1 : decide (t163 = 3 && (t164 == 0)) = false := by simpa using c14))
        (try (have c14b2 : (t163 == 3 && (t164 == 0)) = false := by simpa using c14))
        (try (have c14b3 : ¬ (t163 = 3 && (t164 == 0)) := by simpa using c14))
        clear c14
        exact absurd (Option.some.inj H) (by rw [hr_.out]; decide)
    · replace c13 := Bool.eq_false_iff.mpr c13
      subst c13
      have H1 : (some false) = some r := by rw [if_neg (show ¬ (false = true) by decide)] at H; exact H
      clear H
      have H := H1
      clear H1
      exact absurd (Option.some.inj H) (by rw [hr_.out]; decide)
  · rw [if_neg c10] at H
    have c10b0 : (t179.toList == ([97, 226, 130, 172] : List UInt8)) = false := beq_eq_false_iff_ne.mpr c10
    have c10b1 : (t179.toList != ([97, 226, 130, 172] : List UInt8)) = true := bne_iff_ne.mpr c10
    exact absurd (Option.some.inj H) (by rw [hr_.out]; decide)

/-! ### duetref12_Seen: function 18 -/
def duetref12_Seen.l0 : Nat → List (S44) → List Int → Int → Option (List Int)
  | 0, _, _, _ => none
  | k + 1, x0, x3, x4 => if x4 < (x0.length : Int) then (if 0 ≤ x4 then (if (((rd_T44 x0 x4).f3).length : Int) = 0 then (if x3.length < 17592186044416 then (duetref12_Seen.l0 k x0 (x3 ++ [x4]) (wrap64 (x4 + 1))) else (none)) else (duetref12_Seen.l0 k x0 x3 (wrap64 (x4 + 1)))) else (none)) else (some x3)
def duetref12_Seen.f (k : Nat) (l0 : List (S44)) : Option (List Int) := duetref12_Seen.l0 k l0 ([] : List Int) 0
theorem duetref12_Seen.mono_l : ∀ k, (∀ y0 y1 y2, LeO (duetref12_Seen.l0 k y0 y1 y2) (duetref12_Seen.l0 (k + 1) y0 y1 y2))
  | 0 => fun _ _ _ r h => by simp [duetref12_Seen.l0] at h
  | k + 1 => by
    have ih0 := duetref12_Seen.mono_l k
    · intro y0 y1 y2
      unfold duetref12_Seen.l0
      repeat' first
      | (with_reducible exact ih0 _ _ _)
      | (with_reducible exact LeO.refl _)
      | (with_reducible exact LeO.none _)
      | (with_reducible refine LeO.ite ?_ ?_)
      | (with_reducible refine LeO.bind ?_ (fun _ => ?_))
      | exact ih0 _ _ _
      | exact LeO.none _
      | refine LeO.ite ?_ ?_
      | refine LeO.bind ?_ (fun _ => ?_)
theorem duetref12_Seen.mono : ∀ a0 k, LeO (duetref12_Seen.f k a0) (duetref12_Seen.f (k + 1) a0) := by
  intro a0 k
  have ih0 := duetref12_Seen.mono_l k
  unfold duetref12_Seen.f
  repeat' first
      | (with_reducible exact ih0 _ _ _)
      | (with_reducible exact LeO.refl _)
      | (with_reducible exact LeO.none _)
      | (with_reducible refine LeO.ite ?_ ?_)
      | (with_reducible refine LeO.bind ?_ (fun _ => ?_))
      | exact ih0 _ _ _
      | exact LeO.none _
      | refine LeO.ite ?_ ?_
      | refine LeO.bind ?_ (fun _ => ?_)
set_option maxHeartbeats 8000000 in
set_option maxRecDepth 100000 in
theorem duetref12_Seen.calls (k : Nat) (A0 : Option Addr) (c0 : Nat) (l0 : List (S44)) (r : List Int) (w : World) (hr0 : Kd.C k44 w A0 l0.length l0) (hc0 : l0.length ≤ c0) (h : duetref12_Seen.f k l0 = some r) :
    Calls Try.prog 18 #[.slice A0 l0.length c0] w fun e w' => ∃ v0_ : Value, e = .returned (v0_) ∧ Kd.R (Kd.int .i64) 3 w' w.heap.size (fun _ => True) v0_ r ∧ Below w.heap.size w w' := by
  have HR0 := Aside0.mk hr0
  have HC0 := Aside0.mk hc0
  clear hr0 hc0
  have HB := Aside0.mk (Below.refl w.heap.size w)
  have H : (duetref12_Seen.l0 k l0 ([] : List Int) 0) = some r := h
  clear h
  have H' := Aside0.mk H
  clear H
  go_enter Try.func18, Try.ntmps18
  go_wp2
  go_loopg [3, 4] k (fun kq v3 v4 w' => ∃ (x3_1 : List Int) (x4_1 : Int), v4 = .int .i64 x4_1 ∧ Aside0 (duetref12_Seen.l0 kq l0 x3_1 x4_1 = some r) ∧ Aside0 (kq ≤ k) ∧ Aside0 (Kd.R (Kd.int .i64) 3 w' w.heap.size (fun _ => True) v3 x3_1) ∧ Aside0 (Below w.heap.size w w'))
  case atStart => exact ⟨(([] : List Int)), (0), (by first | rfl | (simp; done) | (simp [*]; done)), H', ⟨Nat.le_refl _⟩, ⟨by first | exact Kd.R_nil _ _ _ _ _ | exact Kd.N_nil _ _ _ _ _ | exact Kd.V_nil _ _ _ _ _ | exact Kd.Q_nil _ _ _ _ _ | exact Kd.S_nil _ _ _ _ _⟩, ⟨by repeat (first | (with_reducible first | exact HB.out | apply below_alloc | apply pw_below_drewN | apply below_drew1) | exact HB.out)⟩⟩
  case round =>
    clear H'
    try clear c1
    obtain ⟨x3_1, x4_1, rfl, HA, HK1, HO_3, HB⟩ := hrel
    cases gk with
    | zero => exact absurd HA.out (by simp [duetref12_Seen.l0])
    | succ k1 =>
      have H := HA.out
      clear HA
      simp only [duetref12_Seen.l0] at H
      by_cases c2 : x4_1 < (l0.length : Int)
      · rw [if_pos c2] at H
        have c2b0 : decide (x4_1 < (l0.length : Int)) = true := decide_eq_true c2
        clear c2
        by_cases c3 : 0 ≤ x4_1
        · rw [if_pos c3] at H
          have c3b0 : decide (0 ≤ x4_1) = true := decide_eq_true c3
          clear c3
          by_cases c4 : (((rd_T44 l0 x4_1).f3).length : Int) = 0
          · rw [if_pos c4] at H
            have c4b0 : ((((rd_T44 l0 x4_1).f3).length : Int) == 0) = true := beq_iff_eq.mpr c4
            have c4b1 : ((((rd_T44 l0 x4_1).f3).length : Int) != 0) = false := bne_eq_false_iff_eq.mpr c4
            clear c4
            by_cases c5 : x3_1.length < 17592186044416
            · rw [if_pos c5] at H
              have LMc5 := Aside0.mk c5
              clear c5
              obtain ⟨y188, hy188⟩ : ∃ y_ : List Int, y_ = (x3_1 ++ [x4_1]) := ⟨_, rfl⟩
              replace H : (duetref12_Seen.l0 k1 l0 y188 (wrap64 (x4_1 + 1))) = some r := by first | (rw [hy188]; with_reducible exact H) | (have H2_ := (Option.bind_some _ _).symm.trans H; rw [hy188]; with_reducible exact H2_) | (have H2_ := (Option.bind_some _ _).symm.trans H; with_reducible exact H2_) | with_reducible exact H | (rw [hy188]; exact H) | exact H
              have Ny188 := Aside0.mk hy188
              clear hy188
              have H' := Aside0.mk H
              clear H
              have p187 : 0 ≤ (x4_1 : Int) := of_decide_eq_true (by first | (with_reducible assumption) | assumption)
              have q187 : x4_1 < (l0.length : Int) := of_decide_eq_true (by first | (with_reducible assumption) | assumption)
              obtain ⟨ad187, A187_5, c187_5, e187, hx187_0, hx187_1, hx187_2, hx187_3, hx187_4, hx187_5, hl187_5, hi187_5⟩ := at_T44 HR0.out x4_1 p187 q187
              cases e187
              (try replace hx187_0 := (HB.out.cell (World.block_lt_of_cell? w _ hx187_0)).trans hx187_0)
              (try replace hx187_1 := (HB.out.cell (World.block_lt_of_cell? w _ hx187_1)).trans hx187_1)
              (try replace hx187_2 := (HB.out.cell (World.block_lt_of_cell? w _ hx187_2)).trans hx187_2)
              (try replace hx187_3 := (HB.out.cell (World.block_lt_of_cell? w _ hx187_3)).trans hx187_3)
              (try replace hx187_4 := (HB.out.cell (World.block_lt_of_cell? w _ hx187_4)).trans hx187_4)
              (try replace hx187_5 := (HB.out.cell (World.block_lt_of_cell? w _ hx187_5)).trans hx187_5)
              have HR187_5 := Aside0.mk hi187_5
              have HC187_5 := Aside0.mk hl187_5
              clear hi187_5 hl187_5
              replace p187 := eq_true p187
              replace q187 := eq_true q187
              go_wp2_with (first | ((with_reducible refine gate_builtin (b := .append) (xs := #[.tmp 18, .tmp 20]) rfl ?_); at_builtin; refine Kd.R_append (Kd.int .i64) (w0 := w) w.heap.size rfl (.tmp 18) (.tmp 20) 38 3 (.int .i64 0) 8 rfl Try.underlying38 info3 rfl (by decide) (by omega) u3 x3_1 x4_1 [.int .i64 x4_1] (fun _ => True) (fun _ => False) rfl rfl ?aP (fun _ hk => hk.elim) ?aF ?aO ?aB ?aS ?aL ?_; (case aP => exact rfl); (case aB => exact (by repeat (first | (with_reducible first | exact HB.out | apply below_alloc | apply pw_below_drewN | apply below_drew1) | exact HB.out))); (case aF => exact (fun _ _ => trivial)); (case aO => exact (by (with_reducible repeat (first | apply Kd.R_alloc | apply Kd.R_drewN | apply Kd.R_drew)); exact HO_3.out)); (case aS => exact (below_size (by repeat (first | (with_reducible first | exact HB.out | apply below_alloc | apply pw_below_drewN | apply below_drew1) | exact HB.out)))); (case aL => have := LMc5.out; omega); intro v189 w6 ho hb hg hat; rw [← Ny188.out] at ho; have n0_ := Aside0.mk (hb); have n1_ := Aside0.mk (ho); clear HB; clear HO_3; have HB := n0_; have HO190 := n1_; clear n0_ n1_; clear ho hb hg hat))
              go_roundg k1
              case measure => have := HK1.out; omega
              case rel => exact ⟨(y188), (wrap64 (x4_1 + 1)), (by first | rfl | (simp; done) | (simp [*]; done)), H', ⟨by have := HK1.out; omega⟩, ⟨by (with_reducible repeat (first | apply Kd.R_alloc | apply Kd.R_drewN | apply Kd.R_drew)); exact HO190.out⟩, ⟨by repeat (first | (with_reducible first | exact HB.out | apply below_alloc | apply pw_below_drewN | apply below_drew1) | exact HB.out)⟩⟩
            · rw [if_neg c5] at H
              exact absurd H (by simp)
          · rw [if_neg c4] at H
            have c4b0 : ((((rd_T44 l0 x4_1).f3).length : Int) == 0) = false := beq_eq_false_iff_ne.mpr c4
            have c4b1 : ((((rd_T44 l0 x4_1).f3).length : Int) != 0) = true := bne_iff_ne.mpr c4
            have c4b2 : ¬ (((rd_T44 l0 x4_1).f3) = []) := fun h_ => c4 (by rw [h_]; rfl)
            have H' := Aside0.mk H
            clear H
            have p187 : 0 ≤ (x4_1 : Int) := of_decide_eq_true (by first | (with_reducible assumption) | assumption)
            have q187 : x4_1 < (l0.length : Int) := of_decide_eq_true (by first | (with_reducible assumption) | assumption)
            obtain ⟨ad187, A187_5, c187_5, e187, hx187_0, hx187_1, hx187_2, hx187_3, hx187_4, hx187_5, hl187_5, hi187_5⟩ := at_T44 HR0.out x4_1 p187 q187
            cases e187
            (try replace hx187_0 := (HB.out.cell (World.block_lt_of_cell? w _ hx187_0)).trans hx187_0)
            (try replace hx187_1 := (HB.out.cell (World.block_lt_of_cell? w _ hx187_1)).trans hx187_1)
            (try replace hx187_2 := (HB.out.cell (World.block_lt_of_cell? w _ hx187_2)).trans hx187_2)
            (try replace hx187_3 := (HB.out.cell (World.block_lt_of_cell? w _ hx187_3)).trans hx187_3)
            (try replace hx187_4 := (HB.out.cell (World.block_lt_of_cell? w _ hx187_4)).trans hx187_4)
            (try replace hx187_5 := (HB.out.cell (World.block_lt_of_cell? w _ hx187_5)).trans hx187_5)
            have HR187_5 := Aside0.mk hi187_5
            have HC187_5 := Aside0.mk hl187_5
            clear hi187_5 hl187_5
            replace p187 := eq_true p187
            replace q187 := eq_true q187
            go_wp2
            go_roundg k1
            case measure => have := HK1.out; omega
            case rel => exact ⟨(x3_1), (wrap64 (x4_1 + 1)), (by first | rfl | (simp; done) | (simp [*]; done)), H', ⟨by have := HK1.out; omega⟩, ⟨by (with_reducible repeat (first | apply Kd.R_alloc | apply Kd.R_drewN | apply Kd.R_drew)); exact HO_3.out⟩, ⟨by repeat (first | (with_reducible first | exact HB.out | apply below_alloc | apply pw_below_drewN | apply below_drew1) | exact HB.out)⟩⟩
        · rw [if_neg c3] at H
          exact absurd H (by simp)
      · rw [if_neg c2] at H
        have c2b0 : decide (x4_1 < (l0.length : Int)) = false := decide_eq_false c2
        clear c2
        obtain rfl := Option.some.inj H
        go_wp2
        go_ret
        exact ⟨_, by first | rfl | (simp [errW_none, errW_some] <;> rfl) | (simp [*, errW_none, errW_some] <;> rfl), by (with_reducible repeat (first | apply Kd.R_alloc | apply Kd.R_drewN | apply Kd.R_drew)); exact HO_3.out, by repeat (first | (with_reducible first | exact HB.out | apply below_alloc | apply pw_below_drewN | apply below_drew1) | exact HB.out)⟩

/-! ### duetref12_Ref: function 11 -/
def duetref12_Ref.j0 : Nat → List (S44) → Int → List Int → Bool → Option (Int × Int × Int)
  | 0, _, _, _, _ => none
  | k + 1, x0, x1, x6, x16 => if x16 = true then (some (0, 0, 1)) else (if x1 = 0 then (some (0, 0, 0)) else (if 0 ≤ (wrap64 (x1 - 1)) then (if (wrap64 (x1 - 1)) < (x6.length : Int) then (if 0 ≤ (rd x6 (wrap64 (x1 - 1))) then (if (rd x6 (wrap64 (x1 - 1))) < (x0.length : Int) then (some ((rd_T44 x0 (rd x6 (wrap64 (x1 - 1)))).f0.f0, (rd_T44 x0 (rd x6 (wrap64 (x1 - 1)))).f0.f1, 0)) else (none)) else (none)) else (none)) else (none)))
def duetref12_Ref.f (k : Nat) (l0 : List (S44)) (a1 : Int) : Option (Int × Int × Int) := (duetref12_Seen.f k l0).bind fun t192 => (if a1 < 0 then (duetref12_Ref.j0 k l0 a1 t192 true) else (duetref12_Ref.j0 k l0 a1 t192 (decide (a1 > (t192.length : Int)))))
theorem duetref12_Ref.mono_l : ∀ k, (∀ y0 y1 y2 y3, LeO (duetref12_Ref.j0 k y0 y1 y2 y3) (duetref12_Ref.j0 (k + 1) y0 y1 y2 y3))
  | 0 => fun _ _ _ _ r h => by simp [duetref12_Ref.j0] at h
  | k + 1 => by
    have ih0 := duetref12_Ref.mono_l k
    · intro y0 y1 y2 y3
      unfold duetref12_Ref.j0
      repeat' first
      | (with_reducible exact ih0 _ _ _ _)
      | (with_reducible exact duetref12_Seen.mono _ _)
      | (with_reducible exact LeO.refl _)
      | (with_reducible exact LeO.none _)
      | (with_reducible refine LeO.ite ?_ ?_)
      | (with_reducible refine LeO.bind ?_ (fun _ => ?_))
      | exact ih0 _ _ _ _
      | exact duetref12_Seen.mono _ _
      | exact LeO.none _
      | refine LeO.ite ?_ ?_
      | refine LeO.bind ?_ (fun _ => ?_)
theorem duetref12_Ref.mono : ∀ a0 a1 k, LeO (duetref12_Ref.f k a0 a1) (duetref12_Ref.f (k + 1) a0 a1) := by
  intro a0 a1 k
  have ih0 := duetref12_Ref.mono_l k
  unfold duetref12_Ref.f
  repeat' first
      | (with_reducible exact ih0 _ _ _ _)
      | (with_reducible exact duetref12_Seen.mono _ _)
      | (with_reducible exact LeO.refl _)
      | (with_reducible exact LeO.none _)
      | (with_reducible refine LeO.ite ?_ ?_)
      | (with_reducible refine LeO.bind ?_ (fun _ => ?_))
      | exact ih0 _ _ _ _
      | exact duetref12_Seen.mono _ _
      | exact LeO.none _
      | refine LeO.ite ?_ ?_
      | refine LeO.bind ?_ (fun _ => ?_)
set_option maxHeartbeats 8000000 in
set_option maxRecDepth 100000 in
theorem duetref12_Ref.calls (k : Nat) (A0 : Option Addr) (c0 : Nat) (l0 : List (S44)) (a1 : Int) (r1 : Int) (r2 : Int) (r3 : Int) (w : World) (hr0 : Kd.C k44 w A0 l0.length l0) (hc0 : l0.length ≤ c0) (h : duetref12_Ref.f k l0 a1 = some (r1, r2, r3)) :
    Calls Try.prog 11 #[.slice A0 l0.length c0, .int .i64 a1] w fun e w' => e = .returned (.tuple #[.agg #[.int .i64 r1, .int .i64 r2], .int .i64 r3]) ∧ Below w.heap.size w w' := by
  have hu24 := Try.underlying24
  have HR0 := Aside0.mk hr0
  have HC0 := Aside0.mk hc0
  clear hr0 hc0
  have HB := Aside0.mk (Below.refl w.heap.size w)
  have H : ((duetref12_Seen.f k l0).bind fun t192 => (if a1 < 0 then (duetref12_Ref.j0 k l0 a1 t192 true) else (duetref12_Ref.j0 k l0 a1 t192 (decide (a1 > (t192.length : Int)))))) = some (r1, r2, r3) := h
  clear h
  replace H := Option.bind_eq_some_iff.mp H
  obtain ⟨t192, A30, H⟩ := H
  replace H : (if a1 < 0 then (duetref12_Ref.j0 k l0 a1 t192 true) else (duetref12_Ref.j0 k l0 a1 t192 (decide (a1 > (t192.length : Int))))) = some (r1, r2, r3) := H
  have A3 := Aside0.mk A30
  clear A30
  have HC4 := Aside0.mk H
  clear H
  go_enter Try.func11, Try.ntmps11
  go_upto_region 2 with (first | ((with_reducible refine gate_dst (N := 4) rfl ?_); (try (refine gate_guard (by rfl) ?_; dsimp only)); refine box_event ?hg (N := 4) ?hd (cs := #[.int .i64 0, .int .i64 0]) (t := 24) ?hr ?_; (case hd => rfl); (case hg => rfl); (case hr => first | (go_simp; done) | (go_simp; rfl)); intro gb191 hg w5 hbox hb; have n0_ := Aside0.mk (below_step (by repeat (first | (with_reducible first | exact HB.out | apply below_alloc | apply pw_below_drewN | apply below_drew1) | exact HB.out)) hb); have n1_ := Aside0.mk (hbox); have n2_ := Aside0.mk ((by rw [hg]; exact (below_size (by repeat (first | (with_reducible first | exact HB.out | apply below_alloc | apply pw_below_drewN | apply below_drew1) | exact HB.out))) : w.heap.size ≤ gb191)); have n3_ := Aside0.mk ((by rw [hg]; exact (below_size (by repeat (first | (with_reducible first | exact HB.out | apply below_alloc | apply pw_below_drewN | apply below_drew1) | exact HB.out))) : w.heap.size ≤ gb191)); clear HB; have HB := n0_; have BK191 := n1_; have GW191 := n2_; have GE191 := n3_; clear n0_ n1_ n2_ n3_; clear hb hbox hg) | ((with_reducible refine gate_callee (f := 18) rfl ?_); refine goesL_ (some 8) rfl rfl Try.func18 (by kernel_rfl) rfl #[.slice A0 l0.length c0] rfl (by (try simp only [List.map_toArray, List.map_cons, List.map_nil]); first | done | rfl | (simp only [List.length_drop, List.length_take]; rfl)) ?_; (with_reducible refine (duetref12_Seen.calls k _ _ l0 t192 _ ?side1 ?side2 A3.out).mono ?_); (case side1 => repeat (first | exact (Kd.C_below HR0.out HB.out) | (with_reducible refine Kd.C_alloc ?_ _) | (with_reducible refine Kd.C_drewN ?_ _) | (with_reducible refine Kd.C_drew ?_))); (case side2 => exact HC0.out); rintro e w6 ⟨v193, rfl, ho0, hb⟩; refine ⟨_, rfl, ?_⟩; have n0_ := Aside0.mk (Kd.R_lower ho0 (below_size (by repeat (first | (with_reducible first | exact HB.out | apply below_alloc | apply pw_below_drewN | apply below_drew1 | refine below_set ?_ GE191.out) | exact HB.out)))); have n1_ := Aside0.mk (blk_below (g := gb191) (o := .cells #[.int .i64 0, .int .i64 0] 24 (0, 0)) (by (with_reducible repeat (first | refine blk_drewN ?_ _ | refine blk_drew ?_ | refine blk_alloc ?_ _)); exact BK191.out) hb); have n2_ := Aside0.mk (below_step (by repeat (first | (with_reducible first | exact HB.out | apply below_alloc | apply pw_below_drewN | apply below_drew1 | refine below_set ?_ GE191.out) | exact HB.out)) hb); clear BK191; clear HB; have HO194 := n0_; have BK191 := n1_; have HB := n2_; clear n0_ n1_ n2_; (try clear hb); (try clear hb2); (try clear hk); (try clear hi); (try clear ho0)))
  (try simp only [Act.put, List.setIfInBounds_toArray, List.set_cons_zero, List.set_cons_succ])
  go_cut [16] (fun v16 wc => ∃ (kq : Nat) (x16_3 : Bool), v16 = .bool x16_3 ∧ Aside0 (duetref12_Ref.j0 kq l0 a1 t192 x16_3 = some (r1, r2, r3)) ∧ Aside0 (kq ≤ k) ∧ Aside0 (Kd.R (Kd.int .i64) 3 wc w.heap.size (fun _ => True) v193 t192) ∧ Aside0 (wc.heap[gb191]? = some (.cells #[.int .i64 0, .int .i64 0] 24 (0, 0))) ∧ Aside0 (Below w.heap.size w wc))
  case first =>
    have H := HC4.out
    clear HC4
    by_cases c7 : a1 < 0
    · rw [if_pos c7] at H
      have c7b0 : decide (a1 < 0) = true := decide_eq_true c7
      clear c7
      (first | rw [c7b0] | (simp only [i64_w, i32_w]; rw [c7b0]) | skip)
      have H' := Aside0.mk H
      clear H
      go_wp2
      go_meet
      case rel => exact ⟨_, (true), (by first | rfl | (simp; done) | (simp [*]; done)), H', ⟨by first | omega | exact Nat.le_refl _⟩, ⟨by (with_reducible repeat (first | apply Kd.R_alloc | apply Kd.R_drewN | apply Kd.R_drew)); exact HO194.out⟩, ⟨by (with_reducible repeat (first | refine blk_drewN ?_ _ | refine blk_drew ?_ | refine blk_alloc ?_ _)); exact BK191.out⟩, ⟨by repeat (first | (with_reducible first | exact HB.out | apply below_alloc | apply pw_below_drewN | apply below_drew1 | refine below_set ?_ GE191.out) | exact HB.out)⟩⟩
    · rw [if_neg c7] at H
      have c7b0 : decide (a1 < 0) = false := decide_eq_false c7
      clear c7
      (first | rw [c7b0] | (simp only [i64_w, i32_w]; rw [c7b0]) | skip)
      have H' := Aside0.mk H
      clear H
      obtain ⟨Ao8, co8, eo8⟩ := Kd.R_slice HO194.out
      subst eo8
      go_wp2
      go_meet
      case rel => exact ⟨_, (decide (a1 > (t192.length : Int))), (by first | rfl | (simp; done) | (simp [*]; done)), H', ⟨by first | omega | exact Nat.le_refl _⟩, ⟨by (with_reducible repeat (first | apply Kd.R_alloc | apply Kd.R_drewN | apply Kd.R_drew)); exact HO194.out⟩, ⟨by (with_reducible repeat (first | refine blk_drewN ?_ _ | refine blk_drew ?_ | refine blk_alloc ?_ _)); exact BK191.out⟩, ⟨by repeat (first | (with_reducible first | exact HB.out | apply below_alloc | apply pw_below_drewN | apply below_drew1 | refine below_set ?_ GE191.out) | exact HB.out)⟩⟩
  case rest =>
    clear HC4
    try clear c1
    try clear p2
    try clear c7
    try clear c7b0
    obtain ⟨kq, x16_3, rfl, HA, HJ3, HO_6, BK191, HB⟩ := hcut
    cases kq with
    | zero => exact absurd HA.out (by simp [duetref12_Ref.j0])
    | succ kj3 =>
      have H := HA.out
      clear HA
      simp only [duetref12_Ref.j0] at H
      by_cases c9 : x16_3 = true
      · subst c9
        have H1 : (some (0, 0, 1)) = some (r1, r2, r3) := by rw [if_pos rfl] at H; exact H
        clear H
        have H := H1
        clear H1
        simp only [Option.some.injEq, Prod.mk.injEq] at H
        obtain ⟨rfl, rfl, rfl⟩ := H
        have hcz10_0 : wc.cell? ⟨gb191, 0, none⟩ = some (.int .i64 0) := (blk_cell BK191.out 0).trans rfl
        have hcz10_1 : wc.cell? ⟨gb191, 1, none⟩ = some (.int .i64 0) := (blk_cell BK191.out 1).trans rfl
        have hfz10_0 := blk_frozen BK191.out 0
        have hfz10_1 := blk_frozen BK191.out 1
        go_wp2
        refine bodyPost_ret (results_ct rfl _ _ gb191 24 #[.int .i64 0, .int .i64 0] (0, 0) _ rfl (by (with_reducible repeat (first | refine blk_drewN ?_ _ | refine blk_drew ?_ | refine blk_alloc ?_ _)); refine blk_put (cs := #[.int .i64 0, .int .i64 0]) ?_ 1 _ rfl; (with_reducible repeat (first | refine blk_drewN ?_ _ | refine blk_drew ?_ | refine blk_alloc ?_ _)); refine blk_put (cs := #[.int .i64 0, .int .i64 0]) ?_ 0 _ rfl; (with_reducible repeat (first | refine blk_drewN ?_ _ | refine blk_drew ?_ | refine blk_alloc ?_ _)); exact BK191.out) Try.underlying24 rfl (by kernel_rfl)) rfl ?_
        exact ⟨by first | rfl | (simp [errW_none, errW_some] <;> rfl) | (simp [*, errW_none, errW_some] <;> rfl), by repeat (first | (with_reducible first | exact HB.out | apply below_alloc | apply pw_below_drewN | apply below_drew1 | refine below_set ?_ GE191.out) | exact HB.out)⟩
      · replace c9 := Bool.eq_false_iff.mpr c9
        subst c9
        have H1 : (if a1 = 0 then (some (0, 0, 0)) else (if 0 ≤ (wrap64 (a1 - 1)) then (if (wrap64 (a1 - 1)) < (t192.length : Int) then (if 0 ≤ (rd t192 (wrap64 (a1 - 1))) then (if (rd t192 (wrap64 (a1 - 1))) < (l0.length : Int) then (some ((rd_T44 l0 (rd t192 (wrap64 (a1 - 1)))).f0.f0, (rd_T44 l0 (rd t192 (wrap64 (a1 - 1)))).f0.f1, 0)) else (none)) else (none)) else (none)) else (none))) = some (r1, r2, r3) := by rw [if_neg (show ¬ (false = true) by decide)] at H; exact H
        clear H
        have H := H1
        clear H1
        by_cases c11 : a1 = 0
        · rw [if_pos c11] at H
          have c11b0 : (a1 == 0) = true := beq_iff_eq.mpr c11
          have c11b1 : (a1 != 0) = false := bne_eq_false_iff_eq.mpr c11
          clear c11
          simp only [Option.some.injEq, Prod.mk.injEq] at H
          obtain ⟨rfl, rfl, rfl⟩ := H
          have hcz12_0 : wc.cell? ⟨gb191, 0, none⟩ = some (.int .i64 0) := (blk_cell BK191.out 0).trans rfl
          have hcz12_1 : wc.cell? ⟨gb191, 1, none⟩ = some (.int .i64 0) := (blk_cell BK191.out 1).trans rfl
          have hfz12_0 := blk_frozen BK191.out 0
          have hfz12_1 := blk_frozen BK191.out 1
          go_wp2
          refine bodyPost_ret (results_ct rfl _ _ gb191 24 #[.int .i64 0, .int .i64 0] (0, 0) _ rfl (by (with_reducible repeat (first | refine blk_drewN ?_ _ | refine blk_drew ?_ | refine blk_alloc ?_ _)); refine blk_put (cs := #[.int .i64 0, .int .i64 0]) ?_ 1 _ rfl; (with_reducible repeat (first | refine blk_drewN ?_ _ | refine blk_drew ?_ | refine blk_alloc ?_ _)); refine blk_put (cs := #[.int .i64 0, .int .i64 0]) ?_ 0 _ rfl; (with_reducible repeat (first | refine blk_drewN ?_ _ | refine blk_drew ?_ | refine blk_alloc ?_ _)); exact BK191.out) Try.underlying24 rfl (by kernel_rfl)) rfl ?_
          exact ⟨by first | rfl | (simp [errW_none, errW_some] <;> rfl) | (simp [*, errW_none, errW_some] <;> rfl), by repeat (first | (with_reducible first | exact HB.out | apply below_alloc | apply pw_below_drewN | apply below_drew1 | refine below_set ?_ GE191.out) | exact HB.out)⟩
        · rw [if_neg c11] at H
          have c11b0 : (a1 == 0) = false := beq_eq_false_iff_ne.mpr c11
          have c11b1 : (a1 != 0) = true := bne_iff_ne.mpr c11
          obtain ⟨ji13, hji13⟩ : ∃ j_ : Int, (wrap64 (a1 - 1)) = j_ := ⟨_, rfl⟩
          replace H : (if 0 ≤ (ji13) then (if (ji13) < (t192.length : Int) then (if 0 ≤ (rd t192 (ji13)) then (if (rd t192 (ji13)) < (l0.length : Int) then (some ((rd_T44 l0 (rd t192 (ji13))).f0.f0, (rd_T44 l0 (rd t192 (ji13))).f0.f1, 0)) else (none)) else (none)) else (none)) else (none)) = some (r1, r2, r3) := by first | (rw [hji13] at H; exact H) | (simp only [hji13] at H ⊢; exact H)
          have hji13w : (IntKind.i64.wrap (a1 - 1)) = ji13 := (i64_w _).trans hji13
          by_cases c14 : 0 ≤ (ji13)
          · rw [if_pos c14] at H
            have c14b0 : decide (0 ≤ (ji13)) = true := decide_eq_true c14
            clear c14
            by_cases c15 : (ji13) < (t192.length : Int)
            · rw [if_pos c15] at H
              have c15b0 : decide ((ji13) < (t192.length : Int)) = true := decide_eq_true c15
              clear c15
              by_cases c16 : 0 ≤ (rd t192 (ji13))
              · rw [if_pos c16] at H
                have c16b0 : decide (0 ≤ (rd t192 (ji13))) = true := decide_eq_true c16
                clear c16
                by_cases c17 : (rd t192 (ji13)) < (l0.length : Int)
                · rw [if_pos c17] at H
                  have c17b0 : decide ((rd t192 (ji13)) < (l0.length : Int)) = true := decide_eq_true c17
                  clear c17
                  simp only [Option.some.injEq, Prod.mk.injEq] at H
                  obtain ⟨rfl, rfl, rfl⟩ := H
                  obtain ⟨Ao18, co18, eo18⟩ := Kd.R_slice HO_6.out
                  subst eo18
                  have p195 : 0 ≤ ((ji13) : Int) := of_decide_eq_true (by first | (with_reducible assumption) | assumption)
                  have q195 : (ji13) < (t192.length : Int) := of_decide_eq_true (by first | (with_reducible assumption) | assumption)
                  obtain ⟨ad195, e195, hx195_0⟩ := Kd.at_int (Kd.R_reads' HO_6.out).2.2 (ji13) p195 q195
                  cases e195
                  replace p195 := eq_true p195
                  replace q195 := eq_true q195
                  have p196 : 0 ≤ ((rd t192 (ji13)) : Int) := of_decide_eq_true (by first | (with_reducible assumption) | assumption)
                  have q196 : (rd t192 (ji13)) < (l0.length : Int) := of_decide_eq_true (by first | (with_reducible assumption) | assumption)
                  obtain ⟨ad196, A196_5, c196_5, e196, hx196_0, hx196_1, hx196_2, hx196_3, hx196_4, hx196_5, hl196_5, hi196_5⟩ := at_T44 HR0.out (rd t192 (ji13)) p196 q196
                  cases e196
                  (try replace hx196_0 := (HB.out.cell (World.block_lt_of_cell? w _ hx196_0)).trans hx196_0)
                  (try replace hx196_1 := (HB.out.cell (World.block_lt_of_cell? w _ hx196_1)).trans hx196_1)
                  (try replace hx196_2 := (HB.out.cell (World.block_lt_of_cell? w _ hx196_2)).trans hx196_2)
                  (try replace hx196_3 := (HB.out.cell (World.block_lt_of_cell? w _ hx196_3)).trans hx196_3)
                  (try replace hx196_4 := (HB.out.cell (World.block_lt_of_cell? w _ hx196_4)).trans hx196_4)
                  (try replace hx196_5 := (HB.out.cell (World.block_lt_of_cell? w _ hx196_5)).trans hx196_5)
                  have HR196_5 := Aside0.mk hi196_5
                  have HC196_5 := Aside0.mk hl196_5
                  clear hi196_5 hl196_5
                  replace p196 := eq_true p196
                  replace q196 := eq_true q196
                  have hcz19_0 : wc.cell? ⟨gb191, 0, none⟩ = some (.int .i64 0) := (blk_cell BK191.out 0).trans rfl
                  have hcz19_1 : wc.cell? ⟨gb191, 1, none⟩ = some (.int .i64 0) := (blk_cell BK191.out 1).trans rfl
                  have hfz19_0 := blk_frozen BK191.out 0
                  have hfz19_1 := blk_frozen BK191.out 1
                  go_wp2
                  refine bodyPost_ret (results_ct rfl _ _ gb191 24 #[.int .i64 ((rd_T44 l0 (rd t192 (ji13))).f0.f0), .int .i64 ((rd_T44 l0 (rd t192 (ji13))).f0.f1)] (0, 0) _ rfl (by (with_reducible repeat (first | refine blk_drewN ?_ _ | refine blk_drew ?_ | refine blk_alloc ?_ _)); refine blk_put (cs := #[.int .i64 ((rd_T44 l0 (rd t192 (ji13))).f0.f0), .int .i64 0]) ?_ 1 _ rfl; (with_reducible repeat (first | refine blk_drewN ?_ _ | refine blk_drew ?_ | refine blk_alloc ?_ _)); refine blk_put (cs := #[.int .i64 0, .int .i64 0]) ?_ 0 _ rfl; (with_reducible repeat (first | refine blk_drewN ?_ _ | refine blk_drew ?_ | refine blk_alloc ?_ _)); exact BK191.out) Try.underlying24 rfl (by kernel_rfl)) rfl ?_
                  exact ⟨by first | rfl | (simp [errW_none, errW_some] <;> rfl) | (simp only [← hji13]; first | rfl | (simp [errW_none, errW_some] <;> rfl)) | (simp [*, errW_none, errW_some] <;> rfl), by repeat (first | (with_reducible first | exact HB.out | apply below_alloc | apply pw_below_drewN | apply below_drew1 | refine below_set ?_ GE191.out) | exact HB.out)⟩
                · rw [if_neg c17] at H
                  exact absurd H (by simp)
              · rw [if_neg c16] at H
                exact absurd H (by simp)
            · rw [if_neg c15] at H
              exact absurd H (by simp)
          · rw [if_neg c14] at H
            exact absurd H (by simp)

end Go.Proofs.Ytpclgafcldmchaa.P

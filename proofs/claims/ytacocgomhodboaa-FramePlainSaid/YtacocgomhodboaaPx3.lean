-- Written by a program of this session (wip/tools/pp.py) out of the translation. Not trusted: Lean checks it.
import Derived.Test.YtacocgomhodboaaPx0
import Derived.Test.YtacocgomhodboaaGiv
import Derived.Test.YtacocgomhodboaaGv2
namespace Go.Proofs.Ytacocgomhodboaa.P
open Go.RowKit Go.Proofs.YtacocgomhodboaaW.PrintWords Go.Proofs.YtacocgomhodboaaW.PrintLast Go.Proofs.YtacocgomhodboaaW.PrintMore
open Go.Proofs.Ytacocgomhodboaa.Giv
open Go.Proofs.Ytacocgomhodboaa.Gv2
attribute [local go_sem] max2_int min2_int max_two min_two max_three min_three max_four min_four   -- for this text's walks alone
set_option linter.unusedVariables false
set_option linter.unusedSimpArgs false

/-! ### duetlaw03_FramePlain: function 8 -/
mutual
def duetlaw03_FramePlain.j0 : Nat → ByteArray → Bool → Option (Bool)
  | 0, _, _ => none
  | k + 1, x3, x46 => if x46 = true then (some false) else (duetlaw03_FramePlain.l0 k x3 1)
def duetlaw03_FramePlain.l0 : Nat → ByteArray → Int → Option (Bool)
  | 0, _, _ => none
  | k + 1, x3, x5 => if (wrap64 (x5 + 1)) < (x3.size : Int) then (if 0 ≤ x5 then (if x5 < (x3.size : Int) then (if (bt x3 x5) = 126 then (some false) else (duetlaw03_FramePlain.l0 k x3 (wrap64 (x5 + 1)))) else (none)) else (none)) else ((duetlaw03_live.f).bind fun t177 => (some t177))
end
def duetlaw03_FramePlain.f (k : Nat) (a0 : ByteArray) : Option (Bool) := if (a0.size : Int) > 2000 then ((duetlaw03_live.f).bind fun t174 => (some t174)) else ((frame_Pack.f a0).bind fun bt175 => (if bt175.2 = 0 then (if (bt175.1.size : Int) < (wrap64 ((a0.size : Int) + 5)) then (duetlaw03_FramePlain.j0 k bt175.1 true) else (if (bt175.1.size : Int) > (wrap64 ((wrap64 (2 * (a0.size : Int))) + 8)) then (duetlaw03_FramePlain.j0 k bt175.1 true) else (if 0 < (bt175.1.size : Int) then (if (bt bt175.1 0) = 126 then (if 0 ≤ (wrap64 ((bt175.1.size : Int) - 1)) then (if (wrap64 ((bt175.1.size : Int) - 1)) < (bt175.1.size : Int) then (duetlaw03_FramePlain.j0 k bt175.1 ((bt bt175.1 (wrap64 ((bt175.1.size : Int) - 1))) != 126)) else (none)) else (none)) else (duetlaw03_FramePlain.j0 k bt175.1 true)) else (none)))) else (duetlaw03_FramePlain.j0 k bt175.1 true)))
theorem duetlaw03_FramePlain.mono_l : ∀ k, (∀ y0 y1, LeO (duetlaw03_FramePlain.j0 k y0 y1) (duetlaw03_FramePlain.j0 (k + 1) y0 y1)) ∧ (∀ y0 y1, LeO (duetlaw03_FramePlain.l0 k y0 y1) (duetlaw03_FramePlain.l0 (k + 1) y0 y1))
  | 0 => ⟨fun _ _ r h => by simp [duetlaw03_FramePlain.j0] at h, fun _ _ r h => by simp [duetlaw03_FramePlain.l0] at h⟩
  | k + 1 => by
    obtain ⟨ih0, ih1⟩ := duetlaw03_FramePlain.mono_l k
    refine ⟨?_, ?_⟩
    · intro y0 y1
      unfold duetlaw03_FramePlain.j0
      repeat' first
      | (with_reducible exact ih0 _ _)
      | (with_reducible exact ih1 _ _)
      | (with_reducible exact LeO.refl _)
      | (with_reducible exact LeO.none _)
      | (with_reducible refine LeO.ite ?_ ?_)
      | (with_reducible refine LeO.bind ?_ (fun _ => ?_))
      | exact ih0 _ _
      | exact ih1 _ _
      | exact LeO.none _
      | refine LeO.ite ?_ ?_
      | refine LeO.bind ?_ (fun _ => ?_)
    · intro y0 y1
      unfold duetlaw03_FramePlain.l0
      repeat' first
      | (with_reducible exact ih0 _ _)
      | (with_reducible exact ih1 _ _)
      | (with_reducible exact LeO.refl _)
      | (with_reducible exact LeO.none _)
      | (with_reducible refine LeO.ite ?_ ?_)
      | (with_reducible refine LeO.bind ?_ (fun _ => ?_))
      | exact ih0 _ _
      | exact ih1 _ _
      | exact LeO.none _
      | refine LeO.ite ?_ ?_
      | refine LeO.bind ?_ (fun _ => ?_)
theorem duetlaw03_FramePlain.mono : ∀ a0 k, LeO (duetlaw03_FramePlain.f k a0) (duetlaw03_FramePlain.f (k + 1) a0) := by
  intro a0 k
  obtain ⟨ih0, ih1⟩ := duetlaw03_FramePlain.mono_l k
  unfold duetlaw03_FramePlain.f
  repeat' first
      | (with_reducible exact ih0 _ _)
      | (with_reducible exact ih1 _ _)
      | (with_reducible exact LeO.refl _)
      | (with_reducible exact LeO.none _)
      | (with_reducible refine LeO.ite ?_ ?_)
      | (with_reducible refine LeO.bind ?_ (fun _ => ?_))
      | exact ih0 _ _
      | exact ih1 _ _
      | exact LeO.none _
      | refine LeO.ite ?_ ?_
      | refine LeO.bind ?_ (fun _ => ?_)
set_option maxHeartbeats 8000000 in
set_option maxRecDepth 100000 in
theorem duetlaw03_FramePlain.calls (k : Nat) (a0 : ByteArray) (r : Bool) (w : World) (hr_ : Aside0 (r = true)) (h : duetlaw03_FramePlain.f k a0 = some r) :
    Calls Try.prog 8 #[.string a0] w fun e w' => e = .returned (.bool r) ∧ Below w.heap.size w w' := by
  have HB := Aside0.mk (Below.refl w.heap.size w)
  have H : (if (a0.size : Int) > 2000 then ((duetlaw03_live.f).bind fun t174 => (some t174)) else ((frame_Pack.f a0).bind fun bt175 => (if bt175.2 = 0 then (if (bt175.1.size : Int) < (wrap64 ((a0.size : Int) + 5)) then (duetlaw03_FramePlain.j0 k bt175.1 true) else (if (bt175.1.size : Int) > (wrap64 ((wrap64 (2 * (a0.size : Int))) + 8)) then (duetlaw03_FramePlain.j0 k bt175.1 true) else (if 0 < (bt175.1.size : Int) then (if (bt bt175.1 0) = 126 then (if 0 ≤ (wrap64 ((bt175.1.size : Int) - 1)) then (if (wrap64 ((bt175.1.size : Int) - 1)) < (bt175.1.size : Int) then (duetlaw03_FramePlain.j0 k bt175.1 ((bt bt175.1 (wrap64 ((bt175.1.size : Int) - 1))) != 126)) else (none)) else (none)) else (duetlaw03_FramePlain.j0 k bt175.1 true)) else (none)))) else (duetlaw03_FramePlain.j0 k bt175.1 true)))) = some r := h
  clear h
  by_cases c2 : (a0.size : Int) > 2000
  · rw [if_pos c2] at H
    have c2b0 : decide (2000 < (a0.size : Int)) = true := decide_eq_true c2
    have c2b1 : decide (2000 < a0.size) = true := decide_eq_true (by omega)
    clear c2
    replace H := Option.bind_eq_some_iff.mp H
    obtain ⟨t174, A30, H⟩ := H
    replace H : (some t174) = some r := H
    have A3 := Aside0.mk A30
    clear A30
    obtain rfl := Option.some.inj H
    go_enter Try.func8, Try.ntmps8
    go_wp2_with (first | ((with_reducible refine gate_callee (f := 10) rfl ?_); refine goesL_ (some 9) rfl rfl Try.func10 (by kernel_rfl) rfl #[] rfl (by (try simp only [List.map_toArray, List.map_cons, List.map_nil]); first | done | rfl | (simp only [List.length_drop, List.length_take]; rfl)) ?_; (with_reducible refine (duetlaw03_live.calls  t174 _ ?side1 A3.out).mono ?_); (case side1 => exact hr_); rintro e w4 ⟨rfl, hb⟩; refine ⟨_, rfl, ?_⟩; have n0_ := Aside0.mk (below_step (by repeat (first | (with_reducible first | exact HB.out | apply below_alloc | apply pw_below_drewN | apply below_drew1) | exact HB.out)) hb); clear HB; have HB := n0_; clear n0_; (try clear hb); (try clear hb2); (try clear hk); (try clear hi)))
    go_ret
    exact ⟨by first | rfl | (simp [errW_none, errW_some] <;> rfl) | (simp [*, errW_none, errW_some] <;> rfl), by repeat (first | (with_reducible first | exact HB.out | apply below_alloc | apply pw_below_drewN | apply below_drew1) | exact HB.out)⟩
  · rw [if_neg c2] at H
    have c2b0 : decide (2000 < (a0.size : Int)) = false := decide_eq_false c2
    have c2b1 : decide (2000 < a0.size) = false := decide_eq_false (by omega)
    clear c2
    replace H := Option.bind_eq_some_iff.mp H
    obtain ⟨⟨t175, t176⟩, A50, H⟩ := H
    replace H : (if t176 = 0 then (if (t175.size : Int) < (wrap64 ((a0.size : Int) + 5)) then (duetlaw03_FramePlain.j0 k t175 true) else (if (t175.size : Int) > (wrap64 ((wrap64 (2 * (a0.size : Int))) + 8)) then (duetlaw03_FramePlain.j0 k t175 true) else (if 0 < (t175.size : Int) then (if (bt t175 0) = 126 then (if 0 ≤ (wrap64 ((t175.size : Int) - 1)) then (if (wrap64 ((t175.size : Int) - 1)) < (t175.size : Int) then (duetlaw03_FramePlain.j0 k t175 ((bt t175 (wrap64 ((t175.size : Int) - 1))) != 126)) else (none)) else (none)) else (duetlaw03_FramePlain.j0 k t175 true)) else (none)))) else (duetlaw03_FramePlain.j0 k t175 true)) = some r := H
    have A5 := Aside0.mk A50
    clear A50
    have HC6 := Aside0.mk H
    clear H
    go_enter Try.func8, Try.ntmps8
    go_upto_region 4 with (first | ((with_reducible refine gate_callee (f := 11) rfl ?_); refine goesL_ (some 12) rfl rfl Try.func11 (by kernel_rfl) rfl #[.string a0] rfl (by (try simp only [List.map_toArray, List.map_cons, List.map_nil]); first | done | rfl | (simp only [List.length_drop, List.length_take]; rfl)) ?_; (with_reducible refine (frame_Pack.calls a0 t175 t176 _ A5.out).mono ?_); rintro e w7 ⟨rfl, hb⟩; refine ⟨_, rfl, ?_⟩; have n0_ := Aside0.mk (below_step (by repeat (first | (with_reducible first | exact HB.out | apply below_alloc | apply pw_below_drewN | apply below_drew1) | exact HB.out)) hb); clear HB; have HB := n0_; clear n0_; (try clear hb); (try clear hb2); (try clear hk); (try clear hi)))
    (try simp only [Act.put, List.setIfInBounds_toArray, List.set_cons_zero, List.set_cons_succ])
    go_cut [46] (fun v46 wc => ∃ (kq : Nat) (x46_5 : Bool), v46 = .bool x46_5 ∧ Aside0 (duetlaw03_FramePlain.j0 kq t175 x46_5 = some r) ∧ Aside0 (kq ≤ k) ∧ Aside0 (Below w.heap.size w wc))
    case first =>
      have H := HC6.out
      clear HC6
      by_cases c8 : t176 = 0
      · rw [if_pos c8] at H
        have c8b0 : (t176 == 0) = true := beq_iff_eq.mpr c8
        have c8b1 : (t176 != 0) = false := bne_eq_false_iff_eq.mpr c8
        clear c8
        (first | rw [c8b0] | (simp only [i64_w, i32_w]; rw [c8b0]) | skip)
        by_cases c9 : (t175.size : Int) < (wrap64 ((a0.size : Int) + 5))
        · rw [if_pos c9] at H
          have c9b0 : decide ((t175.size : Int) < (wrap64 ((a0.size : Int) + 5))) = true := decide_eq_true c9
          clear c9
          have H' := Aside0.mk H
          clear H
          go_wp2
          go_meet
          case rel => exact ⟨_, (true), (by first | rfl | (simp; done) | (simp [*]; done)), H', ⟨by first | omega | exact Nat.le_refl _⟩, ⟨by repeat (first | (with_reducible first | exact HB.out | apply below_alloc | apply pw_below_drewN | apply below_drew1) | exact HB.out)⟩⟩
        · rw [if_neg c9] at H
          have c9b0 : decide ((t175.size : Int) < (wrap64 ((a0.size : Int) + 5))) = false := decide_eq_false c9
          clear c9
          by_cases c10 : (t175.size : Int) > (wrap64 ((wrap64 (2 * (a0.size : Int))) + 8))
          · rw [if_pos c10] at H
            have c10b0 : decide ((wrap64 ((wrap64 (2 * (a0.size : Int))) + 8)) < (t175.size : Int)) = true := decide_eq_true c10
            clear c10
            have H' := Aside0.mk H
            clear H
            go_wp2
            go_meet
            case rel => exact ⟨_, (true), (by first | rfl | (simp; done) | (simp [*]; done)), H', ⟨by first | omega | exact Nat.le_refl _⟩, ⟨by repeat (first | (with_reducible first | exact HB.out | apply below_alloc | apply pw_below_drewN | apply below_drew1) | exact HB.out)⟩⟩
          · rw [if_neg c10] at H
            have c10b0 : decide ((wrap64 ((wrap64 (2 * (a0.size : Int))) + 8)) < (t175.size : Int)) = false := decide_eq_false c10
            clear c10
            by_cases c11 : 0 < (t175.size : Int)
            · rw [if_pos c11] at H
              have c11b0 : decide (0 < (t175.size : Int)) = true := decide_eq_true c11
              have c11b1 : decide (0 < t175.size) = true := decide_eq_true (by omega)
              clear c11
              by_cases c13 : (bt t175 0) = 126
              · rw [if_pos c13] at H
                have c13b0 : ((bt t175 0) == 126) = true := beq_iff_eq.mpr c13
                have c13b1 : ((bt t175 0) != 126) = false := bne_eq_false_iff_eq.mpr c13
                clear c13
                obtain ⟨ji14, hji14⟩ : ∃ j_ : Int, (wrap64 ((t175.size : Int) - 1)) = j_ := ⟨_, rfl⟩
                replace H : (if 0 ≤ (ji14) then (if (ji14) < (t175.size : Int) then (duetlaw03_FramePlain.j0 k t175 ((bt t175 (ji14)) != 126)) else (none)) else (none)) = some r := by first | (rw [hji14] at H; exact H) | (simp only [hji14] at H ⊢; exact H)
                have hji14w : (IntKind.i64.wrap ((t175.size : Int) - 1)) = ji14 := (i64_w _).trans hji14
                by_cases c15 : 0 ≤ (ji14)
                · rw [if_pos c15] at H
                  have c15b0 : decide (0 ≤ (ji14)) = true := decide_eq_true c15
                  clear c15
                  by_cases c16 : (ji14) < (t175.size : Int)
                  · rw [if_pos c16] at H
                    have c16b0 : decide ((ji14) < (t175.size : Int)) = true := decide_eq_true c16
                    clear c16
                    have H' := Aside0.mk H
                    clear H
                    have p12 : 0 ≤ (0 : Int) := (by omega)
                    have q12 : 0 < t175.size := (by have : (0 : Int) < (t175.size : Int) := of_decide_eq_true (by first | (with_reducible assumption) | assumption); omega)
                    have hx12 : ∀ h : 0 < t175.size, ((t175[0]'h).toNat : Int) = bt t175 0 := bt_at t175 0
                    clear p12
                    have qi12 : (0 < (t175.size : Int)) = True := eq_true (of_decide_eq_true (by first | (with_reducible assumption) | assumption))
                    replace q12 := eq_true q12
                    have p17 : 0 ≤ ((ji14) : Int) := of_decide_eq_true (by first | (with_reducible assumption) | assumption)
                    have q17 : (ji14) < (t175.size : Int) := of_decide_eq_true (by first | (with_reducible assumption) | assumption)
                    have hx17 := bt_at t175 (ji14)
                    replace p17 := eq_true p17
                    replace q17 := eq_true q17
                    go_wp2
                    go_meet
                    case rel => exact ⟨_, (((bt t175 (ji14)) != 126)), (by first | rfl | (simp; done) | (simp only [← hji14] <;> (first | rfl | simp)) | (simp [*]; done)), H', ⟨by first | omega | exact Nat.le_refl _⟩, ⟨by repeat (first | (with_reducible first | exact HB.out | apply below_alloc | apply pw_below_drewN | apply below_drew1) | exact HB.out)⟩⟩
                  · rw [if_neg c16] at H
                    exact absurd H (by simp)
                · rw [if_neg c15] at H
                  exact absurd H (by simp)
              · rw [if_neg c13] at H
                have c13b0 : ((bt t175 0) == 126) = false := beq_eq_false_iff_ne.mpr c13
                have c13b1 : ((bt t175 0) != 126) = true := bne_iff_ne.mpr c13
                have H' := Aside0.mk H
                clear H
                have p12 : 0 ≤ (0 : Int) := (by omega)
                have q12 : 0 < t175.size := (by have : (0 : Int) < (t175.size : Int) := of_decide_eq_true (by first | (with_reducible assumption) | assumption); omega)
                have hx12 : ∀ h : 0 < t175.size, ((t175[0]'h).toNat : Int) = bt t175 0 := bt_at t175 0
                clear p12
                have qi12 : (0 < (t175.size : Int)) = True := eq_true (of_decide_eq_true (by first | (with_reducible assumption) | assumption))
                replace q12 := eq_true q12
                go_wp2
                go_meet
                case rel => exact ⟨_, (true), (by first | rfl | (simp; done) | (simp [*]; done)), H', ⟨by first | omega | exact Nat.le_refl _⟩, ⟨by repeat (first | (with_reducible first | exact HB.out | apply below_alloc | apply pw_below_drewN | apply below_drew1) | exact HB.out)⟩⟩
            · rw [if_neg c11] at H
              exact absurd H (by simp)
      · rw [if_neg c8] at H
        have c8b0 : (t176 == 0) = false := beq_eq_false_iff_ne.mpr c8
        have c8b1 : (t176 != 0) = true := bne_iff_ne.mpr c8
        (first | rw [c8b0] | (simp only [i64_w, i32_w]; rw [c8b0]) | skip)
        have H' := Aside0.mk H
        clear H
        go_wp2
        go_meet
        case rel => exact ⟨_, (true), (by first | rfl | (simp; done) | (simp [*]; done)), H', ⟨by first | omega | exact Nat.le_refl _⟩, ⟨by repeat (first | (with_reducible first | exact HB.out | apply below_alloc | apply pw_below_drewN | apply below_drew1) | exact HB.out)⟩⟩
    case rest =>
      clear HC6
      try clear c1
      try clear p1
      try clear q1
      try clear hx1
      try clear qi1
      try clear c2
      try clear c2b0
      try clear c2b1
      try clear p2
      try clear p6
      try clear c8
      try clear c8b0
      try clear c8b1
      try clear c9
      try clear c9b0
      try clear c10
      try clear c10b0
      try clear c11
      try clear c11b0
      try clear c11b1
      try clear p12
      try clear q12
      try clear hx12
      try clear qi12
      try clear c13
      try clear c13b0
      try clear c13b1
      try clear c15
      try clear c15b0
      try clear c16
      try clear c16b0
      try clear p17
      try clear q17
      try clear hx17
      try clear p12
      try clear p17
      try clear q12
      try clear q17
      obtain ⟨kq, x46_5, rfl, HA, HJ5, HB⟩ := hcut
      cases kq with
      | zero => exact absurd HA.out (by simp [duetlaw03_FramePlain.j0])
      | succ kj5 =>
        have H := HA.out
        clear HA
        simp only [duetlaw03_FramePlain.j0] at H
        by_cases c18 : x46_5 = true
        · subst c18
          have H1 : (some false) = some r := by rw [if_pos rfl] at H; exact H
          clear H
          have H := H1
          clear H1
          exact absurd (Option.some.inj H) (by rw [hr_.out]; decide)
        · replace c18 := Bool.eq_false_iff.mpr c18
          subst c18
          have H1 : (duetlaw03_FramePlain.l0 kj5 t175 1) = some r := by rw [if_neg (show ¬ (false = true) by decide)] at H; exact H
          clear H
          have H := H1
          clear H1
          have H' := Aside0.mk H
          clear H
          go_wp2
          go_loopg [5] kj5 (fun kq v5 w' => ∃ (x5_2 : Int), v5 = .int .i64 x5_2 ∧ Aside0 (duetlaw03_FramePlain.l0 kq t175 x5_2 = some r) ∧ Aside0 (kq ≤ kj5) ∧ Aside0 (Below w.heap.size w w'))
          case atStart => exact ⟨(1), (by first | rfl | (simp; done) | (simp [*]; done)), H', ⟨Nat.le_refl _⟩, ⟨by repeat (first | (with_reducible first | exact HB.out | apply below_alloc | apply pw_below_drewN | apply below_drew1) | exact HB.out)⟩⟩
          case round =>
            clear H'
            try clear c1
            try clear p1
            try clear q1
            try clear hx1
            try clear qi1
            try clear c2
            try clear c2b0
            try clear c2b1
            try clear p2
            try clear p6
            try clear c8
            try clear c8b0
            try clear c8b1
            try clear c9
            try clear c9b0
            try clear c10
            try clear c10b0
            try clear c11
            try clear c11b0
            try clear c11b1
            try clear p12
            try clear q12
            try clear hx12
            try clear qi12
            try clear c13
            try clear c13b0
            try clear c13b1
            try clear c15
            try clear c15b0
            try clear c16
            try clear c16b0
            try clear p17
            try clear q17
            try clear hx17
            try clear c18
            try clear p1
            try clear p12
            try clear p17
            try clear p2
            try clear p6
            try clear q1
            try clear q12
            try clear q17
            obtain ⟨x5_2, rfl, HA, HK2, HB⟩ := hrel
            cases gk with
            | zero => exact absurd HA.out (by simp [duetlaw03_FramePlain.l0])
            | succ k2 =>
              have H := HA.out
              clear HA
              simp only [duetlaw03_FramePlain.l0] at H
              by_cases c19 : (wrap64 (x5_2 + 1)) < (t175.size : Int)
              · rw [if_pos c19] at H
                have c19b0 : decide ((wrap64 (x5_2 + 1)) < (t175.size : Int)) = true := decide_eq_true c19
                clear c19
                by_cases c20 : 0 ≤ x5_2
                · rw [if_pos c20] at H
                  have c20b0 : decide (0 ≤ x5_2) = true := decide_eq_true c20
                  clear c20
                  by_cases c21 : x5_2 < (t175.size : Int)
                  · rw [if_pos c21] at H
                    have c21b0 : decide (x5_2 < (t175.size : Int)) = true := decide_eq_true c21
                    clear c21
                    by_cases c23 : (bt t175 x5_2) = 126
                    · rw [if_pos c23] at H
                      have c23b0 : ((bt t175 x5_2) == 126) = true := beq_iff_eq.mpr c23
                      have c23b1 : ((bt t175 x5_2) != 126) = false := bne_eq_false_iff_eq.mpr c23
                      clear c23
                      exact absurd (Option.some.inj H) (by rw [hr_.out]; decide)
                    · rw [if_neg c23] at H
                      have c23b0 : ((bt t175 x5_2) == 126) = false := beq_eq_false_iff_ne.mpr c23
                      have c23b1 : ((bt t175 x5_2) != 126) = true := bne_iff_ne.mpr c23
                      have H' := Aside0.mk H
                      clear H
                      have p22 : 0 ≤ (x5_2 : Int) := of_decide_eq_true (by first | (with_reducible assumption) | assumption)
                      have q22 : x5_2 < (t175.size : Int) := of_decide_eq_true (by first | (with_reducible assumption) | assumption)
                      have hx22 := bt_at t175 x5_2
                      replace p22 := eq_true p22
                      replace q22 := eq_true q22
                      go_wp2
                      go_roundg k2
                      case measure => have := HJ5.out; have := HK2.out; omega
                      case rel => exact ⟨(wrap64 (x5_2 + 1)), (by first | rfl | (simp; done) | (simp [*]; done)), H', ⟨by have := HJ5.out; have := HK2.out; omega⟩, ⟨by repeat (first | (with_reducible first | exact HB.out | apply below_alloc | apply pw_below_drewN | apply below_drew1) | exact HB.out)⟩⟩
                  · rw [if_neg c21] at H
                    exact absurd H (by simp)
                · rw [if_neg c20] at H
                  exact absurd H (by simp)
              · rw [if_neg c19] at H
                have c19b0 : decide ((wrap64 (x5_2 + 1)) < (t175.size : Int)) = false := decide_eq_false c19
                clear c19
                replace H := Option.bind_eq_some_iff.mp H
                obtain ⟨t177, A240, H⟩ := H
                replace H : (some t177) = some r := H
                have A24 := Aside0.mk A240
                clear A240
                obtain rfl := Option.some.inj H
                go_wp2_with (first | ((with_reducible refine gate_callee (f := 10) rfl ?_); refine goesL_ (some 58) rfl rfl Try.func10 (by kernel_rfl) rfl #[] rfl (by (try simp only [List.map_toArray, List.map_cons, List.map_nil]); first | done | rfl | (simp only [List.length_drop, List.length_take]; rfl)) ?_; (with_reducible refine (duetlaw03_live.calls  t177 _ ?side1 A24.out).mono ?_); (case side1 => exact hr_); rintro e w25 ⟨rfl, hb⟩; refine ⟨_, rfl, ?_⟩; have n0_ := Aside0.mk (below_step (by repeat (first | (with_reducible first | exact HB.out | apply below_alloc | apply pw_below_drewN | apply below_drew1) | exact HB.out)) hb); clear HB; have HB := n0_; clear n0_; (try clear hb); (try clear hb2); (try clear hk); (try clear hi)))
                go_ret
                exact ⟨by first | rfl | (simp [errW_none, errW_some] <;> rfl) | (simp [*, errW_none, errW_some] <;> rfl), by repeat (first | (with_reducible first | exact HB.out | apply below_alloc | apply pw_below_drewN | apply below_drew1) | exact HB.out)⟩

/-- THE ONE PURE STATEMENT of duetlaw03_FramePlain: yours. -/
def duetlaw03_FramePlain.Pure : Prop := ∀ (a0 : ByteArray), a0.size ≤ 140737488351232 → ∃ k, duetlaw03_FramePlain.f k a0 = some true
theorem duetlaw03_FramePlain.walk (P : duetlaw03_FramePlain.Pure) (a0 : ByteArray) (w : World) (w0 : a0.size ≤ 140737488351232) :
    Calls Try.prog 8 #[.string a0] w fun e w' => e = .returned (.bool true) ∧ Below w.heap.size w w' := by
  obtain ⟨k, h⟩ := P a0 w0
  refine (duetlaw03_FramePlain.calls k a0 true w (Aside0.mk rfl) h).mono ?_
  rintro e w' ⟨rfl, hd⟩
  exact ⟨rfl, hd⟩

-- NOT PRINTED: function 9 (duetlaw03_FrameShared)

end Go.Proofs.Ytacocgomhodboaa.P

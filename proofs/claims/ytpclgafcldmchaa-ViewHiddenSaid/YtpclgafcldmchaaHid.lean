-- Written by a program of this session (wip/tools/pp.py) out of the translation. Not trusted: Lean checks it.
import Derived.Test.YtpclgafcldmchaaGiv
import Derived.Test.YtpclgafcldmchaaPx
namespace Go.Proofs.Ytpclgafcldmchaa.P
open Go.RowKit Go.Proofs.YtpclgafcldmchaaW.PrintWords Go.Proofs.YtpclgafcldmchaaW.PrintLast Go.Proofs.YtpclgafcldmchaaW.PrintMore
open Go.Proofs.Ytpclgafcldmchaa.Giv
attribute [local go_sem] max2_int min2_int max_two min_two max_three min_three max_four min_four   -- for this text's walks alone
set_option linter.unusedVariables false
set_option linter.unusedSimpArgs false

attribute [local go_sem high] eqA24
/-! ### duetlaw12_ViewHidden: function 6 -/
def duetlaw12_ViewHidden.j0 : Nat → List (S44) → Int → Bool → Int → Int → Int → Int → Int → List Int → Option (Bool)
  | 0, _, _, _, _, _, _, _, _, _ => none
  | k + 1, x0, x1, x32, x188000, x188001, x188002, x188003, x188004, x188005 => if x32 = true then ((duetlaw12_live.f k).bind fun t189 => (some t189)) else (if 0 ≤ x1 then (if x1 ≤ (x0.length : Int) then ((some (x0.take (x1 : Int).toNat : List (S44))).bind fun y190 => (if ([] : List (S44)).length + y190.length < 2199023255552 then ((some (([] : List (S44)) ++ y190 : List (S44))).bind fun y195 => (if y195.length < 2199023255552 then ((some (y195 ++ [(⟨(⟨x188000, x188001⟩ : S24), (⟨x188002, x188003⟩ : S24), x188004, x188005⟩ : S44)] : List (S44))).bind fun y198 => ((some (x0.drop (x1 : Int).toNat : List (S44))).bind fun y201 => (if y198.length + y201.length < 2199023255552 then ((some (y198 ++ y201 : List (S44))).bind fun y206 => ((view_Text.f y206).bind fun t209 => ((view_Text.f x0).bind fun t210 => (if t209.toList = t210.toList then ((view_Seen.f y206).bind fun t211 => ((view_Seen.f x0).bind fun t214 => (if (t211.length : Int) = (t214.length : Int) then ((duetlaw12_live.f k).bind fun t217 => (some t217)) else (some false)))) else (some false))))) else (none)))) else (none))) else (none))) else (none)) else (none))
def duetlaw12_ViewHidden.f (k : Nat) (l0 : List (S44)) (a1 : Int) (a2_0 : Int) (a2_1 : Int) (a2_2 : Int) (a2_3 : Int) (a2_4 : Int) (l2_5 : List Int) : Option (Bool) := (duetref12_Few.f k l0).bind fun t188 => (if t188 = true then (if a1 < 0 then (duetlaw12_ViewHidden.j0 k l0 a1 true a2_0 a2_1 a2_2 a2_3 a2_4 l2_5) else (if a1 > (l0.length : Int) then (duetlaw12_ViewHidden.j0 k l0 a1 true a2_0 a2_1 a2_2 a2_3 a2_4 l2_5) else (if (l2_5.length : Int) < 1 then (duetlaw12_ViewHidden.j0 k l0 a1 true a2_0 a2_1 a2_2 a2_3 a2_4 l2_5) else (duetlaw12_ViewHidden.j0 k l0 a1 (decide ((l2_5.length : Int) > 20)) a2_0 a2_1 a2_2 a2_3 a2_4 l2_5)))) else (duetlaw12_ViewHidden.j0 k l0 a1 true a2_0 a2_1 a2_2 a2_3 a2_4 l2_5))
theorem duetlaw12_ViewHidden.mono_l : ∀ k, (∀ y0 y1 y2 y3 y4 y5 y6 y7 y8, LeO (duetlaw12_ViewHidden.j0 k y0 y1 y2 y3 y4 y5 y6 y7 y8) (duetlaw12_ViewHidden.j0 (k + 1) y0 y1 y2 y3 y4 y5 y6 y7 y8))
  | 0 => fun _ _ _ _ _ _ _ _ _ r h => by simp [duetlaw12_ViewHidden.j0] at h
  | k + 1 => by
    have ih0 := duetlaw12_ViewHidden.mono_l k
    · intro y0 y1 y2 y3 y4 y5 y6 y7 y8
      unfold duetlaw12_ViewHidden.j0
      repeat' first
      | (with_reducible exact ih0 _ _ _ _ _ _ _ _ _)
      | (with_reducible exact duetlaw12_live.mono _)
      | (with_reducible exact duetref12_Few.mono _ _)
      | (with_reducible exact LeO.refl _)
      | (with_reducible exact LeO.none _)
      | (with_reducible refine LeO.ite ?_ ?_)
      | (with_reducible refine LeO.bind ?_ (fun _ => ?_))
      | exact ih0 _ _ _ _ _ _ _ _ _
      | exact duetlaw12_live.mono _
      | exact duetref12_Few.mono _ _
      | exact LeO.none _
      | refine LeO.ite ?_ ?_
      | refine LeO.bind ?_ (fun _ => ?_)
theorem duetlaw12_ViewHidden.mono : ∀ a0 a1 a2 a3 a4 a5 a6 a7 k, LeO (duetlaw12_ViewHidden.f k a0 a1 a2 a3 a4 a5 a6 a7) (duetlaw12_ViewHidden.f (k + 1) a0 a1 a2 a3 a4 a5 a6 a7) := by
  intro a0 a1 a2 a3 a4 a5 a6 a7 k
  have ih0 := duetlaw12_ViewHidden.mono_l k
  unfold duetlaw12_ViewHidden.f
  repeat' first
      | (with_reducible exact ih0 _ _ _ _ _ _ _ _ _)
      | (with_reducible exact duetlaw12_live.mono _)
      | (with_reducible exact duetref12_Few.mono _ _)
      | (with_reducible exact LeO.refl _)
      | (with_reducible exact LeO.none _)
      | (with_reducible refine LeO.ite ?_ ?_)
      | (with_reducible refine LeO.bind ?_ (fun _ => ?_))
      | exact ih0 _ _ _ _ _ _ _ _ _
      | exact duetlaw12_live.mono _
      | exact duetref12_Few.mono _ _
      | exact LeO.none _
      | refine LeO.ite ?_ ?_
      | refine LeO.bind ?_ (fun _ => ?_)
set_option maxHeartbeats 8000000 in
set_option maxRecDepth 100000 in
theorem duetlaw12_ViewHidden.calls (k : Nat) (P0_ : Nat → Prop) (A0 : Option Addr) (c0 : Nat) (l0 : List (S44)) (a1 : Int) (a2_0 : Int) (a2_1 : Int) (a2_2 : Int) (a2_3 : Int) (a2_4 : Int) (P2_5_ : Nat → Prop) (A2_5 : Option Addr) (c2_5 : Nat) (l2_5 : List Int) (r : Bool) (w : World) (hs0 : Kd.V k44 44 w w.heap.size (fun k_ => P0_ k_) (.slice A0 l0.length c0) l0) (hs2_5 : Kd.V (Kd.int .i64) 3 w w.heap.size (fun k_ => P2_5_ k_) (.slice A2_5 l2_5.length c2_5) l2_5) (hr_ : Aside0 (r = true)) (h : duetlaw12_ViewHidden.f k l0 a1 a2_0 a2_1 a2_2 a2_3 a2_4 l2_5 = some r) :
    Calls Try.prog 6 #[.slice A0 l0.length c0, .int .i64 a1, .agg #[.int .i64 a2_0, .int .i64 a2_1, .int .i64 a2_2, .int .i64 a2_3, .int .i64 a2_4, .slice A2_5 l2_5.length c2_5]] w fun e w' => e = .returned (.bool r) ∧ Below w.heap.size w w' := by
  have hu44 := Try.underlying44
  have HO0 := Aside0.mk (show Kd.V k44 44 w w.heap.size (fun k_ => ((P0_ k_ ∨ P2_5_ k_) ∨ w.heap.size ≤ k_)) (.slice A0 l0.length c0) l0 from Kd.V_mono hs0 (fun k_ hk => .inl (.inl hk)))
  have HO2_5 := Aside0.mk (show Kd.V (Kd.int .i64) 3 w w.heap.size (fun k_ => ((P0_ k_ ∨ P2_5_ k_) ∨ w.heap.size ≤ k_)) (.slice A2_5 l2_5.length c2_5) l2_5 from Kd.V_mono hs2_5 (fun k_ hk => .inl (.inr hk)))
  have HB := Aside0.mk (Below.refl w.heap.size w)
  have H : ((duetref12_Few.f k l0).bind fun t188 => (if t188 = true then (if a1 < 0 then (duetlaw12_ViewHidden.j0 k l0 a1 true a2_0 a2_1 a2_2 a2_3 a2_4 l2_5) else (if a1 > (l0.length : Int) then (duetlaw12_ViewHidden.j0 k l0 a1 true a2_0 a2_1 a2_2 a2_3 a2_4 l2_5) else (if (l2_5.length : Int) < 1 then (duetlaw12_ViewHidden.j0 k l0 a1 true a2_0 a2_1 a2_2 a2_3 a2_4 l2_5) else (duetlaw12_ViewHidden.j0 k l0 a1 (decide ((l2_5.length : Int) > 20)) a2_0 a2_1 a2_2 a2_3 a2_4 l2_5)))) else (duetlaw12_ViewHidden.j0 k l0 a1 true a2_0 a2_1 a2_2 a2_3 a2_4 l2_5))) = some r := h
  clear h
  have HC4 := Aside0.mk H
  clear H
  go_enter Try.func6, Try.ntmps6
  go_upto_region 1 with (first | ((with_reducible refine gate_dst (N := 5) rfl ?_); (try (refine gate_guard (by rfl) ?_; dsimp only)); refine box_event ?hg (N := 5) ?hd (cs := #[.int .i64 a2_0, .int .i64 a2_1, .int .i64 a2_2, .int .i64 a2_3, .int .i64 a2_4, .slice A2_5 l2_5.length c2_5]) (t := 44) ?hr ?_; (case hd => rfl); (case hg => rfl); (case hr => first | (go_simp; done) | (go_simp; rfl)); intro gb187 hg w5 hbox hb; have n0_ := Aside0.mk (Kd.V_below (Kd.V_elderB (by (with_reducible repeat (first | apply Kd.V_alloc | apply Kd.V_drewN | apply Kd.V_drew)); exact HO0.out) gb187 (Nat.le_of_eq hg.symm)) hb); have n1_ := Aside0.mk (Kd.V_below (Kd.V_elderB (by (with_reducible repeat (first | apply Kd.V_alloc | apply Kd.V_drewN | apply Kd.V_drew)); exact HO2_5.out) gb187 (Nat.le_of_eq hg.symm)) hb); have n2_ := Aside0.mk (below_step (by repeat (first | (with_reducible first | exact HB.out | apply below_alloc | apply pw_below_drewN | apply below_drew1) | exact HB.out)) hb); have n3_ := Aside0.mk (hbox); have n4_ := Aside0.mk ((by rw [hg]; exact (below_size (by repeat (first | (with_reducible first | exact HB.out | apply below_alloc | apply pw_below_drewN | apply below_drew1) | exact HB.out))) : w.heap.size ≤ gb187)); have n5_ := Aside0.mk ((by rw [hg]; exact (below_size (by repeat (first | (with_reducible first | exact HB.out | apply below_alloc | apply pw_below_drewN | apply below_drew1) | exact HB.out))) : w.heap.size ≤ gb187)); clear HO0; clear HO2_5; clear HB; have HO0 := n0_; have HO2_5 := n1_; have HB := n2_; have BK187 := n3_; have GW187 := n4_; have GE187 := n5_; clear n0_ n1_ n2_ n3_ n4_ n5_; clear hb hbox hg))
  (try simp only [Act.put, List.setIfInBounds_toArray, List.set_cons_zero, List.set_cons_succ])
  go_cut [32] (fun v32 wc => ∃ (kq : Nat) (x32_3 : Bool), v32 = .bool x32_3 ∧ Aside0 (duetlaw12_ViewHidden.j0 kq l0 a1 x32_3 a2_0 a2_1 a2_2 a2_3 a2_4 l2_5 = some r) ∧ Aside0 (kq ≤ k) ∧ Aside0 (Kd.V k44 44 wc w.heap.size (fun k_ => ((P0_ k_ ∨ P2_5_ k_) ∨ w.heap.size ≤ k_) ∧ k_ ≠ gb187) (.slice A0 l0.length c0) l0) ∧ Aside0 (Kd.V (Kd.int .i64) 3 wc w.heap.size (fun k_ => ((P0_ k_ ∨ P2_5_ k_) ∨ w.heap.size ≤ k_) ∧ k_ ≠ gb187) (.slice A2_5 l2_5.length c2_5) l2_5) ∧ Aside0 (wc.heap[gb187]? = some (.cells #[.int .i64 a2_0, .int .i64 a2_1, .int .i64 a2_2, .int .i64 a2_3, .int .i64 a2_4, (.slice A2_5 l2_5.length c2_5)] 44 (0, 0))) ∧ Aside0 (Below w.heap.size w wc))
  case first =>
    have H := HC4.out
    clear HC4
    replace H := Option.bind_eq_some_iff.mp H
    obtain ⟨t188, A60, H⟩ := H
    replace H : (if t188 = true then (if a1 < 0 then (duetlaw12_ViewHidden.j0 k l0 a1 true a2_0 a2_1 a2_2 a2_3 a2_4 l2_5) else (if a1 > (l0.length : Int) then (duetlaw12_ViewHidden.j0 k l0 a1 true a2_0 a2_1 a2_2 a2_3 a2_4 l2_5) else (if (l2_5.length : Int) < 1 then (duetlaw12_ViewHidden.j0 k l0 a1 true a2_0 a2_1 a2_2 a2_3 a2_4 l2_5) else (duetlaw12_ViewHidden.j0 k l0 a1 (decide ((l2_5.length : Int) > 20)) a2_0 a2_1 a2_2 a2_3 a2_4 l2_5)))) else (duetlaw12_ViewHidden.j0 k l0 a1 true a2_0 a2_1 a2_2 a2_3 a2_4 l2_5)) = some r := H
    have A6 := Aside0.mk A60
    clear A60
    by_cases c7 : t188 = true
    · subst c7
      have H1 : (if a1 < 0 then (duetlaw12_ViewHidden.j0 k l0 a1 true a2_0 a2_1 a2_2 a2_3 a2_4 l2_5) else (if a1 > (l0.length : Int) then (duetlaw12_ViewHidden.j0 k l0 a1 true a2_0 a2_1 a2_2 a2_3 a2_4 l2_5) else (if (l2_5.length : Int) < 1 then (duetlaw12_ViewHidden.j0 k l0 a1 true a2_0 a2_1 a2_2 a2_3 a2_4 l2_5) else (duetlaw12_ViewHidden.j0 k l0 a1 (decide ((l2_5.length : Int) > 20)) a2_0 a2_1 a2_2 a2_3 a2_4 l2_5)))) = some r := by rw [if_pos rfl] at H; exact H
      clear H
      have H := H1
      clear H1
      by_cases c8 : a1 < 0
      · rw [if_pos c8] at H
        have c8b0 : decide (a1 < 0) = true := decide_eq_true c8
        clear c8
        (first | rw [c8b0] | (simp only [i64_w, i32_w]; rw [c8b0]) | skip)
        have H' := Aside0.mk H
        clear H
        go_wp2_with (first | ((with_reducible refine gate_callee (f := 8) rfl ?_); refine goesL_ (some 9) rfl rfl Try.func8 (by kernel_rfl) rfl #[.slice A0 l0.length c0] rfl (by (try simp only [List.map_toArray, List.map_cons, List.map_nil]); first | done | rfl | (simp only [List.length_drop, List.length_take]; rfl)) ?_; (with_reducible refine (duetref12_Few.calls k _ _ l0 true _ ?side1 ?side2 A6.out).mono ?_); (case side1 => repeat (first | exact (Kd.V_reads' HO0.out).2.2 | (with_reducible refine Kd.C_alloc ?_ _) | (with_reducible refine Kd.C_drewN ?_ _) | (with_reducible refine Kd.C_drew ?_))); (case side2 => exact (Kd.V_reads' HO0.out).2.1); rintro e w' ⟨rfl, ⟨nd, rfl⟩⟩; refine ⟨_, rfl, ?_⟩))
        go_meet
        case rel => exact ⟨_, (true), (by first | rfl | (simp; done) | (simp [*]; done)), H', ⟨by first | omega | exact Nat.le_refl _⟩, ⟨by (with_reducible repeat (first | apply Kd.V_alloc | apply Kd.V_drewN | apply Kd.V_drew)); exact HO0.out⟩, ⟨by (with_reducible repeat (first | apply Kd.V_alloc | apply Kd.V_drewN | apply Kd.V_drew)); exact HO2_5.out⟩, ⟨by (with_reducible repeat (first | refine blk_drewN ?_ _ | refine blk_drew ?_ | refine blk_alloc ?_ _)); exact BK187.out⟩, ⟨by repeat (first | (with_reducible first | exact HB.out | apply below_alloc | apply pw_below_drewN | apply below_drew1 | refine below_set ?_ GE187.out) | exact HB.out)⟩⟩
      · rw [if_neg c8] at H
        have c8b0 : decide (a1 < 0) = false := decide_eq_false c8
        clear c8
        (first | rw [c8b0] | (simp only [i64_w, i32_w]; rw [c8b0]) | skip)
        by_cases c9 : a1 > (l0.length : Int)
        · rw [if_pos c9] at H
          have c9b0 : decide ((l0.length : Int) < a1) = true := decide_eq_true c9
          clear c9
          have H' := Aside0.mk H
          clear H
          go_wp2_with (first | ((with_reducible refine gate_callee (f := 8) rfl ?_); refine goesL_ (some 9) rfl rfl Try.func8 (by kernel_rfl) rfl #[.slice A0 l0.length c0] rfl (by (try simp only [List.map_toArray, List.map_cons, List.map_nil]); first | done | rfl | (simp only [List.length_drop, List.length_take]; rfl)) ?_; (with_reducible refine (duetref12_Few.calls k _ _ l0 true _ ?side1 ?side2 A6.out).mono ?_); (case side1 => repeat (first | exact (Kd.V_reads' HO0.out).2.2 | (with_reducible refine Kd.C_alloc ?_ _) | (with_reducible refine Kd.C_drewN ?_ _) | (with_reducible refine Kd.C_drew ?_))); (case side2 => exact (Kd.V_reads' HO0.out).2.1); rintro e w' ⟨rfl, ⟨nd, rfl⟩⟩; refine ⟨_, rfl, ?_⟩))
          go_meet
          case rel => exact ⟨_, (true), (by first | rfl | (simp; done) | (simp [*]; done)), H', ⟨by first | omega | exact Nat.le_refl _⟩, ⟨by (with_reducible repeat (first | apply Kd.V_alloc | apply Kd.V_drewN | apply Kd.V_drew)); exact HO0.out⟩, ⟨by (with_reducible repeat (first | apply Kd.V_alloc | apply Kd.V_drewN | apply Kd.V_drew)); exact HO2_5.out⟩, ⟨by (with_reducible repeat (first | refine blk_drewN ?_ _ | refine blk_drew ?_ | refine blk_alloc ?_ _)); exact BK187.out⟩, ⟨by repeat (first | (with_reducible first | exact HB.out | apply below_alloc | apply pw_below_drewN | apply below_drew1 | refine below_set ?_ GE187.out) | exact HB.out)⟩⟩
        · rw [if_neg c9] at H
          have c9b0 : decide ((l0.length : Int) < a1) = false := decide_eq_false c9
          clear c9
          by_cases c10 : (l2_5.length : Int) < 1
          · rw [if_pos c10] at H
            have c10b0 : decide ((l2_5.length : Int) < 1) = true := decide_eq_true c10
            have c10b1 : decide (l2_5.length < 1) = true := decide_eq_true (by omega)
            clear c10
            have H' := Aside0.mk H
            clear H
            go_wp2_with (first | ((with_reducible refine gate_callee (f := 8) rfl ?_); refine goesL_ (some 9) rfl rfl Try.func8 (by kernel_rfl) rfl #[.slice A0 l0.length c0] rfl (by (try simp only [List.map_toArray, List.map_cons, List.map_nil]); first | done | rfl | (simp only [List.length_drop, List.length_take]; rfl)) ?_; (with_reducible refine (duetref12_Few.calls k _ _ l0 true _ ?side1 ?side2 A6.out).mono ?_); (case side1 => repeat (first | exact (Kd.V_reads' HO0.out).2.2 | (with_reducible refine Kd.C_alloc ?_ _) | (with_reducible refine Kd.C_drewN ?_ _) | (with_reducible refine Kd.C_drew ?_))); (case side2 => exact (Kd.V_reads' HO0.out).2.1); rintro e w' ⟨rfl, ⟨nd, rfl⟩⟩; refine ⟨_, rfl, ?_⟩; have hcz11_0 : w5.cell? ⟨gb187, 0, none⟩ = some (.int .i64 a2_0) := (blk_cell BK187.out 0).trans rfl; have hcz11_1 : w5.cell? ⟨gb187, 1, none⟩ = some (.int .i64 a2_1) := (blk_cell BK187.out 1).trans rfl; have hcz11_2 : w5.cell? ⟨gb187, 2, none⟩ = some (.int .i64 a2_2) := (blk_cell BK187.out 2).trans rfl; have hcz11_3 : w5.cell? ⟨gb187, 3, none⟩ = some (.int .i64 a2_3) := (blk_cell BK187.out 3).trans rfl; have hcz11_4 : w5.cell? ⟨gb187, 4, none⟩ = some (.int .i64 a2_4) := (blk_cell BK187.out 4).trans rfl; have hcz11_5 : w5.cell? ⟨gb187, 5, none⟩ = some (.slice A2_5 l2_5.length c2_5) := (blk_cell BK187.out 5).trans rfl; have hfz11_0 := blk_frozen BK187.out 0; have hfz11_1 := blk_frozen BK187.out 1; have hfz11_2 := blk_frozen BK187.out 2; have hfz11_3 := blk_frozen BK187.out 3; have hfz11_4 := blk_frozen BK187.out 4; have hfz11_5 := blk_frozen BK187.out 5))
            go_meet
            case rel => exact ⟨_, (true), (by first | rfl | (simp; done) | (simp [*]; done)), H', ⟨by first | omega | exact Nat.le_refl _⟩, ⟨by (with_reducible repeat (first | apply Kd.V_alloc | apply Kd.V_drewN | apply Kd.V_drew)); exact HO0.out⟩, ⟨by (with_reducible repeat (first | apply Kd.V_alloc | apply Kd.V_drewN | apply Kd.V_drew)); exact HO2_5.out⟩, ⟨by (with_reducible repeat (first | refine blk_drewN ?_ _ | refine blk_drew ?_ | refine blk_alloc ?_ _)); exact BK187.out⟩, ⟨by repeat (first | (with_reducible first | exact HB.out | apply below_alloc | apply pw_below_drewN | apply below_drew1 | refine below_set ?_ GE187.out) | exact HB.out)⟩⟩
          · rw [if_neg c10] at H
            have c10b0 : decide ((l2_5.length : Int) < 1) = false := decide_eq_false c10
            have c10b1 : decide (l2_5.length < 1) = false := decide_eq_false (by omega)
            clear c10
            have H' := Aside0.mk H
            clear H
            go_wp2_with (first | ((with_reducible refine gate_callee (f := 8) rfl ?_); refine goesL_ (some 9) rfl rfl Try.func8 (by kernel_rfl) rfl #[.slice A0 l0.length c0] rfl (by (try simp only [List.map_toArray, List.map_cons, List.map_nil]); first | done | rfl | (simp only [List.length_drop, List.length_take]; rfl)) ?_; (with_reducible refine (duetref12_Few.calls k _ _ l0 true _ ?side1 ?side2 A6.out).mono ?_); (case side1 => repeat (first | exact (Kd.V_reads' HO0.out).2.2 | (with_reducible refine Kd.C_alloc ?_ _) | (with_reducible refine Kd.C_drewN ?_ _) | (with_reducible refine Kd.C_drew ?_))); (case side2 => exact (Kd.V_reads' HO0.out).2.1); rintro e w' ⟨rfl, ⟨nd, rfl⟩⟩; refine ⟨_, rfl, ?_⟩; have hcz12_0 : w5.cell? ⟨gb187, 0, none⟩ = some (.int .i64 a2_0) := (blk_cell BK187.out 0).trans rfl; have hcz12_1 : w5.cell? ⟨gb187, 1, none⟩ = some (.int .i64 a2_1) := (blk_cell BK187.out 1).trans rfl; have hcz12_2 : w5.cell? ⟨gb187, 2, none⟩ = some (.int .i64 a2_2) := (blk_cell BK187.out 2).trans rfl; have hcz12_3 : w5.cell? ⟨gb187, 3, none⟩ = some (.int .i64 a2_3) := (blk_cell BK187.out 3).trans rfl; have hcz12_4 : w5.cell? ⟨gb187, 4, none⟩ = some (.int .i64 a2_4) := (blk_cell BK187.out 4).trans rfl; have hcz12_5 : w5.cell? ⟨gb187, 5, none⟩ = some (.slice A2_5 l2_5.length c2_5) := (blk_cell BK187.out 5).trans rfl; have hfz12_0 := blk_frozen BK187.out 0; have hfz12_1 := blk_frozen BK187.out 1; have hfz12_2 := blk_frozen BK187.out 2; have hfz12_3 := blk_frozen BK187.out 3; have hfz12_4 := blk_frozen BK187.out 4; have hfz12_5 := blk_frozen BK187.out 5))
            go_meet
            case rel => exact ⟨_, (decide ((l2_5.length : Int) > 20)), (by first | rfl | (simp; done) | (simp [*]; done)), H', ⟨by first | omega | exact Nat.le_refl _⟩, ⟨by (with_reducible repeat (first | apply Kd.V_alloc | apply Kd.V_drewN | apply Kd.V_drew)); exact HO0.out⟩, ⟨by (with_reducible repeat (first | apply Kd.V_alloc | apply Kd.V_drewN | apply Kd.V_drew)); exact HO2_5.out⟩, ⟨by (with_reducible repeat (first | refine blk_drewN ?_ _ | refine blk_drew ?_ | refine blk_alloc ?_ _)); exact BK187.out⟩, ⟨by repeat (first | (with_reducible first | exact HB.out | apply below_alloc | apply pw_below_drewN | apply below_drew1 | refine below_set ?_ GE187.out) | exact HB.out)⟩⟩
    · replace c7 := Bool.eq_false_iff.mpr c7
      subst c7
      have H1 : (duetlaw12_ViewHidden.j0 k l0 a1 true a2_0 a2_1 a2_2 a2_3 a2_4 l2_5) = some r := by rw [if_neg (show ¬ (false = true) by decide)] at H; exact H
      clear H
      have H := H1
      clear H1
      have H' := Aside0.mk H
      clear H
      go_wp2_with (first | ((with_reducible refine gate_callee (f := 8) rfl ?_); refine goesL_ (some 9) rfl rfl Try.func8 (by kernel_rfl) rfl #[.slice A0 l0.length c0] rfl (by (try simp only [List.map_toArray, List.map_cons, List.map_nil]); first | done | rfl | (simp only [List.length_drop, List.length_take]; rfl)) ?_; (with_reducible refine (duetref12_Few.calls k _ _ l0 false _ ?side1 ?side2 A6.out).mono ?_); (case side1 => repeat (first | exact (Kd.V_reads' HO0.out).2.2 | (with_reducible refine Kd.C_alloc ?_ _) | (with_reducible refine Kd.C_drewN ?_ _) | (with_reducible refine Kd.C_drew ?_))); (case side2 => exact (Kd.V_reads' HO0.out).2.1); rintro e w' ⟨rfl, ⟨nd, rfl⟩⟩; refine ⟨_, rfl, ?_⟩))
      go_meet
      case rel => exact ⟨_, (true), (by first | rfl | (simp; done) | (simp [*]; done)), H', ⟨by first | omega | exact Nat.le_refl _⟩, ⟨by (with_reducible repeat (first | apply Kd.V_alloc | apply Kd.V_drewN | apply Kd.V_drew)); exact HO0.out⟩, ⟨by (with_reducible repeat (first | apply Kd.V_alloc | apply Kd.V_drewN | apply Kd.V_drew)); exact HO2_5.out⟩, ⟨by (with_reducible repeat (first | refine blk_drewN ?_ _ | refine blk_drew ?_ | refine blk_alloc ?_ _)); exact BK187.out⟩, ⟨by repeat (first | (with_reducible first | exact HB.out | apply below_alloc | apply pw_below_drewN | apply below_drew1 | refine below_set ?_ GE187.out) | exact HB.out)⟩⟩
  case rest =>
    clear HC4
    try clear c1
    try clear c2
    try clear p2
    try clear c6
    try clear c7
    try clear c8
    try clear c8b0
    try clear c9
    try clear c9b0
    try clear c10
    try clear c10b0
    try clear c10b1
    try clear hcz11_0
    try clear hcz11_1
    try clear hcz11_2
    try clear hcz11_3
    try clear hcz11_4
    try clear hcz11_5
    try clear hcz12_0
    try clear hcz12_1
    try clear hcz12_2
    try clear hcz12_3
    try clear hcz12_4
    try clear hcz12_5
    try clear hfz11_0
    try clear hfz11_1
    try clear hfz11_2
    try clear hfz11_3
    try clear hfz11_4
    try clear hfz11_5
    try clear hfz12_0
    try clear hfz12_1
    try clear hfz12_2
    try clear hfz12_3
    try clear hfz12_4
    try clear hfz12_5
    obtain ⟨kq, x32_3, rfl, HA, HJ3, HO_0, HO_188005, BK187, HB⟩ := hcut
    cases kq with
    | zero => exact absurd HA.out (by simp [duetlaw12_ViewHidden.j0])
    | succ kj3 =>
      have H := HA.out
      clear HA
      simp only [duetlaw12_ViewHidden.j0] at H
      by_cases c13 : x32_3 = true
      · subst c13
        have H1 : ((duetlaw12_live.f kj3).bind fun t189 => (some t189)) = some r := by rw [if_pos rfl] at H; exact H
        clear H
        have H := H1
        clear H1
        replace H := Option.bind_eq_some_iff.mp H
        obtain ⟨t189, A140, H⟩ := H
        replace H : (some t189) = some r := H
        have A14 := Aside0.mk A140
        clear A140
        obtain rfl := Option.some.inj H
        go_wp2_with (first | ((with_reducible refine gate_callee (f := 9) rfl ?_); refine goesL_ (some 33) rfl rfl Try.func9 (by kernel_rfl) rfl #[] rfl (by (try simp only [List.map_toArray, List.map_cons, List.map_nil]); first | done | rfl | (simp only [List.length_drop, List.length_take]; rfl)) ?_; (with_reducible refine (duetlaw12_live.calls kj3  t189 _ ?side1 A14.out).mono ?_); (case side1 => exact hr_); rintro e w15 ⟨rfl, hb⟩; refine ⟨_, rfl, ?_⟩; have n0_ := Aside0.mk (Kd.V_below (by (with_reducible repeat (first | apply Kd.V_alloc | apply Kd.V_drewN | apply Kd.V_drew)); exact HO_0.out) hb); have n1_ := Aside0.mk (Kd.V_below (by (with_reducible repeat (first | apply Kd.V_alloc | apply Kd.V_drewN | apply Kd.V_drew)); exact HO_188005.out) hb); have n2_ := Aside0.mk (blk_below (g := gb187) (o := .cells #[.int .i64 a2_0, .int .i64 a2_1, .int .i64 a2_2, .int .i64 a2_3, .int .i64 a2_4, .slice A2_5 l2_5.length c2_5] 44 (0, 0)) (by (with_reducible repeat (first | refine blk_drewN ?_ _ | refine blk_drew ?_ | refine blk_alloc ?_ _)); exact BK187.out) hb); have n3_ := Aside0.mk (below_step (by repeat (first | (with_reducible first | exact HB.out | apply below_alloc | apply pw_below_drewN | apply below_drew1 | refine below_set ?_ GE187.out) | exact HB.out)) hb); clear HO_0; clear HO_188005; clear BK187; clear HB; have HO_0 := n0_; have HO_188005 := n1_; have BK187 := n2_; have HB := n3_; clear n0_ n1_ n2_ n3_; (try clear hb); (try clear hb2); (try clear hk); (try clear hi)))
        go_ret
        exact ⟨by first | rfl | (simp [errW_none, errW_some] <;> rfl) | (simp [*, errW_none, errW_some] <;> rfl), by repeat (first | (with_reducible first | exact HB.out | apply below_alloc | apply pw_below_drewN | apply below_drew1 | refine below_set ?_ GE187.out) | exact HB.out)⟩
      · replace c13 := Bool.eq_false_iff.mpr c13
        subst c13
        have H1 : (if 0 ≤ a1 then (if a1 ≤ (l0.length : Int) then ((some (l0.take (a1 : Int).toNat : List (S44))).bind fun y190 => (if ([] : List (S44)).length + y190.length < 2199023255552 then ((some (([] : List (S44)) ++ y190 : List (S44))).bind fun y195 => (if y195.length < 2199023255552 then ((some (y195 ++ [(⟨(⟨a2_0, a2_1⟩ : S24), (⟨a2_2, a2_3⟩ : S24), a2_4, l2_5⟩ : S44)] : List (S44))).bind fun y198 => ((some (l0.drop (a1 : Int).toNat : List (S44))).bind fun y201 => (if y198.length + y201.length < 2199023255552 then ((some (y198 ++ y201 : List (S44))).bind fun y206 => ((view_Text.f y206).bind fun t209 => ((view_Text.f l0).bind fun t210 => (if t209.toList = t210.toList then ((view_Seen.f y206).bind fun t211 => ((view_Seen.f l0).bind fun t214 => (if (t211.length : Int) = (t214.length : Int) then ((duetlaw12_live.f kj3).bind fun t217 => (some t217)) else (some false)))) else (some false))))) else (none)))) else (none))) else (none))) else (none)) else (none)) = some r := by rw [if_neg (show ¬ (false = true) by decide)] at H; exact H
        clear H
        have H := H1
        clear H1
        by_cases c16 : 0 ≤ a1
        · rw [if_pos c16] at H
          have c16b0 := eq_true c16
          have c16b1 : decide (0 ≤ a1) = true := decide_eq_true c16
          clear c16
          by_cases c17 : a1 ≤ (l0.length : Int)
          · rw [if_pos c17] at H
            have c17b0 := eq_true c17
            have c17b1 : decide (a1 ≤ (l0.length : Int)) = true := decide_eq_true c17
            clear c17
            obtain ⟨y190, hy190⟩ : ∃ y_ : List (S44), y_ = (l0.take (a1 : Int).toNat) := ⟨_, rfl⟩
            replace H : (if ([] : List (S44)).length + y190.length < 2199023255552 then ((some (([] : List (S44)) ++ y190 : List (S44))).bind fun y195 => (if y195.length < 2199023255552 then ((some (y195 ++ [(⟨(⟨a2_0, a2_1⟩ : S24), (⟨a2_2, a2_3⟩ : S24), a2_4, l2_5⟩ : S44)] : List (S44))).bind fun y198 => ((some (l0.drop (a1 : Int).toNat : List (S44))).bind fun y201 => (if y198.length + y201.length < 2199023255552 then ((some (y198 ++ y201 : List (S44))).bind fun y206 => ((view_Text.f y206).bind fun t209 => ((view_Text.f l0).bind fun t210 => (if t209.toList = t210.toList then ((view_Seen.f y206).bind fun t211 => ((view_Seen.f l0).bind fun t214 => (if (t211.length : Int) = (t214.length : Int) then ((duetlaw12_live.f kj3).bind fun t217 => (some t217)) else (some false)))) else (some false))))) else (none)))) else (none))) else (none)) = some r := by first | (rw [hy190]; with_reducible exact H) | (have H2_ := (Option.bind_some _ _).symm.trans H; rw [hy190]; with_reducible exact H2_) | (have H2_ := (Option.bind_some _ _).symm.trans H; with_reducible exact H2_) | with_reducible exact H | (rw [hy190]; exact H) | exact H
            have Ny190 := Aside0.mk hy190
            clear hy190
            by_cases c18 : ([] : List (S44)).length + y190.length < 2199023255552
            · rw [if_pos c18] at H
              have LMc18 := Aside0.mk c18
              clear c18
              obtain ⟨y195, hy195⟩ : ∃ y_ : List (S44), y_ = (([] : List (S44)) ++ y190) := ⟨_, rfl⟩
              replace H : (if y195.length < 2199023255552 then ((some (y195 ++ [(⟨(⟨a2_0, a2_1⟩ : S24), (⟨a2_2, a2_3⟩ : S24), a2_4, l2_5⟩ : S44)] : List (S44))).bind fun y198 => ((some (l0.drop (a1 : Int).toNat : List (S44))).bind fun y201 => (if y198.length + y201.length < 2199023255552 then ((some (y198 ++ y201 : List (S44))).bind fun y206 => ((view_Text.f y206).bind fun t209 => ((view_Text.f l0).bind fun t210 => (if t209.toList = t210.toList then ((view_Seen.f y206).bind fun t211 => ((view_Seen.f l0).bind fun t214 => (if (t211.length : Int) = (t214.length : Int) then ((duetlaw12_live.f kj3).bind fun t217 => (some t217)) else (some false)))) else (some false))))) else (none)))) else (none)) = some r := by first | (rw [hy195]; with_reducible exact H) | (have H2_ := (Option.bind_some _ _).symm.trans H; rw [hy195]; with_reducible exact H2_) | (have H2_ := (Option.bind_some _ _).symm.trans H; with_reducible exact H2_) | with_reducible exact H | (rw [hy195]; exact H) | exact H
              have Ny195 := Aside0.mk hy195
              clear hy195
              by_cases c19 : y195.length < 2199023255552
              · rw [if_pos c19] at H
                have LMc19 := Aside0.mk c19
                clear c19
                obtain ⟨y198, hy198⟩ : ∃ y_ : List (S44), y_ = (y195 ++ [(⟨(⟨a2_0, a2_1⟩ : S24), (⟨a2_2, a2_3⟩ : S24), a2_4, l2_5⟩ : S44)]) := ⟨_, rfl⟩
                replace H : ((some (l0.drop (a1 : Int).toNat : List (S44))).bind fun y201 => (if y198.length + y201.length < 2199023255552 then ((some (y198 ++ y201 : List (S44))).bind fun y206 => ((view_Text.f y206).bind fun t209 => ((view_Text.f l0).bind fun t210 => (if t209.toList = t210.toList then ((view_Seen.f y206).bind fun t211 => ((view_Seen.f l0).bind fun t214 => (if (t211.length : Int) = (t214.length : Int) then ((duetlaw12_live.f kj3).bind fun t217 => (some t217)) else (some false)))) else (some false))))) else (none))) = some r := by first | (rw [hy198]; with_reducible exact H) | (have H2_ := (Option.bind_some _ _).symm.trans H; rw [hy198]; with_reducible exact H2_) | (have H2_ := (Option.bind_some _ _).symm.trans H; with_reducible exact H2_) | with_reducible exact H | (rw [hy198]; exact H) | exact H
                have Ny198 := Aside0.mk hy198
                clear hy198
                have c20b0 := eq_true (of_decide_eq_true (by first | (with_reducible assumption) | assumption) : 0 ≤ a1)
                have c21b0 := eq_true (of_decide_eq_true (by first | (with_reducible assumption) | assumption) : a1 ≤ (l0.length : Int))
                obtain ⟨y201, hy201⟩ : ∃ y_ : List (S44), y_ = (l0.drop (a1 : Int).toNat) := ⟨_, rfl⟩
                replace H : (if y198.length + y201.length < 2199023255552 then ((some (y198 ++ y201 : List (S44))).bind fun y206 => ((view_Text.f y206).bind fun t209 => ((view_Text.f l0).bind fun t210 => (if t209.toList = t210.toList then ((view_Seen.f y206).bind fun t211 => ((view_Seen.f l0).bind fun t214 => (if (t211.length : Int) = (t214.length : Int) then ((duetlaw12_live.f kj3).bind fun t217 => (some t217)) else (some false)))) else (some false))))) else (none)) = some r := by first | (rw [hy201]; with_reducible exact H) | (have H2_ := (Option.bind_some _ _).symm.trans H; rw [hy201]; with_reducible exact H2_) | (have H2_ := (Option.bind_some _ _).symm.trans H; with_reducible exact H2_) | with_reducible exact H | (rw [hy201]; exact H) | exact H
                have Ny201 := Aside0.mk hy201
                clear hy201
                by_cases c22 : y198.length + y201.length < 2199023255552
                · rw [if_pos c22] at H
                  have LMc22 := Aside0.mk c22
                  clear c22
                  obtain ⟨y206, hy206⟩ : ∃ y_ : List (S44), y_ = (y198 ++ y201) := ⟨_, rfl⟩
                  replace H : ((view_Text.f y206).bind fun t209 => ((view_Text.f l0).bind fun t210 => (if t209.toList = t210.toList then ((view_Seen.f y206).bind fun t211 => ((view_Seen.f l0).bind fun t214 => (if (t211.length : Int) = (t214.length : Int) then ((duetlaw12_live.f kj3).bind fun t217 => (some t217)) else (some false)))) else (some false)))) = some r := by first | (rw [hy206]; with_reducible exact H) | (have H2_ := (Option.bind_some _ _).symm.trans H; rw [hy206]; with_reducible exact H2_) | (have H2_ := (Option.bind_some _ _).symm.trans H; with_reducible exact H2_) | with_reducible exact H | (rw [hy206]; exact H) | exact H
                  have Ny206 := Aside0.mk hy206
                  clear hy206
                  replace H := Option.bind_eq_some_iff.mp H
                  obtain ⟨t209, A230, H⟩ := H
                  replace H : ((view_Text.f l0).bind fun t210 => (if t209.toList = t210.toList then ((view_Seen.f y206).bind fun t211 => ((view_Seen.f l0).bind fun t214 => (if (t211.length : Int) = (t214.length : Int) then ((duetlaw12_live.f kj3).bind fun t217 => (some t217)) else (some false)))) else (some false))) = some r := H
                  have A23 := Aside0.mk A230
                  clear A230
                  replace H := Option.bind_eq_some_iff.mp H
                  obtain ⟨t210, A240, H⟩ := H
                  replace H : (if t209.toList = t210.toList then ((view_Seen.f y206).bind fun t211 => ((view_Seen.f l0).bind fun t214 => (if (t211.length : Int) = (t214.length : Int) then ((duetlaw12_live.f kj3).bind fun t217 => (some t217)) else (some false)))) else (some false)) = some r := H
                  have A24 := Aside0.mk A240
                  clear A240
                  by_cases c25 : t209.toList = t210.toList
                  · rw [if_pos c25] at H
                    have c25b0 : (t209.toList == t210.toList) = true := beq_iff_eq.mpr c25
                    have c25b1 : (t209.toList != t210.toList) = false := bne_eq_false_iff_eq.mpr c25
                    clear c25
                    replace H := Option.bind_eq_some_iff.mp H
                    obtain ⟨t211, A260, H⟩ := H
                    replace H : ((view_Seen.f l0).bind fun t214 => (if (t211.length : Int) = (t214.length : Int) then ((duetlaw12_live.f kj3).bind fun t217 => (some t217)) else (some false))) = some r := H
                    have A26 := Aside0.mk A260
                    clear A260
                    replace H := Option.bind_eq_some_iff.mp H
                    obtain ⟨t214, A270, H⟩ := H
                    replace H : (if (t211.length : Int) = (t214.length : Int) then ((duetlaw12_live.f kj3).bind fun t217 => (some t217)) else (some false)) = some r := H
                    have A27 := Aside0.mk A270
                    clear A270
                    by_cases c28 : (t211.length : Int) = (t214.length : Int)
                    · rw [if_pos c28] at H
                      have c28b0 : ((t211.length : Int) == (t214.length : Int)) = true := beq_iff_eq.mpr c28
                      have c28b1 : ((t211.length : Int) != (t214.length : Int)) = false := bne_eq_false_iff_eq.mpr c28
                      have c28b2 : (t211.length == t214.length) = true := by first | simpa using c28 | (simp at c28 ⊢; omega)
                      clear c28
                      replace H := Option.bind_eq_some_iff.mp H
                      obtain ⟨t217, A290, H⟩ := H
                      replace H : (some t217) = some r := H
                      have A29 := Aside0.mk A290
                      clear A290
                      obtain rfl := Option.some.inj H
                      have q30 : (a1 : Int) ≤ ((l0.length : Int) : Int) := of_decide_eq_true (by first | (with_reducible assumption) | assumption)
                      obtain ⟨i030, hi030, _, hsz30, _⟩ := info_parts info44
                      have hroom30 : l0.length ≤ c0 := (Kd.V_reads' HO_0.out).2.1
                      have hC30 : Kd.F k44 _ _ A0 l0.length l0 := (Kd.V_at (base := w.heap.size) HO_0.out).2.2
                      have hcut30 := cut_to (P := Try.prog) 22 44 .i64 Try.underlying22 hi030 A0 l0.length c0 a1 (of_decide_eq_true (by first | (with_reducible assumption) | assumption)) q30 hroom30
                      have hr30 := Kd.F_take (m := (a1 : Int).toNat) hC30 (by omega)
                      have hy30 : y190.length = (a1 : Int).toNat := (by rw [Ny190.out, List.length_take]; omega)
                      rw [← Ny190.out] at hr30
                      rw [← hy30] at hcut30
                      have HO194 := Aside0.mk (show Kd.V k44 44 _ w.heap.size _ (.slice A0 y190.length c0) y190 from Kd.V_mk (by omega) hr30)
                      have HC194 := Aside0.mk (show y190.length ≤ c0 from by omega)
                      clear hr30 hC30 hroom30 hi030 hsz30
                      have KY30 := Aside0.mk hy30
                      clear hy30
                      replace q30 := eq_true q30
                      go_wp2_with (first | ((with_reducible refine gate_builtin (b := .append) (xs := #[.tmp 34, .tmp 37]) rfl ?_); (try (refine gate_guard (by rfl) ?_; dsimp only)); at_builtin; refine Kd.N_append_rows k44 (w0 := w) w.heap.size rfl (.tmp 34) (.tmp 37) 22 44 (.agg #[(.int .i64 0), (.int .i64 0), (.int .i64 0), (.int .i64 0), (.int .i64 0), (.slice none 0 0)]) 64 rfl Try.underlying22 info44 rfl (by decide) (by omega) (.slice none 0 0) ([] : List (S44)) y190 _ _ _ (fun k_ => ((P0_ k_ ∨ P2_5_ k_) ∨ w.heap.size ≤ k_) ∧ k_ ≠ gb187) (fun k_ => ((fun k_ => ((P0_ k_ ∨ P2_5_ k_) ∨ w.heap.size ≤ k_) ∧ k_ ≠ gb187)) k_ ∧ some k_ ≠ (.slice none 0 0 : Value).ownBlock) rfl rfl ?aO ?aR (fun _ hk => hk) ?aF ?aB ?aS ?aL ?_; (case aR => exact (by skip; exact Kd.V_F (Kd.V_mono (ok' := (fun k_ => ((fun k_ => ((P0_ k_ ∨ P2_5_ k_) ∨ w.heap.size ≤ k_) ∧ k_ ≠ gb187)) k_ ∧ some k_ ≠ (.slice none 0 0 : Value).ownBlock)) (HO194.out) (fun k_ hk => ⟨⟨hk.1, hk.2⟩, (by simp [Value.ownBlock])⟩)))); (case aB => exact (by repeat (first | (with_reducible first | exact HB.out | apply below_alloc | apply pw_below_drewN | apply below_drew1 | refine below_set ?_ GE187.out) | exact HB.out))); (case aF => exact (fun k_ hk => ⟨(.inr (Nat.le_trans (below_size (by repeat (first | (with_reducible first | exact HB.out | apply below_alloc | apply pw_below_drewN | apply below_drew1 | refine below_set ?_ GE187.out) | exact HB.out))) hk)), Kd.freshB (g := gb187) (o := .cells #[.int .i64 a2_0, .int .i64 a2_1, .int .i64 a2_2, .int .i64 a2_3, .int .i64 a2_4, .slice A2_5 l2_5.length c2_5] 44 (0, 0)) (by (with_reducible repeat (first | refine blk_drewN ?_ _ | refine blk_drew ?_ | refine blk_alloc ?_ _)); exact BK187.out) k_ hk⟩)); (case aO => exact ((Kd.N_nil _ _ _ _ (fun k_ => ((P0_ k_ ∨ P2_5_ k_) ∨ w.heap.size ≤ k_) ∧ k_ ≠ gb187)))); (case aS => exact (below_size (by repeat (first | (with_reducible first | exact HB.out | apply below_alloc | apply pw_below_drewN | apply below_drew1 | refine below_set ?_ GE187.out) | exact HB.out)))); (case aL => have := LMc18.out; omega); intro v196 w31 ho hb hg hat; rw [← Ny195.out] at ho; have n0_ := Aside0.mk (Kd.V_afterv (Kd.V_apart_nil (by (with_reducible repeat (first | apply Kd.V_alloc | apply Kd.V_drewN | apply Kd.V_drew)); exact HO_0.out)) hg hat); have n1_ := Aside0.mk (Kd.V_afterv (Kd.V_apart_nil (by (with_reducible repeat (first | apply Kd.V_alloc | apply Kd.V_drewN | apply Kd.V_drew)); exact HO_188005.out)) hg hat); have n2_ := Aside0.mk (blk_grown (g := gb187) (o := .cells #[.int .i64 a2_0, .int .i64 a2_1, .int .i64 a2_2, .int .i64 a2_3, .int .i64 a2_4, .slice A2_5 l2_5.length c2_5] 44 (0, 0)) (by (with_reducible repeat (first | refine blk_drewN ?_ _ | refine blk_drew ?_ | refine blk_alloc ?_ _)); exact BK187.out) hg (by simp [Value.ownBlock])); have n3_ := Aside0.mk (Kd.V_afterv (Kd.V_apart_nil (by (with_reducible repeat (first | apply Kd.V_alloc | apply Kd.V_drewN | apply Kd.V_drew)); exact HO194.out)) hg hat); have n4_ := Aside0.mk (hb); have n5_ := Aside0.mk (ho); clear HO_0; clear HO_188005; clear BK187; clear HO194; clear HB; have HO_0 := n0_; have HO_188005 := n1_; have BK187 := n2_; have HO194 := n3_; have HB := n4_; have HO197 := n5_; clear n0_ n1_ n2_ n3_ n4_ n5_; clear ho hb hg hat; have hcz32_0 : w31.cell? ⟨gb187, 0, none⟩ = some (.int .i64 a2_0) := (blk_cell BK187.out 0).trans rfl; have hcz32_1 : w31.cell? ⟨gb187, 1, none⟩ = some (.int .i64 a2_1) := (blk_cell BK187.out 1).trans rfl; have hcz32_2 : w31.cell? ⟨gb187, 2, none⟩ = some (.int .i64 a2_2) := (blk_cell BK187.out 2).trans rfl; have hcz32_3 : w31.cell? ⟨gb187, 3, none⟩ = some (.int .i64 a2_3) := (blk_cell BK187.out 3).trans rfl; have hcz32_4 : w31.cell? ⟨gb187, 4, none⟩ = some (.int .i64 a2_4) := (blk_cell BK187.out 4).trans rfl; have hcz32_5 : w31.cell? ⟨gb187, 5, none⟩ = some (.slice A2_5 l2_5.length c2_5) := (blk_cell BK187.out 5).trans rfl; have hfz32_0 := blk_frozen BK187.out 0; have hfz32_1 := blk_frozen BK187.out 1; have hfz32_2 := blk_frozen BK187.out 2; have hfz32_3 := blk_frozen BK187.out 3; have hfz32_4 := blk_frozen BK187.out 4; have hfz32_5 := blk_frozen BK187.out 5) | ((with_reducible refine gate_builtin (b := .append) (xs := #[.tmp 39, .tmp 41]) rfl ?_); (try (refine gate_guard (by rfl) ?_; dsimp only)); at_builtin; refine Kd.N_append k44 (w0 := w) w.heap.size rfl (.tmp 39) (.tmp 41) 22 44 (.agg #[(.int .i64 0), (.int .i64 0), (.int .i64 0), (.int .i64 0), (.int .i64 0), (.slice none 0 0)]) 64 rfl Try.underlying22 info44 rfl (by decide) (by omega) v196 y195 (⟨(⟨a2_0, a2_1⟩ : S24), (⟨a2_2, a2_3⟩ : S24), a2_4, l2_5⟩ : S44) [.int .i64 a2_0, .int .i64 a2_1, .int .i64 a2_2, .int .i64 a2_3, .int .i64 a2_4, .slice A2_5 l2_5.length c2_5] (fun k_ => ((P0_ k_ ∨ P2_5_ k_) ∨ w.heap.size ≤ k_) ∧ k_ ≠ gb187) (fun k_ => ((fun k_ => ((P0_ k_ ∨ P2_5_ k_) ∨ w.heap.size ≤ k_) ∧ k_ ≠ gb187)) k_ ∧ some k_ ≠ (v196 : Value).ownBlock) rfl rfl ?aP (fun _ hk => hk) ?aF ?aO ?aB ?aS ?aL ?_; (case aP => exact (k44_mkF _ _ (⟨(⟨a2_0, a2_1⟩ : S24), (⟨a2_2, a2_3⟩ : S24), a2_4, l2_5⟩ : S44) (Kd.V_reads' (Kd.V_mono (ok' := (fun k_ => ((fun k_ => ((P0_ k_ ∨ P2_5_ k_) ∨ w.heap.size ≤ k_) ∧ k_ ≠ gb187)) k_ ∧ some k_ ≠ (v196 : Value).ownBlock)) (HO_188005.out) (fun k_ hk => ⟨⟨hk.1.1, hk.1.2⟩, hk.2⟩))).2.1 (Kd.V_F (Kd.V_mono (ok' := (fun k_ => ((fun k_ => ((P0_ k_ ∨ P2_5_ k_) ∨ w.heap.size ≤ k_) ∧ k_ ≠ gb187)) k_ ∧ some k_ ≠ (v196 : Value).ownBlock)) (HO_188005.out) (fun k_ hk => ⟨⟨hk.1.1, hk.1.2⟩, hk.2⟩))))); (case aB => exact (by repeat (first | (with_reducible first | exact HB.out | apply below_alloc | apply pw_below_drewN | apply below_drew1 | refine below_set ?_ GE187.out) | exact HB.out))); (case aF => exact (fun k_ hk => ⟨(.inr (Nat.le_trans (below_size (by repeat (first | (with_reducible first | exact HB.out | apply below_alloc | apply pw_below_drewN | apply below_drew1 | refine below_set ?_ GE187.out) | exact HB.out))) hk)), Kd.freshB (g := gb187) (o := .cells #[.int .i64 a2_0, .int .i64 a2_1, .int .i64 a2_2, .int .i64 a2_3, .int .i64 a2_4, .slice A2_5 l2_5.length c2_5] 44 (0, 0)) (by (with_reducible repeat (first | refine blk_drewN ?_ _ | refine blk_drew ?_ | refine blk_alloc ?_ _)); exact BK187.out) k_ hk⟩)); (case aO => exact (by (with_reducible repeat (first | apply Kd.N_alloc | apply Kd.N_drewN | apply Kd.N_drew)); exact HO197.out)); (case aS => exact (below_size (by repeat (first | (with_reducible first | exact HB.out | apply below_alloc | apply pw_below_drewN | apply below_drew1 | refine below_set ?_ GE187.out) | exact HB.out)))); (case aL => have := LMc19.out; omega); intro v199 w33 ho hb hg hat; rw [← Ny198.out] at ho; have n0_ := Aside0.mk (Kd.V_afterv (ok := (fun k_ => ((P0_ k_ ∨ P2_5_ k_) ∨ w.heap.size ≤ k_) ∧ k_ ≠ gb187)) (by (with_reducible repeat (first | apply Kd.V_alloc | apply Kd.V_drewN | apply Kd.V_drew)); exact HO_0.out) hg hat); have n1_ := Aside0.mk (Kd.V_afterv (ok := (fun k_ => ((P0_ k_ ∨ P2_5_ k_) ∨ w.heap.size ≤ k_) ∧ k_ ≠ gb187)) (by (with_reducible repeat (first | apply Kd.V_alloc | apply Kd.V_drewN | apply Kd.V_drew)); exact HO_188005.out) hg hat); have n2_ := Aside0.mk (blk_grown (g := gb187) (o := .cells #[.int .i64 a2_0, .int .i64 a2_1, .int .i64 a2_2, .int .i64 a2_3, .int .i64 a2_4, .slice A2_5 l2_5.length c2_5] 44 (0, 0)) (by (with_reducible repeat (first | refine blk_drewN ?_ _ | refine blk_drew ?_ | refine blk_alloc ?_ _)); exact BK187.out) hg (Kd.N_away HO197.out (fun _ hk => hk.2))); have n3_ := Aside0.mk (Kd.V_afterv (ok := (fun k_ => ((P0_ k_ ∨ P2_5_ k_) ∨ w.heap.size ≤ k_) ∧ k_ ≠ gb187)) (by (with_reducible repeat (first | apply Kd.V_alloc | apply Kd.V_drewN | apply Kd.V_drew)); exact HO194.out) hg hat); have n4_ := Aside0.mk (hb); have n5_ := Aside0.mk (ho); clear HO_0; clear HO_188005; clear BK187; clear HO194; clear HB; clear HO197; have HO_0 := n0_; have HO_188005 := n1_; have BK187 := n2_; have HO194 := n3_; have HB := n4_; have HO200 := n5_; clear n0_ n1_ n2_ n3_ n4_ n5_; clear ho hb hg hat; have q34 : (a1 : Int) ≤ ((l0.length : Int) : Int) := of_decide_eq_true (by first | (with_reducible assumption) | assumption); obtain ⟨i034, hi034, _, hsz34, _⟩ := info_parts info44; have hroom34 : l0.length ≤ c0 := (Kd.V_reads' HO_0.out).2.1; have hC34 : Kd.F k44 _ _ A0 l0.length l0 := (Kd.V_at (base := w.heap.size) HO_0.out).2.2; have q034 : (0 : Int) ≤ (a1 : Int) := of_decide_eq_true (by first | (with_reducible assumption) | assumption); have hcut34 := cut_from (P := Try.prog) 22 44 .i64 Try.underlying22 hi034 6 hsz34 A0 l0.length c0 a1 q034 q34; have hr34 := Kd.F_cut (m := (a1 : Int).toNat) (c := c0) hC34 (by omega) hroom34; obtain ⟨A34, hA34⟩ : ∃ A1, A1 = (if c0 = (a1 : Int).toNat then A0 else (A0 : Option Addr).map (·.add ((a1 : Int).toNat * 6))) := ⟨_, rfl⟩; obtain ⟨c34, hc34⟩ : ∃ c1, c1 = c0 - (a1 : Int).toNat := ⟨_, rfl⟩; have hy34 : y201.length = l0.length - (a1 : Int).toNat := (by rw [Ny201.out, List.length_drop] <;> omega); rw [show (l0).drop (a1 : Int).toNat = y201 from Ny201.out.symm] at hr34; replace hr34 : Kd.F k44 _ _ A34 y201.length y201 := (by rw [hA34]; exact hr34); rw [← hy34, ← hA34, ← hc34] at hcut34; have HO205 := Aside0.mk (show Kd.V k44 44 _ w.heap.size _ (.slice A34 y201.length c34) y201 from Kd.V_mk (by rw [hy34, hc34]; exact Nat.sub_le_sub_right hroom34 _) hr34); have HC205 := Aside0.mk (show y201.length ≤ c34 from by rw [hy34, hc34]; exact Nat.sub_le_sub_right hroom34 _); clear hr34 hC34 hroom34 hi034 hsz34 hc34; have KY34 := Aside0.mk hy34; have KA34 := Aside0.mk hA34; clear hy34 hA34; replace q34 := eq_true q34) | ((with_reducible refine gate_builtin (b := .append) (xs := #[.tmp 43, .tmp 46]) rfl ?_); (try (refine gate_guard (by rfl) ?_; dsimp only)); at_builtin; refine Kd.N_append_rows k44 (w0 := w) w.heap.size rfl (.tmp 43) (.tmp 46) 22 44 (.agg #[(.int .i64 0), (.int .i64 0), (.int .i64 0), (.int .i64 0), (.int .i64 0), (.slice none 0 0)]) 64 rfl Try.underlying22 info44 rfl (by decide) (by omega) v199 y198 y201 _ _ _ (fun k_ => ((P0_ k_ ∨ P2_5_ k_) ∨ w.heap.size ≤ k_) ∧ k_ ≠ gb187) (fun k_ => ((fun k_ => ((P0_ k_ ∨ P2_5_ k_) ∨ w.heap.size ≤ k_) ∧ k_ ≠ gb187)) k_ ∧ some k_ ≠ (v199 : Value).ownBlock) rfl rfl ?aO ?aR (fun _ hk => hk) ?aF ?aB ?aS ?aL ?_; (case aR => exact (by skip; exact Kd.V_F (Kd.V_mono (ok' := (fun k_ => ((fun k_ => ((P0_ k_ ∨ P2_5_ k_) ∨ w.heap.size ≤ k_) ∧ k_ ≠ gb187)) k_ ∧ some k_ ≠ (v199 : Value).ownBlock)) (HO205.out) (fun k_ hk => ⟨⟨hk.1.1, hk.1.2⟩, hk.2⟩)))); (case aB => exact (by repeat (first | (with_reducible first | exact HB.out | apply below_alloc | apply pw_below_drewN | apply below_drew1 | refine below_set ?_ GE187.out) | exact HB.out))); (case aF => exact (fun k_ hk => ⟨(.inr (Nat.le_trans (below_size (by repeat (first | (with_reducible first | exact HB.out | apply below_alloc | apply pw_below_drewN | apply below_drew1 | refine below_set ?_ GE187.out) | exact HB.out))) hk)), Kd.freshB (g := gb187) (o := .cells #[.int .i64 a2_0, .int .i64 a2_1, .int .i64 a2_2, .int .i64 a2_3, .int .i64 a2_4, .slice A2_5 l2_5.length c2_5] 44 (0, 0)) (by (with_reducible repeat (first | refine blk_drewN ?_ _ | refine blk_drew ?_ | refine blk_alloc ?_ _)); exact BK187.out) k_ hk⟩)); (case aO => exact (by (with_reducible repeat (first | apply Kd.N_alloc | apply Kd.N_drewN | apply Kd.N_drew)); exact HO200.out)); (case aS => exact (below_size (by repeat (first | (with_reducible first | exact HB.out | apply below_alloc | apply pw_below_drewN | apply below_drew1 | refine below_set ?_ GE187.out) | exact HB.out)))); (case aL => have := LMc22.out; omega); intro v207 w35 ho hb hg hat; rw [← Ny206.out] at ho; have n0_ := Aside0.mk (Kd.V_afterv (ok := (fun k_ => ((P0_ k_ ∨ P2_5_ k_) ∨ w.heap.size ≤ k_) ∧ k_ ≠ gb187)) (by (with_reducible repeat (first | apply Kd.V_alloc | apply Kd.V_drewN | apply Kd.V_drew)); exact HO_0.out) hg hat); have n1_ := Aside0.mk (Kd.V_afterv (ok := (fun k_ => ((P0_ k_ ∨ P2_5_ k_) ∨ w.heap.size ≤ k_) ∧ k_ ≠ gb187)) (by (with_reducible repeat (first | apply Kd.V_alloc | apply Kd.V_drewN | apply Kd.V_drew)); exact HO_188005.out) hg hat); have n2_ := Aside0.mk (blk_grown (g := gb187) (o := .cells #[.int .i64 a2_0, .int .i64 a2_1, .int .i64 a2_2, .int .i64 a2_3, .int .i64 a2_4, .slice A2_5 l2_5.length c2_5] 44 (0, 0)) (by (with_reducible repeat (first | refine blk_drewN ?_ _ | refine blk_drew ?_ | refine blk_alloc ?_ _)); exact BK187.out) hg (Kd.N_away HO200.out (fun _ hk => hk.2))); have n3_ := Aside0.mk (Kd.V_afterv (ok := (fun k_ => ((P0_ k_ ∨ P2_5_ k_) ∨ w.heap.size ≤ k_) ∧ k_ ≠ gb187)) (by (with_reducible repeat (first | apply Kd.V_alloc | apply Kd.V_drewN | apply Kd.V_drew)); exact HO194.out) hg hat); have n4_ := Aside0.mk (Kd.V_afterv (ok := (fun k_ => ((P0_ k_ ∨ P2_5_ k_) ∨ w.heap.size ≤ k_) ∧ k_ ≠ gb187)) (by (with_reducible repeat (first | apply Kd.V_alloc | apply Kd.V_drewN | apply Kd.V_drew)); exact HO205.out) hg hat); have n5_ := Aside0.mk (hb); have n6_ := Aside0.mk (ho); clear HO_0; clear HO_188005; clear BK187; clear HO194; clear HO205; clear HB; clear HO200; have HO_0 := n0_; have HO_188005 := n1_; have BK187 := n2_; have HO194 := n3_; have HO205 := n4_; have HB := n5_; have HO208 := n6_; clear n0_ n1_ n2_ n3_ n4_ n5_ n6_; clear ho hb hg hat; obtain ⟨Ao36, co36, eo36⟩ := Kd.N_slice HO208.out; subst eo36) | ((with_reducible refine gate_callee (f := 19) rfl ?_); refine goesL_ (some 49) rfl rfl Try.func19 (by kernel_rfl) rfl #[.slice Ao36 y206.length co36] rfl (by (try simp only [List.map_toArray, List.map_cons, List.map_nil]); first | done | rfl | (simp only [List.length_drop, List.length_take]; rfl)) ?_; (with_reducible refine (view_Text.calls _ _ y206 t209 _ ?side1 ?side2 A23.out).mono ?_); (case side1 => repeat (first | exact (Kd.N_reads' HO208.out).2.2 | (with_reducible refine Kd.C_alloc ?_ _) | (with_reducible refine Kd.C_drewN ?_ _) | (with_reducible refine Kd.C_drew ?_))); (case side2 => exact (Kd.N_reads' HO208.out).2.1); rintro e w37 ⟨rfl, hb⟩; refine ⟨_, rfl, ?_⟩; have n0_ := Aside0.mk (Kd.V_below (by (with_reducible repeat (first | apply Kd.V_alloc | apply Kd.V_drewN | apply Kd.V_drew)); exact HO_0.out) hb); have n1_ := Aside0.mk (Kd.V_below (by (with_reducible repeat (first | apply Kd.V_alloc | apply Kd.V_drewN | apply Kd.V_drew)); exact HO_188005.out) hb); have n2_ := Aside0.mk (Kd.V_below (by (with_reducible repeat (first | apply Kd.V_alloc | apply Kd.V_drewN | apply Kd.V_drew)); exact HO194.out) hb); have n3_ := Aside0.mk (Kd.V_below (by (with_reducible repeat (first | apply Kd.V_alloc | apply Kd.V_drewN | apply Kd.V_drew)); exact HO205.out) hb); have n4_ := Aside0.mk (Kd.N_below (by (with_reducible repeat (first | apply Kd.N_alloc | apply Kd.N_drewN | apply Kd.N_drew)); exact HO208.out) hb); have n5_ := Aside0.mk (blk_below (g := gb187) (o := .cells #[.int .i64 a2_0, .int .i64 a2_1, .int .i64 a2_2, .int .i64 a2_3, .int .i64 a2_4, .slice A2_5 l2_5.length c2_5] 44 (0, 0)) (by (with_reducible repeat (first | refine blk_drewN ?_ _ | refine blk_drew ?_ | refine blk_alloc ?_ _)); exact BK187.out) hb); have n6_ := Aside0.mk (below_step (by repeat (first | (with_reducible first | exact HB.out | apply below_alloc | apply pw_below_drewN | apply below_drew1 | refine below_set ?_ GE187.out) | exact HB.out)) hb); clear HO_0; clear HO_188005; clear HO194; clear HO205; clear HO208; clear BK187; clear HB; have HO_0 := n0_; have HO_188005 := n1_; have HO194 := n2_; have HO205 := n3_; have HO208 := n4_; have BK187 := n5_; have HB := n6_; clear n0_ n1_ n2_ n3_ n4_ n5_ n6_; (try clear hb); (try clear hb2); (try clear hk); (try clear hi)) | ((with_reducible refine gate_callee (f := 19) rfl ?_); refine goesL_ (some 51) rfl rfl Try.func19 (by kernel_rfl) rfl #[.slice A0 l0.length c0] rfl (by (try simp only [List.map_toArray, List.map_cons, List.map_nil]); first | done | rfl | (simp only [List.length_drop, List.length_take]; rfl)) ?_; (with_reducible refine (view_Text.calls _ _ l0 t210 _ ?side1 ?side2 A24.out).mono ?_); (case side1 => repeat (first | exact (Kd.V_reads' HO_0.out).2.2 | (with_reducible refine Kd.C_alloc ?_ _) | (with_reducible refine Kd.C_drewN ?_ _) | (with_reducible refine Kd.C_drew ?_))); (case side2 => exact (Kd.V_reads' HO_0.out).2.1); rintro e w38 ⟨rfl, hb⟩; refine ⟨_, rfl, ?_⟩; have n0_ := Aside0.mk (Kd.V_below (by (with_reducible repeat (first | apply Kd.V_alloc | apply Kd.V_drewN | apply Kd.V_drew)); exact HO_0.out) hb); have n1_ := Aside0.mk (Kd.V_below (by (with_reducible repeat (first | apply Kd.V_alloc | apply Kd.V_drewN | apply Kd.V_drew)); exact HO_188005.out) hb); have n2_ := Aside0.mk (Kd.V_below (by (with_reducible repeat (first | apply Kd.V_alloc | apply Kd.V_drewN | apply Kd.V_drew)); exact HO194.out) hb); have n3_ := Aside0.mk (Kd.V_below (by (with_reducible repeat (first | apply Kd.V_alloc | apply Kd.V_drewN | apply Kd.V_drew)); exact HO205.out) hb); have n4_ := Aside0.mk (Kd.N_below (by (with_reducible repeat (first | apply Kd.N_alloc | apply Kd.N_drewN | apply Kd.N_drew)); exact HO208.out) hb); have n5_ := Aside0.mk (blk_below (g := gb187) (o := .cells #[.int .i64 a2_0, .int .i64 a2_1, .int .i64 a2_2, .int .i64 a2_3, .int .i64 a2_4, .slice A2_5 l2_5.length c2_5] 44 (0, 0)) (by (with_reducible repeat (first | refine blk_drewN ?_ _ | refine blk_drew ?_ | refine blk_alloc ?_ _)); exact BK187.out) hb); have n6_ := Aside0.mk (below_step (by repeat (first | (with_reducible first | exact HB.out | apply below_alloc | apply pw_below_drewN | apply below_drew1 | refine below_set ?_ GE187.out) | exact HB.out)) hb); clear HO_0; clear HO_188005; clear HO194; clear HO205; clear HO208; clear BK187; clear HB; have HO_0 := n0_; have HO_188005 := n1_; have HO194 := n2_; have HO205 := n3_; have HO208 := n4_; have BK187 := n5_; have HB := n6_; clear n0_ n1_ n2_ n3_ n4_ n5_ n6_; (try clear hb); (try clear hb2); (try clear hk); (try clear hi)) | (go_at_call 17; (with_reducible refine (view_Seen.calls _ _ y206 t211 _ ?side1 ?side2 A26.out).mono ?_); (case side1 => repeat (first | exact (Kd.N_reads' HO208.out).2.2 | (with_reducible refine Kd.C_alloc ?_ _) | (with_reducible refine Kd.C_drewN ?_ _) | (with_reducible refine Kd.C_drew ?_))); (case side2 => exact (Kd.N_reads' HO208.out).2.1); rintro e w39 ⟨v212, rfl, ho0, hb⟩; have n0_ := Aside0.mk (Kd.V_elder' (by (with_reducible repeat (first | apply Kd.V_alloc | apply Kd.V_drewN | apply Kd.V_drew)); exact HO_0.out) (Kd.R_base ho0) hb); have n1_ := Aside0.mk (Kd.V_elder' (by (with_reducible repeat (first | apply Kd.V_alloc | apply Kd.V_drewN | apply Kd.V_drew)); exact HO_188005.out) (Kd.R_base ho0) hb); have n2_ := Aside0.mk (Kd.V_elder' (by (with_reducible repeat (first | apply Kd.V_alloc | apply Kd.V_drewN | apply Kd.V_drew)); exact HO194.out) (Kd.R_base ho0) hb); have n3_ := Aside0.mk (Kd.V_elder' (by (with_reducible repeat (first | apply Kd.V_alloc | apply Kd.V_drewN | apply Kd.V_drew)); exact HO205.out) (Kd.R_base ho0) hb); have n4_ := Aside0.mk (Kd.N_elder' (by (with_reducible repeat (first | apply Kd.N_alloc | apply Kd.N_drewN | apply Kd.N_drew)); exact HO208.out) (Kd.R_base ho0) hb); have n5_ := Aside0.mk (Kd.R_lower (Kd.R_newM (M := fun k_ => (w.heap.size ≤ k_)) ho0 (below_size (by repeat (first | (with_reducible first | exact HB.out | apply below_alloc | apply pw_below_drewN | apply below_drew1 | refine below_set ?_ GE187.out) | exact HB.out))) (fun k_ h_ => h_)) (below_size (by repeat (first | (with_reducible first | exact HB.out | apply below_alloc | apply pw_below_drewN | apply below_drew1 | refine below_set ?_ GE187.out) | exact HB.out)))); have n6_ := Aside0.mk (blk_below (g := gb187) (o := .cells #[.int .i64 a2_0, .int .i64 a2_1, .int .i64 a2_2, .int .i64 a2_3, .int .i64 a2_4, .slice A2_5 l2_5.length c2_5] 44 (0, 0)) (by (with_reducible repeat (first | refine blk_drewN ?_ _ | refine blk_drew ?_ | refine blk_alloc ?_ _)); exact BK187.out) hb); have n7_ := Aside0.mk (below_step (by repeat (first | (with_reducible first | exact HB.out | apply below_alloc | apply pw_below_drewN | apply below_drew1 | refine below_set ?_ GE187.out) | exact HB.out)) hb); clear HO_0; clear HO_188005; clear HO194; clear HO205; clear HO208; clear BK187; clear HB; have HO_0 := n0_; have HO_188005 := n1_; have HO194 := n2_; have HO205 := n3_; have HO208 := n4_; have HO213 := n5_; have BK187 := n6_; have HB := n7_; clear n0_ n1_ n2_ n3_ n4_ n5_ n6_ n7_; (try clear hb); (try clear hb2); (try clear hk); (try clear hi); (try clear ho0); obtain ⟨Ao40, co40, eo40⟩ := Kd.R_slice HO213.out; subst eo40) | (go_at_call 17; (with_reducible refine (view_Seen.calls _ _ l0 t214 _ ?side1 ?side2 A27.out).mono ?_); (case side1 => repeat (first | exact (Kd.V_reads' HO_0.out).2.2 | (with_reducible refine Kd.C_alloc ?_ _) | (with_reducible refine Kd.C_drewN ?_ _) | (with_reducible refine Kd.C_drew ?_))); (case side2 => exact (Kd.V_reads' HO_0.out).2.1); rintro e w41 ⟨v215, rfl, ho0, hb⟩; have n0_ := Aside0.mk (Kd.V_elder' (by (with_reducible repeat (first | apply Kd.V_alloc | apply Kd.V_drewN | apply Kd.V_drew)); exact HO_0.out) (Kd.R_base ho0) hb); have n1_ := Aside0.mk (Kd.V_elder' (by (with_reducible repeat (first | apply Kd.V_alloc | apply Kd.V_drewN | apply Kd.V_drew)); exact HO_188005.out) (Kd.R_base ho0) hb); have n2_ := Aside0.mk (Kd.V_elder' (by (with_reducible repeat (first | apply Kd.V_alloc | apply Kd.V_drewN | apply Kd.V_drew)); exact HO194.out) (Kd.R_base ho0) hb); have n3_ := Aside0.mk (Kd.V_elder' (by (with_reducible repeat (first | apply Kd.V_alloc | apply Kd.V_drewN | apply Kd.V_drew)); exact HO205.out) (Kd.R_base ho0) hb); have n4_ := Aside0.mk (Kd.N_elder' (by (with_reducible repeat (first | apply Kd.N_alloc | apply Kd.N_drewN | apply Kd.N_drew)); exact HO208.out) (Kd.R_base ho0) hb); have n5_ := Aside0.mk (Kd.R_elder' (by (with_reducible repeat (first | apply Kd.R_alloc | apply Kd.R_drewN | apply Kd.R_drew)); exact HO213.out) (Kd.R_base ho0) hb); have n6_ := Aside0.mk (Kd.R_lower (Kd.R_new' (Kd.R_newM (M := fun k_ => (w.heap.size ≤ k_)) ho0 (below_size (by repeat (first | (with_reducible first | exact HB.out | apply below_alloc | apply pw_below_drewN | apply below_drew1 | refine below_set ?_ GE187.out) | exact HB.out))) (fun k_ h_ => h_)) (Kd.R_lt (by (with_reducible repeat (first | apply Kd.R_alloc | apply Kd.R_drewN | apply Kd.R_drew)); exact HO213.out))) (below_size (by repeat (first | (with_reducible first | exact HB.out | apply below_alloc | apply pw_below_drewN | apply below_drew1 | refine below_set ?_ GE187.out) | exact HB.out)))); have n7_ := Aside0.mk (blk_below (g := gb187) (o := .cells #[.int .i64 a2_0, .int .i64 a2_1, .int .i64 a2_2, .int .i64 a2_3, .int .i64 a2_4, .slice A2_5 l2_5.length c2_5] 44 (0, 0)) (by (with_reducible repeat (first | refine blk_drewN ?_ _ | refine blk_drew ?_ | refine blk_alloc ?_ _)); exact BK187.out) hb); have n8_ := Aside0.mk (below_step (by repeat (first | (with_reducible first | exact HB.out | apply below_alloc | apply pw_below_drewN | apply below_drew1 | refine below_set ?_ GE187.out) | exact HB.out)) hb); clear HO_0; clear HO_188005; clear HO194; clear HO205; clear HO208; clear HO213; clear BK187; clear HB; have HO_0 := n0_; have HO_188005 := n1_; have HO194 := n2_; have HO205 := n3_; have HO208 := n4_; have HO213 := n5_; have HO216 := n6_; have BK187 := n7_; have HB := n8_; clear n0_ n1_ n2_ n3_ n4_ n5_ n6_ n7_ n8_; (try clear hb); (try clear hb2); (try clear hk); (try clear hi); (try clear ho0); obtain ⟨Ao42, co42, eo42⟩ := Kd.R_slice HO216.out; subst eo42) | (go_at_call 9; (with_reducible refine (duetlaw12_live.calls kj3  t217 _ ?side1 A29.out).mono ?_); (case side1 => exact hr_); rintro e w43 ⟨rfl, hb⟩; have n0_ := Aside0.mk (Kd.V_below (by (with_reducible repeat (first | apply Kd.V_alloc | apply Kd.V_drewN | apply Kd.V_drew)); exact HO_0.out) hb); have n1_ := Aside0.mk (Kd.V_below (by (with_reducible repeat (first | apply Kd.V_alloc | apply Kd.V_drewN | apply Kd.V_drew)); exact HO_188005.out) hb); have n2_ := Aside0.mk (Kd.V_below (by (with_reducible repeat (first | apply Kd.V_alloc | apply Kd.V_drewN | apply Kd.V_drew)); exact HO194.out) hb); have n3_ := Aside0.mk (Kd.V_below (by (with_reducible repeat (first | apply Kd.V_alloc | apply Kd.V_drewN | apply Kd.V_drew)); exact HO205.out) hb); have n4_ := Aside0.mk (Kd.N_below (by (with_reducible repeat (first | apply Kd.N_alloc | apply Kd.N_drewN | apply Kd.N_drew)); exact HO208.out) hb); have n5_ := Aside0.mk (Kd.R_below (by (with_reducible repeat (first | apply Kd.R_alloc | apply Kd.R_drewN | apply Kd.R_drew)); exact HO213.out) hb); have n6_ := Aside0.mk (Kd.R_below (by (with_reducible repeat (first | apply Kd.R_alloc | apply Kd.R_drewN | apply Kd.R_drew)); exact HO216.out) hb); have n7_ := Aside0.mk (blk_below (g := gb187) (o := .cells #[.int .i64 a2_0, .int .i64 a2_1, .int .i64 a2_2, .int .i64 a2_3, .int .i64 a2_4, .slice A2_5 l2_5.length c2_5] 44 (0, 0)) (by (with_reducible repeat (first | refine blk_drewN ?_ _ | refine blk_drew ?_ | refine blk_alloc ?_ _)); exact BK187.out) hb); have n8_ := Aside0.mk (below_step (by repeat (first | (with_reducible first | exact HB.out | apply below_alloc | apply pw_below_drewN | apply below_drew1 | refine below_set ?_ GE187.out) | exact HB.out)) hb); clear HO_0; clear HO_188005; clear HO194; clear HO205; clear HO208; clear HO213; clear HO216; clear BK187; clear HB; have HO_0 := n0_; have HO_188005 := n1_; have HO194 := n2_; have HO205 := n3_; have HO208 := n4_; have HO213 := n5_; have HO216 := n6_; have BK187 := n7_; have HB := n8_; clear n0_ n1_ n2_ n3_ n4_ n5_ n6_ n7_ n8_; (try clear hb); (try clear hb2); (try clear hk); (try clear hi)))
                      go_ret
                      exact ⟨by first | rfl | (simp [errW_none, errW_some] <;> rfl) | (simp [*, errW_none, errW_some] <;> rfl), by repeat (first | (with_reducible first | exact HB.out | apply below_alloc | apply pw_below_drewN | apply below_drew1 | refine below_set ?_ GE187.out) | exact HB.out)⟩
                    · rw [if_neg c28] at H
                      have c28b0 : ((t211.length : Int) == (t214.length : Int)) = false := beq_eq_false_iff_ne.mpr c28
                      have c28b1 : ((t211.length : Int) != (t214.length : Int)) = true := bne_iff_ne.mpr c28
                      have c28b2 : (t211.length == t214.length) = false := by first | simpa using c28 | (simp at c28 ⊢; omega)
                      exact absurd (Option.some.inj H) (by rw [hr_.out]; decide)
                  · rw [if_neg c25] at H
                    have c25b0 : (t209.toList == t210.toList) = false := beq_eq_false_iff_ne.mpr c25
                    have c25b1 : (t209.toList != t210.toList) = true := bne_iff_ne.mpr c25
                    exact absurd (Option.some.inj H) (by rw [hr_.out]; decide)
                · rw [if_neg c22] at H
                  exact absurd H (by simp)
              · rw [if_neg c19] at H
                exact absurd H (by simp)
            · rw [if_neg c18] at H
              exact absurd H (by simp)
          · rw [if_neg c17] at H
            exact absurd H (by simp)
        · rw [if_neg c16] at H
          exact absurd H (by simp)

end Go.Proofs.Ytpclgafcldmchaa.P

-- Written by a program of this session (wip/tools/pp.py) out of the translation. Not trusted: Lean checks it.
import Derived.Test.YtpclgafcldmchaaPx0
import Derived.Test.YtpclgafcldmchaaPx1
import Derived.Test.YtpclgafcldmchaaPx2
import Derived.Test.YtpclgafcldmchaaPx3
import Derived.Test.YtpclgafcldmchaaPx4
import Derived.Test.YtpclgafcldmchaaGiv
namespace Go.Proofs.Ytpclgafcldmchaa.P
open Go.RowKit Go.Proofs.YtpclgafcldmchaaW.PrintWords Go.Proofs.YtpclgafcldmchaaW.PrintLast Go.Proofs.YtpclgafcldmchaaW.PrintMore
open Go.Proofs.Ytpclgafcldmchaa.Giv
attribute [local go_sem] max2_int min2_int max_two min_two max_three min_three max_four min_four   -- for this text's walks alone
set_option linter.unusedVariables false
set_option linter.unusedSimpArgs false

attribute [local go_sem high] eqA24
/-! ### duetlaw12_ViewOne: function 7 -/
mutual
def duetlaw12_ViewOne.j0 : Nat → List (S44) → Int → Bool → Option (Bool)
  | 0, _, _, _ => none
  | k + 1, x0, x1, x24 => if x24 = true then ((duetlaw12_live.f k).bind fun t366 => (some t366)) else (duetlaw12_ViewOne.l0 k x0 x1 ([] : List (S44)) 0)
def duetlaw12_ViewOne.l0 : Nat → List (S44) → Int → List (S44) → Int → Option (Bool)
  | 0, _, _, _, _ => none
  | k + 1, x0, x1, x5, x6 => if x6 < (x0.length : Int) then (if 0 ≤ x6 then (if x6 = x1 then (if x5.length < 2199023255552 then (duetlaw12_ViewOne.l0 k x0 x1 (x5 ++ [(⟨(⟨(rd_T44 x0 x6).f0.f0, (rd_T44 x0 x6).f0.f1⟩ : S24), (⟨(rd_T44 x0 x6).f1.f0, (rd_T44 x0 x6).f1.f1⟩ : S24), (rd_T44 x0 x6).f2, ([] : List Int)⟩ : S44)]) (wrap64 (x6 + 1))) else (none)) else (if x5.length < 2199023255552 then (duetlaw12_ViewOne.l0 k x0 x1 (x5 ++ [(⟨(⟨(rd_T44 x0 x6).f0.f0, (rd_T44 x0 x6).f0.f1⟩ : S24), (⟨(rd_T44 x0 x6).f1.f0, (rd_T44 x0 x6).f1.f1⟩ : S24), (rd_T44 x0 x6).f2, (([0] : List Int))⟩ : S44)]) (wrap64 (x6 + 1))) else (none))) else (none)) else ((view_Ref.f k x5 1).bind fun bt378 => ((view_Ref.f k x5 2).bind fun bt382 => ((view_Text.f x5).bind fun t386 => (if 0 ≤ x1 then (if x1 < (x0.length : Int) then ((duetref12_Sign.f k ((rd_T44 x0 x1).f2)).bind fun t388 => (if t386.toList = t388.toList then ((view_Seen.f x5).bind fun t389 => ((duetref01_Same.f k t389 (([x1] : List Int))).bind fun t395 => (if t395 = true then (if (bt378.1 == ((rd_T44 x0 x1).f0.f0) && (bt378.2.1 == ((rd_T44 x0 x1).f0.f1))) = true then (if bt378.2.2 = 0 then (if bt382.2.2 = 1 then ((duetlaw12_live.f k).bind fun t397 => (some t397)) else (some false)) else (some false)) else (some false)) else (some false)))) else (some false))) else (none)) else (none)))))
end
def duetlaw12_ViewOne.f (k : Nat) (l0 : List (S44)) (a1 : Int) : Option (Bool) := (duetref12_Few.f k l0).bind fun t365 => (if t365 = true then (if a1 < 0 then (duetlaw12_ViewOne.j0 k l0 a1 true) else (duetlaw12_ViewOne.j0 k l0 a1 (decide (a1 ≥ (l0.length : Int))))) else (duetlaw12_ViewOne.j0 k l0 a1 true))
theorem duetlaw12_ViewOne.mono_l : ∀ k, (∀ y0 y1 y2, LeO (duetlaw12_ViewOne.j0 k y0 y1 y2) (duetlaw12_ViewOne.j0 (k + 1) y0 y1 y2)) ∧ (∀ y0 y1 y2 y3, LeO (duetlaw12_ViewOne.l0 k y0 y1 y2 y3) (duetlaw12_ViewOne.l0 (k + 1) y0 y1 y2 y3))
  | 0 => ⟨fun _ _ _ r h => by simp [duetlaw12_ViewOne.j0] at h, fun _ _ _ _ r h => by simp [duetlaw12_ViewOne.l0] at h⟩
  | k + 1 => by
    obtain ⟨ih0, ih1⟩ := duetlaw12_ViewOne.mono_l k
    refine ⟨?_, ?_⟩
    · intro y0 y1 y2
      unfold duetlaw12_ViewOne.j0
      repeat' first
      | (with_reducible exact ih0 _ _ _)
      | (with_reducible exact ih1 _ _ _ _)
      | (with_reducible exact duetlaw12_live.mono _)
      | (with_reducible exact duetref01_Same.mono _ _ _)
      | (with_reducible exact duetref12_Few.mono _ _)
      | (with_reducible exact duetref12_Sign.mono _ _)
      | (with_reducible exact view_Ref.mono _ _ _)
      | (with_reducible exact LeO.refl _)
      | (with_reducible exact LeO.none _)
      | (with_reducible refine LeO.ite ?_ ?_)
      | (with_reducible refine LeO.bind ?_ (fun _ => ?_))
      | exact ih0 _ _ _
      | exact ih1 _ _ _ _
      | exact duetlaw12_live.mono _
      | exact duetref01_Same.mono _ _ _
      | exact duetref12_Few.mono _ _
      | exact duetref12_Sign.mono _ _
      | exact view_Ref.mono _ _ _
      | exact LeO.none _
      | refine LeO.ite ?_ ?_
      | refine LeO.bind ?_ (fun _ => ?_)
    · intro y0 y1 y2 y3
      unfold duetlaw12_ViewOne.l0
      repeat' first
      | (with_reducible exact ih0 _ _ _)
      | (with_reducible exact ih1 _ _ _ _)
      | (with_reducible exact duetlaw12_live.mono _)
      | (with_reducible exact duetref01_Same.mono _ _ _)
      | (with_reducible exact duetref12_Few.mono _ _)
      | (with_reducible exact duetref12_Sign.mono _ _)
      | (with_reducible exact view_Ref.mono _ _ _)
      | (with_reducible exact LeO.refl _)
      | (with_reducible exact LeO.none _)
      | (with_reducible refine LeO.ite ?_ ?_)
      | (with_reducible refine LeO.bind ?_ (fun _ => ?_))
      | exact ih0 _ _ _
      | exact ih1 _ _ _ _
      | exact duetlaw12_live.mono _
      | exact duetref01_Same.mono _ _ _
      | exact duetref12_Few.mono _ _
      | exact duetref12_Sign.mono _ _
      | exact view_Ref.mono _ _ _
      | exact LeO.none _
      | refine LeO.ite ?_ ?_
      | refine LeO.bind ?_ (fun _ => ?_)
theorem duetlaw12_ViewOne.mono : ∀ a0 a1 k, LeO (duetlaw12_ViewOne.f k a0 a1) (duetlaw12_ViewOne.f (k + 1) a0 a1) := by
  intro a0 a1 k
  obtain ⟨ih0, ih1⟩ := duetlaw12_ViewOne.mono_l k
  unfold duetlaw12_ViewOne.f
  repeat' first
      | (with_reducible exact ih0 _ _ _)
      | (with_reducible exact ih1 _ _ _ _)
      | (with_reducible exact duetlaw12_live.mono _)
      | (with_reducible exact duetref01_Same.mono _ _ _)
      | (with_reducible exact duetref12_Few.mono _ _)
      | (with_reducible exact duetref12_Sign.mono _ _)
      | (with_reducible exact view_Ref.mono _ _ _)
      | (with_reducible exact LeO.refl _)
      | (with_reducible exact LeO.none _)
      | (with_reducible refine LeO.ite ?_ ?_)
      | (with_reducible refine LeO.bind ?_ (fun _ => ?_))
      | exact ih0 _ _ _
      | exact ih1 _ _ _ _
      | exact duetlaw12_live.mono _
      | exact duetref01_Same.mono _ _ _
      | exact duetref12_Few.mono _ _
      | exact duetref12_Sign.mono _ _
      | exact view_Ref.mono _ _ _
      | exact LeO.none _
      | refine LeO.ite ?_ ?_
      | refine LeO.bind ?_ (fun _ => ?_)
def duetlaw12_ViewOne.T14 : Bool × List (List Nat × List Nat) := (true, [([], []), ([0], [0]), ([], []), ([], []), ([2, 3], [2, 3]), ([4], [4]), ([5], [5]), ([6, 1], [6]), ([1, 7], [1, 7]), ([8, 7], [8]), ([9], [9]), ([10, 9, 9], [9, 10]), ([9], [9]), ([12, 9], [9, 12]), ([11, 13, 11, 9], [9, 11, 13]), ([9, 14], [9, 14]), ([15, 14], [15]), ([16], [16]), ([16], [16]), ([16], [16]), ([18, 19, 16], [16, 18, 19]), ([20, 16], [16, 20]), ([21, 16], [16, 21]), ([17, 22, 16], [16, 17, 22]), ([16, 23], [16, 23]), ([24, 16], [24]), ([25], [25]), ([26, 25], [25, 26]), ([25, 27], [25, 27]), ([28, 25], [28]), ([29], [29]), ([30, 29], [29, 30]), ([29, 31], [29, 31]), ([32, 29], [32]), ([33, 33], [33]), ([33, 34], [33, 34]), ([35, 34, 0, 1, 2, 3, 4, 5, 6, 7, 8, 9, 10, 11, 12, 13, 14, 15, 16, 17, 18, 19, 20, 21, 22, 23, 24, 25, 26, 27, 28, 29, 30, 31, 32, 33, 34, 35], [35])])
def duetlaw12_ViewOne.B14 : List Nat := [0, 1, 0, 0, 12, 28, 60, 127, 255, 511, 1023, 2047, 1023, 5119, 16383, 32767, 65535, 131071, 131071, 131071, 917503, 1966079, 4063231, 8388607, 16777215, 33554431, 67108863, 134217727, 268435455, 536870911, 1073741823, 2147483647, 4294967295, 8589934591, 17179869183, 34359738367, 68719476735]
theorem duetlaw12_ViewOne.tab14 : rtab .any (opsOf Try.f7 14) = duetlaw12_ViewOne.T14 := by kernel_rfl
theorem duetlaw12_ViewOne.bits14 : waitsOk duetlaw12_ViewOne.T14.2 duetlaw12_ViewOne.B14 = true := by kernel_rfl
set_option maxHeartbeats 8000000 in
set_option maxRecDepth 100000 in
theorem duetlaw12_ViewOne.calls (k : Nat) (A0 : Option Addr) (c0 : Nat) (l0 : List (S44)) (a1 : Int) (r : Bool) (w : World) (hr0 : Kd.C k44 w A0 l0.length l0) (hc0 : l0.length ≤ c0) (hr_ : Aside0 (r = true)) (h : duetlaw12_ViewOne.f k l0 a1 = some r) :
    Calls Try.prog 7 #[.slice A0 l0.length c0, .int .i64 a1] w fun e w' => e = .returned (.bool r) ∧ Below w.heap.size w w' := by
  have hu44 := Try.underlying44
  have hu24 := Try.underlying24
  have HR0 := Aside0.mk hr0
  have HC0 := Aside0.mk hc0
  clear hr0 hc0
  have HB := Aside0.mk (Below.refl w.heap.size w)
  have H : ((duetref12_Few.f k l0).bind fun t365 => (if t365 = true then (if a1 < 0 then (duetlaw12_ViewOne.j0 k l0 a1 true) else (duetlaw12_ViewOne.j0 k l0 a1 (decide (a1 ≥ (l0.length : Int))))) else (duetlaw12_ViewOne.j0 k l0 a1 true))) = some r := h
  clear h
  have HC3 := Aside0.mk H
  clear H
  go_enter Try.func7, Try.ntmps7
  go_upto_region 1 with (fail)
  go_cut [24] (fun v24 wc => ∃ (kq : Nat) (x24_2 : Bool), v24 = .bool x24_2 ∧ Aside0 (duetlaw12_ViewOne.j0 kq l0 a1 x24_2 = some r) ∧ Aside0 (kq ≤ k) ∧ Aside0 (Below w.heap.size w wc))
  case first =>
    have H := HC3.out
    clear HC3
    replace H := Option.bind_eq_some_iff.mp H
    obtain ⟨t365, A40, H⟩ := H
    replace H : (if t365 = true then (if a1 < 0 then (duetlaw12_ViewOne.j0 k l0 a1 true) else (duetlaw12_ViewOne.j0 k l0 a1 (decide (a1 ≥ (l0.length : Int))))) else (duetlaw12_ViewOne.j0 k l0 a1 true)) = some r := H
    have A4 := Aside0.mk A40
    clear A40
    by_cases c5 : t365 = true
    · subst c5
      have H1 : (if a1 < 0 then (duetlaw12_ViewOne.j0 k l0 a1 true) else (duetlaw12_ViewOne.j0 k l0 a1 (decide (a1 ≥ (l0.length : Int))))) = some r := by rw [if_pos rfl] at H; exact H
      clear H
      have H := H1
      clear H1
      by_cases c6 : a1 < 0
      · rw [if_pos c6] at H
        have c6b0 : decide (a1 < 0) = true := decide_eq_true c6
        clear c6
        (first | rw [c6b0] | (simp only [i64_w, i32_w]; rw [c6b0]) | skip)
        have H' := Aside0.mk H
        clear H
        go_wp2_with (first | ((with_reducible refine gate_callee (f := 8) rfl ?_); refine goesL_ (some 13) rfl rfl Try.func8 (by kernel_rfl) rfl #[.slice A0 l0.length c0] rfl (by (try simp only [List.map_toArray, List.map_cons, List.map_nil]); first | done | rfl | (simp only [List.length_drop, List.length_take]; rfl)) ?_; (with_reducible refine (duetref12_Few.calls k _ _ l0 true _ ?side1 ?side2 A4.out).mono ?_); (case side1 => repeat (first | exact (Kd.C_below HR0.out HB.out) | (with_reducible refine Kd.C_alloc ?_ _) | (with_reducible refine Kd.C_drewN ?_ _) | (with_reducible refine Kd.C_drew ?_))); (case side2 => exact HC0.out); rintro e w' ⟨rfl, ⟨nd, rfl⟩⟩; refine ⟨_, rfl, ?_⟩))
        go_meet
        case rel => exact ⟨_, (true), (by first | rfl | (simp; done) | (simp [*]; done)), H', ⟨by first | omega | exact Nat.le_refl _⟩, ⟨by repeat (first | (with_reducible first | exact HB.out | apply below_alloc | apply pw_below_drewN | apply below_drew1) | exact HB.out)⟩⟩
      · rw [if_neg c6] at H
        have c6b0 : decide (a1 < 0) = false := decide_eq_false c6
        clear c6
        (first | rw [c6b0] | (simp only [i64_w, i32_w]; rw [c6b0]) | skip)
        have H' := Aside0.mk H
        clear H
        go_wp2_with (first | ((with_reducible refine gate_callee (f := 8) rfl ?_); refine goesL_ (some 13) rfl rfl Try.func8 (by kernel_rfl) rfl #[.slice A0 l0.length c0] rfl (by (try simp only [List.map_toArray, List.map_cons, List.map_nil]); first | done | rfl | (simp only [List.length_drop, List.length_take]; rfl)) ?_; (with_reducible refine (duetref12_Few.calls k _ _ l0 true _ ?side1 ?side2 A4.out).mono ?_); (case side1 => repeat (first | exact (Kd.C_below HR0.out HB.out) | (with_reducible refine Kd.C_alloc ?_ _) | (with_reducible refine Kd.C_drewN ?_ _) | (with_reducible refine Kd.C_drew ?_))); (case side2 => exact HC0.out); rintro e w' ⟨rfl, ⟨nd, rfl⟩⟩; refine ⟨_, rfl, ?_⟩))
        go_meet
        case rel => exact ⟨_, (decide (a1 ≥ (l0.length : Int))), (by first | rfl | (simp; done) | (simp [*]; done)), H', ⟨by first | omega | exact Nat.le_refl _⟩, ⟨by repeat (first | (with_reducible first | exact HB.out | apply below_alloc | apply pw_below_drewN | apply below_drew1) | exact HB.out)⟩⟩
    · replace c5 := Bool.eq_false_iff.mpr c5
      subst c5
      have H1 : (duetlaw12_ViewOne.j0 k l0 a1 true) = some r := by rw [if_neg (show ¬ (false = true) by decide)] at H; exact H
      clear H
      have H := H1
      clear H1
      have H' := Aside0.mk H
      clear H
      go_wp2_with (first | ((with_reducible refine gate_callee (f := 8) rfl ?_); refine goesL_ (some 13) rfl rfl Try.func8 (by kernel_rfl) rfl #[.slice A0 l0.length c0] rfl (by (try simp only [List.map_toArray, List.map_cons, List.map_nil]); first | done | rfl | (simp only [List.length_drop, List.length_take]; rfl)) ?_; (with_reducible refine (duetref12_Few.calls k _ _ l0 false _ ?side1 ?side2 A4.out).mono ?_); (case side1 => repeat (first | exact (Kd.C_below HR0.out HB.out) | (with_reducible refine Kd.C_alloc ?_ _) | (with_reducible refine Kd.C_drewN ?_ _) | (with_reducible refine Kd.C_drew ?_))); (case side2 => exact HC0.out); rintro e w' ⟨rfl, ⟨nd, rfl⟩⟩; refine ⟨_, rfl, ?_⟩))
      go_meet
      case rel => exact ⟨_, (true), (by first | rfl | (simp; done) | (simp [*]; done)), H', ⟨by first | omega | exact Nat.le_refl _⟩, ⟨by repeat (first | (with_reducible first | exact HB.out | apply below_alloc | apply pw_below_drewN | apply below_drew1) | exact HB.out)⟩⟩
  case rest =>
    clear HC3
    try clear p2
    try clear c5
    try clear c6
    try clear c6b0
    obtain ⟨kq, x24_2, rfl, HA, HJ2, HB⟩ := hcut
    cases kq with
    | zero => exact absurd HA.out (by simp [duetlaw12_ViewOne.j0])
    | succ kj2 =>
      have H := HA.out
      clear HA
      simp only [duetlaw12_ViewOne.j0] at H
      by_cases c7 : x24_2 = true
      · subst c7
        have H1 : ((duetlaw12_live.f kj2).bind fun t366 => (some t366)) = some r := by rw [if_pos rfl] at H; exact H
        clear H
        have H := H1
        clear H1
        replace H := Option.bind_eq_some_iff.mp H
        obtain ⟨t366, A80, H⟩ := H
        replace H : (some t366) = some r := H
        have A8 := Aside0.mk A80
        clear A80
        obtain rfl := Option.some.inj H
        go_wp2_with (first | ((with_reducible refine gate_callee (f := 9) rfl ?_); refine goesL_ (some 25) rfl rfl Try.func9 (by kernel_rfl) rfl #[] rfl (by (try simp only [List.map_toArray, List.map_cons, List.map_nil]); first | done | rfl | (simp only [List.length_drop, List.length_take]; rfl)) ?_; (with_reducible refine (duetlaw12_live.calls kj2  t366 _ ?side1 A8.out).mono ?_); (case side1 => exact hr_); rintro e w9 ⟨rfl, hb⟩; refine ⟨_, rfl, ?_⟩; have n0_ := Aside0.mk (below_step (by repeat (first | (with_reducible first | exact HB.out | apply below_alloc | apply pw_below_drewN | apply below_drew1) | exact HB.out)) hb); clear HB; have HB := n0_; clear n0_; (try clear hb); (try clear hb2); (try clear hk); (try clear hi)))
        go_ret
        exact ⟨by first | rfl | (simp [errW_none, errW_some] <;> rfl) | (simp [*, errW_none, errW_some] <;> rfl), by repeat (first | (with_reducible first | exact HB.out | apply below_alloc | apply pw_below_drewN | apply below_drew1) | exact HB.out)⟩
      · replace c7 := Bool.eq_false_iff.mpr c7
        subst c7
        have H1 : (duetlaw12_ViewOne.l0 kj2 l0 a1 ([] : List (S44)) 0) = some r := by rw [if_neg (show ¬ (false = true) by decide)] at H; exact H
        clear H
        have H := H1
        clear H1
        have H' := Aside0.mk H
        clear H
        go_wp2
        go_loopg [5, 6] kj2 (fun kq v5 v6 w' => ∃ (x5_2 : List (S44)) (x6_2 : Int), v6 = .int .i64 x6_2 ∧ Aside0 (duetlaw12_ViewOne.l0 kq l0 a1 x5_2 x6_2 = some r) ∧ Aside0 (kq ≤ kj2) ∧ Aside0 (Kd.S k44 44 w' w.heap.size (fun _ => True) v5 x5_2) ∧ Aside0 (Below w.heap.size w w'))
        case atStart => exact ⟨(([] : List (S44))), (0), (by first | rfl | (simp; done) | (simp [*]; done)), H', ⟨Nat.le_refl _⟩, ⟨by first | exact Kd.S_nil _ _ _ _ _ | exact Kd.N_nil _ _ _ _ _ | exact Kd.V_nil _ _ _ _ _ | exact Kd.Q_nil _ _ _ _ _ | exact Kd.R_nil _ _ _ _ _⟩, ⟨by repeat (first | (with_reducible first | exact HB.out | apply below_alloc | apply pw_below_drewN | apply below_drew1) | exact HB.out)⟩⟩
        case round =>
          clear H'
          try clear p2
          try clear c5
          try clear c6
          try clear c6b0
          try clear c7
          try clear c8
          try clear c9
          try clear p2
          obtain ⟨x5_2, x6_2, rfl, HA, HK2, HO_5, HB⟩ := hrel
          cases gk with
          | zero => exact absurd HA.out (by simp [duetlaw12_ViewOne.l0])
          | succ k2 =>
            have H := HA.out
            clear HA
            simp only [duetlaw12_ViewOne.l0] at H
            by_cases c10 : x6_2 < (l0.length : Int)
            · rw [if_pos c10] at H
              have c10b0 : decide (x6_2 < (l0.length : Int)) = true := decide_eq_true c10
              clear c10
              by_cases c11 : 0 ≤ x6_2
              · rw [if_pos c11] at H
                have c11b0 : decide (0 ≤ x6_2) = true := decide_eq_true c11
                clear c11
                obtain ⟨y369, hy369⟩ : ∃ y_ : List Int, y_ = (([0] : List Int)) := ⟨_, rfl⟩
                replace H : (if x6_2 = a1 then (if x5_2.length < 2199023255552 then (duetlaw12_ViewOne.l0 k2 l0 a1 (x5_2 ++ [(⟨(⟨(rd_T44 l0 x6_2).f0.f0, (rd_T44 l0 x6_2).f0.f1⟩ : S24), (⟨(rd_T44 l0 x6_2).f1.f0, (rd_T44 l0 x6_2).f1.f1⟩ : S24), (rd_T44 l0 x6_2).f2, ([] : List Int)⟩ : S44)]) (wrap64 (x6_2 + 1))) else (none)) else (if x5_2.length < 2199023255552 then (duetlaw12_ViewOne.l0 k2 l0 a1 (x5_2 ++ [(⟨(⟨(rd_T44 l0 x6_2).f0.f0, (rd_T44 l0 x6_2).f0.f1⟩ : S24), (⟨(rd_T44 l0 x6_2).f1.f0, (rd_T44 l0 x6_2).f1.f1⟩ : S24), (rd_T44 l0 x6_2).f2, y369⟩ : S44)]) (wrap64 (x6_2 + 1))) else (none))) = some r := by first | (rw [hy369]; with_reducible exact H) | (have H2_ := (Option.bind_some _ _).symm.trans H; rw [hy369]; with_reducible exact H2_) | (have H2_ := (Option.bind_some _ _).symm.trans H; with_reducible exact H2_) | with_reducible exact H | (rw [hy369]; exact H) | exact H
                have Ny369 := Aside0.mk hy369
                clear hy369
                by_cases c12 : x6_2 = a1
                · rw [if_pos c12] at H
                  have c12b0 : (x6_2 == a1) = true := beq_iff_eq.mpr c12
                  have c12b1 : (x6_2 != a1) = false := bne_eq_false_iff_eq.mpr c12
                  clear c12
                  by_cases c13 : x5_2.length < 2199023255552
                  · rw [if_pos c13] at H
                    have LMc13 := Aside0.mk c13
                    clear c13
                    obtain ⟨y372, hy372⟩ : ∃ y_ : List (S44), y_ = (x5_2 ++ [(⟨(⟨(rd_T44 l0 x6_2).f0.f0, (rd_T44 l0 x6_2).f0.f1⟩ : S24), (⟨(rd_T44 l0 x6_2).f1.f0, (rd_T44 l0 x6_2).f1.f1⟩ : S24), (rd_T44 l0 x6_2).f2, ([] : List Int)⟩ : S44)]) := ⟨_, rfl⟩
                    replace H : (duetlaw12_ViewOne.l0 k2 l0 a1 y372 (wrap64 (x6_2 + 1))) = some r := by first | (rw [hy372]; with_reducible exact H) | (have H2_ := (Option.bind_some _ _).symm.trans H; rw [hy372]; with_reducible exact H2_) | (have H2_ := (Option.bind_some _ _).symm.trans H; with_reducible exact H2_) | with_reducible exact H | (rw [hy372]; exact H) | exact H
                    have Ny372 := Aside0.mk hy372
                    clear hy372
                    have H' := Aside0.mk H
                    clear H
                    have p367 : 0 ≤ (x6_2 : Int) := of_decide_eq_true (by first | (with_reducible assumption) | assumption)
                    have q367 : x6_2 < (l0.length : Int) := of_decide_eq_true (by first | (with_reducible assumption) | assumption)
                    obtain ⟨ad367, A367_5, c367_5, e367, hx367_0, hx367_1, hx367_2, hx367_3, hx367_4, hx367_5, hl367_5, hi367_5⟩ := at_T44 HR0.out x6_2 p367 q367
                    cases e367
                    (try replace hx367_0 := (HB.out.cell (World.block_lt_of_cell? w _ hx367_0)).trans hx367_0)
                    (try replace hx367_1 := (HB.out.cell (World.block_lt_of_cell? w _ hx367_1)).trans hx367_1)
                    (try replace hx367_2 := (HB.out.cell (World.block_lt_of_cell? w _ hx367_2)).trans hx367_2)
                    (try replace hx367_3 := (HB.out.cell (World.block_lt_of_cell? w _ hx367_3)).trans hx367_3)
                    (try replace hx367_4 := (HB.out.cell (World.block_lt_of_cell? w _ hx367_4)).trans hx367_4)
                    (try replace hx367_5 := (HB.out.cell (World.block_lt_of_cell? w _ hx367_5)).trans hx367_5)
                    have HR367_5 := Aside0.mk hi367_5
                    have HC367_5 := Aside0.mk hl367_5
                    clear hi367_5 hl367_5
                    replace p367 := eq_true p367
                    replace q367 := eq_true q367
                    go_wp2_with (first | ((with_reducible refine gate_dst (N := 7) rfl ?_); (try (refine gate_guard (by rfl) ?_; dsimp only)); refine box_event ?hg (N := 7) ?hd (cs := #[.int .i64 0, .int .i64 0, .int .i64 0, .int .i64 0, .int .i64 0, .slice none 0 0]) (t := 44) ?hr ?_; (case hd => rfl); (case hg => rfl); (case hr => first | (go_simp; done) | (go_simp; rfl)); intro gb368 hg w14 hbox hb; have n0_ := Aside0.mk (Kd.S_below (Kd.S_elderB (by (with_reducible repeat (first | apply Kd.S_alloc | apply Kd.S_drewN | apply Kd.S_drew)); exact HO_5.out) gb368 (Nat.le_of_eq hg.symm)) hb); have n1_ := Aside0.mk (below_step (by repeat (first | (with_reducible first | exact HB.out | apply below_alloc | apply pw_below_drewN | apply below_drew1) | exact HB.out)) hb); have n2_ := Aside0.mk (hbox); have n3_ := Aside0.mk ((by rw [hg]; exact (below_size (by repeat (first | (with_reducible first | exact HB.out | apply below_alloc | apply pw_below_drewN | apply below_drew1) | exact HB.out))) : w.heap.size ≤ gb368)); have n4_ := Aside0.mk ((by rw [hg]; exact (below_size (by repeat (first | (with_reducible first | exact HB.out | apply below_alloc | apply pw_below_drewN | apply below_drew1) | exact HB.out))) : w.heap.size ≤ gb368)); clear HO_5; clear HB; have HO_5 := n0_; have HB := n1_; have BK368 := n2_; have GW368 := n3_; have GE368 := n4_; clear n0_ n1_ n2_ n3_ n4_; clear hb hbox hg; have hcz15_0 : w14.cell? ⟨gb368, 0, none⟩ = some (.int .i64 0) := (blk_cell BK368.out 0).trans rfl; have hcz15_1 : w14.cell? ⟨gb368, 1, none⟩ = some (.int .i64 0) := (blk_cell BK368.out 1).trans rfl; have hcz15_2 : w14.cell? ⟨gb368, 2, none⟩ = some (.int .i64 0) := (blk_cell BK368.out 2).trans rfl; have hcz15_3 : w14.cell? ⟨gb368, 3, none⟩ = some (.int .i64 0) := (blk_cell BK368.out 3).trans rfl; have hcz15_4 : w14.cell? ⟨gb368, 4, none⟩ = some (.int .i64 0) := (blk_cell BK368.out 4).trans rfl; have hcz15_5 : w14.cell? ⟨gb368, 5, none⟩ = some (.slice none 0 0) := (blk_cell BK368.out 5).trans rfl; have hfz15_0 := blk_frozen BK368.out 0; have hfz15_1 := blk_frozen BK368.out 1; have hfz15_2 := blk_frozen BK368.out 2; have hfz15_3 := blk_frozen BK368.out 3; have hfz15_4 := blk_frozen BK368.out 4; have hfz15_5 := blk_frozen BK368.out 5) | ((with_reducible refine gate_dst (N := 36) rfl ?_); (try (refine gate_guard (by rfl) ?_; dsimp only)); refine Kd.R_lit (Kd.int .i64) _ 3 ?hg (N := 36) ?hd (xs := ([0] : List Int)) (inner := [.int .i64 0]) (ok := fun _ => True) (okp := fun _ => True) ?hr ?hp (fun _ hk => hk) trivial (Below.refl _ _) (Nat.le_refl _) (by simp) ?_; (case hd => rfl); (case hg => rfl); (case hr => first | (go_simp; done) | (go_simp; rfl)); (case hp => exact (Reps.one (show Kd.M (Kd.int .i64) _ _ _ 0 [.int .i64 0] from rfl) (Reps.none _ _))); intro v370 w16 ho17 hb hg_ hnew_; clear hg_ hnew_; (first | rw [← Ny369.out] at ho17 | (simp only [Int.reduceToNat] at ho17; rw [← Ny369.out] at ho17)); have n0_ := Aside0.mk (Kd.S_elder' (by (with_reducible repeat (first | apply Kd.S_alloc | apply Kd.S_drewN | apply Kd.S_drew)); exact (Kd.S_mono (Kd.S_far (p := ⟨gb368, 5, none⟩) (Kd.S_far (p := ⟨gb368, 4, none⟩) (Kd.S_far (p := ⟨gb368, 3, none⟩) (Kd.S_far (p := ⟨gb368, 2, none⟩) (Kd.S_far (p := ⟨gb368, 1, none⟩) (Kd.S_far (p := ⟨gb368, 0, none⟩) (Kd.S_mono HO_5.out (fun k_ hk => (⟨hk, hk.2⟩ : _ ∧ k_ ≠ gb368))) (fun _ hk => hk.2) (.int .i64 ((rd_T44 l0 x6_2).f0.f0))) (fun _ hk => hk.2) (.int .i64 ((rd_T44 l0 x6_2).f0.f1))) (fun _ hk => hk.2) (.int .i64 ((rd_T44 l0 x6_2).f1.f0))) (fun _ hk => hk.2) (.int .i64 ((rd_T44 l0 x6_2).f1.f1))) (fun _ hk => hk.2) (.int .i64 ((rd_T44 l0 x6_2).f2))) (fun _ hk => hk.2) (.slice A367_5 ((rd_T44 l0 x6_2).f3).length c367_5)) (fun _ h_ => h_.1))) (Kd.R_base ho17) hb); have n1_ := Aside0.mk (Kd.R_lower ho17 (below_size (by repeat (first | (with_reducible first | exact HB.out | apply below_alloc | apply pw_below_drewN | apply below_drew1 | refine below_set ?_ GE368.out) | exact HB.out)))); have n2_ := Aside0.mk (blk_below (g := gb368) (o := .cells #[.int .i64 ((rd_T44 l0 x6_2).f0.f0), .int .i64 ((rd_T44 l0 x6_2).f0.f1), .int .i64 ((rd_T44 l0 x6_2).f1.f0), .int .i64 ((rd_T44 l0 x6_2).f1.f1), .int .i64 ((rd_T44 l0 x6_2).f2), .slice A367_5 ((rd_T44 l0 x6_2).f3).length c367_5] 44 (0, 0)) (by (with_reducible repeat (first | refine blk_drewN ?_ _ | refine blk_drew ?_ | refine blk_alloc ?_ _)); refine blk_put (cs := #[.int .i64 ((rd_T44 l0 x6_2).f0.f0), .int .i64 ((rd_T44 l0 x6_2).f0.f1), .int .i64 ((rd_T44 l0 x6_2).f1.f0), .int .i64 ((rd_T44 l0 x6_2).f1.f1), .int .i64 ((rd_T44 l0 x6_2).f2), .slice none 0 0]) ?_ 5 _ rfl; (with_reducible repeat (first | refine blk_drewN ?_ _ | refine blk_drew ?_ | refine blk_alloc ?_ _)); refine blk_put (cs := #[.int .i64 ((rd_T44 l0 x6_2).f0.f0), .int .i64 ((rd_T44 l0 x6_2).f0.f1), .int .i64 ((rd_T44 l0 x6_2).f1.f0), .int .i64 ((rd_T44 l0 x6_2).f1.f1), .int .i64 0, .slice none 0 0]) ?_ 4 _ rfl; (with_reducible repeat (first | refine blk_drewN ?_ _ | refine blk_drew ?_ | refine blk_alloc ?_ _)); refine blk_put (cs := #[.int .i64 ((rd_T44 l0 x6_2).f0.f0), .int .i64 ((rd_T44 l0 x6_2).f0.f1), .int .i64 ((rd_T44 l0 x6_2).f1.f0), .int .i64 0, .int .i64 0, .slice none 0 0]) ?_ 3 _ rfl; (with_reducible repeat (first | refine blk_drewN ?_ _ | refine blk_drew ?_ | refine blk_alloc ?_ _)); refine blk_put (cs := #[.int .i64 ((rd_T44 l0 x6_2).f0.f0), .int .i64 ((rd_T44 l0 x6_2).f0.f1), .int .i64 0, .int .i64 0, .int .i64 0, .slice none 0 0]) ?_ 2 _ rfl; (with_reducible repeat (first | refine blk_drewN ?_ _ | refine blk_drew ?_ | refine blk_alloc ?_ _)); refine blk_put (cs := #[.int .i64 ((rd_T44 l0 x6_2).f0.f0), .int .i64 0, .int .i64 0, .int .i64 0, .int .i64 0, .slice none 0 0]) ?_ 1 _ rfl; (with_reducible repeat (first | refine blk_drewN ?_ _ | refine blk_drew ?_ | refine blk_alloc ?_ _)); refine blk_put (cs := #[.int .i64 0, .int .i64 0, .int .i64 0, .int .i64 0, .int .i64 0, .slice none 0 0]) ?_ 0 _ rfl; (with_reducible repeat (first | refine blk_drewN ?_ _ | refine blk_drew ?_ | refine blk_alloc ?_ _)); exact BK368.out) hb); have n3_ := Aside0.mk (below_step (by repeat (first | (with_reducible first | exact HB.out | apply below_alloc | apply pw_below_drewN | apply below_drew1 | refine below_set ?_ GE368.out) | exact HB.out)) hb); clear HO_5; clear BK368; clear HB; have HO_5 := n0_; have HO371 := n1_; have BK368 := n2_; have HB := n3_; clear n0_ n1_ n2_ n3_; clear hb ho17; obtain ⟨Ao18, co18, eo18⟩ := Kd.R_slice HO371.out; subst eo18; have hcz19_0 : w16.cell? ⟨gb368, 0, none⟩ = some (.int .i64 ((rd_T44 l0 x6_2).f0.f0)) := (blk_cell BK368.out 0).trans rfl; have hcz19_1 : w16.cell? ⟨gb368, 1, none⟩ = some (.int .i64 ((rd_T44 l0 x6_2).f0.f1)) := (blk_cell BK368.out 1).trans rfl; have hcz19_2 : w16.cell? ⟨gb368, 2, none⟩ = some (.int .i64 ((rd_T44 l0 x6_2).f1.f0)) := (blk_cell BK368.out 2).trans rfl; have hcz19_3 : w16.cell? ⟨gb368, 3, none⟩ = some (.int .i64 ((rd_T44 l0 x6_2).f1.f1)) := (blk_cell BK368.out 3).trans rfl; have hcz19_4 : w16.cell? ⟨gb368, 4, none⟩ = some (.int .i64 ((rd_T44 l0 x6_2).f2)) := (blk_cell BK368.out 4).trans rfl; have hcz19_5 : w16.cell? ⟨gb368, 5, none⟩ = some (.slice A367_5 ((rd_T44 l0 x6_2).f3).length c367_5) := (blk_cell BK368.out 5).trans rfl; have hfz19_0 := blk_frozen BK368.out 0; have hfz19_1 := blk_frozen BK368.out 1; have hfz19_2 := blk_frozen BK368.out 2; have hfz19_3 := blk_frozen BK368.out 3; have hfz19_4 := blk_frozen BK368.out 4; have hfz19_5 := blk_frozen BK368.out 5) | ((with_reducible refine gate_builtin (b := .append) (xs := #[.tmp 42, .tmp 44]) rfl ?_); (try (refine gate_guard (by rfl) ?_; dsimp only)); at_builtin; refine Kd.S_append k44 (w0 := w) w.heap.size rfl (.tmp 42) (.tmp 44) 22 44 (.agg #[(.int .i64 0), (.int .i64 0), (.int .i64 0), (.int .i64 0), (.int .i64 0), (.slice none 0 0)]) 64 rfl Try.underlying22 info44 rfl (by decide) (by omega) u5 x5_2 (⟨(⟨(rd_T44 l0 x6_2).f0.f0, (rd_T44 l0 x6_2).f0.f1⟩ : S24), (⟨(rd_T44 l0 x6_2).f1.f0, (rd_T44 l0 x6_2).f1.f1⟩ : S24), (rd_T44 l0 x6_2).f2, ([] : List Int)⟩ : S44) [.int .i64 ((rd_T44 l0 x6_2).f0.f0), .int .i64 ((rd_T44 l0 x6_2).f0.f1), .int .i64 ((rd_T44 l0 x6_2).f1.f0), .int .i64 ((rd_T44 l0 x6_2).f1.f1), .int .i64 ((rd_T44 l0 x6_2).f2), .slice none 0 0] (fun k_ => some k_ ≠ (.slice Ao18 y369.length co18 : Value).ownBlock ∧ k_ ≠ gb368) (fun _ => False) rfl (by first | (go_simp; done) | (go_simp; rfl)) ?aP (fun k_ hk_ => hk_.elim) ?aF ?aO ?aB ?aS ?aL ?_; (case aP => exact k44_mkM _ _ _ (⟨(⟨(rd_T44 l0 x6_2).f0.f0, (rd_T44 l0 x6_2).f0.f1⟩ : S24), (⟨(rd_T44 l0 x6_2).f1.f0, (rd_T44 l0 x6_2).f1.f1⟩ : S24), (rd_T44 l0 x6_2).f2, ([] : List Int)⟩ : S44) (Kd.R_nil _ _ _ _ _)); (case aB => exact (by repeat (first | (with_reducible first | exact HB.out | apply below_alloc | apply pw_below_drewN | apply below_drew1 | refine below_set ?_ GE368.out) | exact HB.out))); (case aF => exact (fun k_ hk => ⟨Kd.fresh' (Kd.R_lt (by (with_reducible repeat (first | apply Kd.R_alloc | apply Kd.R_drewN | apply Kd.R_drew)); exact (Kd.R_mono (Kd.R_far (p := ⟨gb368, 5, none⟩) (Kd.R_far (p := ⟨gb368, 5, none⟩) (Kd.R_types HO371.out BK368.out (by decide)) (fun _ hk => hk.2) (.slice Ao18 y369.length co18)) (fun _ hk => hk.2) (.slice none 0 0)) (fun _ h_ => h_.1)))) k_ hk, Kd.freshB (g := gb368) (o := .cells #[.int .i64 ((rd_T44 l0 x6_2).f0.f0), .int .i64 ((rd_T44 l0 x6_2).f0.f1), .int .i64 ((rd_T44 l0 x6_2).f1.f0), .int .i64 ((rd_T44 l0 x6_2).f1.f1), .int .i64 ((rd_T44 l0 x6_2).f2), .slice none 0 0] 44 (0, 0)) (by (with_reducible repeat (first | refine blk_drewN ?_ _ | refine blk_drew ?_ | refine blk_alloc ?_ _)); refine blk_put (cs := #[.int .i64 ((rd_T44 l0 x6_2).f0.f0), .int .i64 ((rd_T44 l0 x6_2).f0.f1), .int .i64 ((rd_T44 l0 x6_2).f1.f0), .int .i64 ((rd_T44 l0 x6_2).f1.f1), .int .i64 ((rd_T44 l0 x6_2).f2), .slice Ao18 y369.length co18]) ?_ 5 _ rfl; (with_reducible repeat (first | refine blk_drewN ?_ _ | refine blk_drew ?_ | refine blk_alloc ?_ _)); refine blk_put (cs := #[.int .i64 ((rd_T44 l0 x6_2).f0.f0), .int .i64 ((rd_T44 l0 x6_2).f0.f1), .int .i64 ((rd_T44 l0 x6_2).f1.f0), .int .i64 ((rd_T44 l0 x6_2).f1.f1), .int .i64 ((rd_T44 l0 x6_2).f2), .slice A367_5 ((rd_T44 l0 x6_2).f3).length c367_5]) ?_ 5 _ rfl; (with_reducible repeat (first | refine blk_drewN ?_ _ | refine blk_drew ?_ | refine blk_alloc ?_ _)); exact BK368.out) k_ hk⟩)); (case aO => exact (by (with_reducible repeat (first | apply Kd.S_alloc | apply Kd.S_drewN | apply Kd.S_drew)); exact Kd.S_mono (Kd.S_far (p := ⟨gb368, 5, none⟩) (Kd.S_far (p := ⟨gb368, 5, none⟩) (Kd.S_mono HO_5.out (fun k_ hk => (⟨hk, hk.1.2⟩ : _ ∧ k_ ≠ gb368))) (fun _ hk => hk.2) (.slice Ao18 y369.length co18)) (fun _ hk => hk.2) (.slice none 0 0)) (fun k_ hk => ⟨⟨hk.1.2, hk.1.1.2⟩, fun e_ => e_⟩))); (case aS => exact (below_size (by repeat (first | (with_reducible first | exact HB.out | apply below_alloc | apply pw_below_drewN | apply below_drew1 | refine below_set ?_ GE368.out) | exact HB.out)))); (case aL => have := LMc13.out; omega); intro v373 w20 ho hb hg hat; rw [← Ny372.out] at ho; have n0_ := Aside0.mk (blk_grown (g := gb368) (o := .cells #[.int .i64 ((rd_T44 l0 x6_2).f0.f0), .int .i64 ((rd_T44 l0 x6_2).f0.f1), .int .i64 ((rd_T44 l0 x6_2).f1.f0), .int .i64 ((rd_T44 l0 x6_2).f1.f1), .int .i64 ((rd_T44 l0 x6_2).f2), .slice none 0 0] 44 (0, 0)) (by (with_reducible repeat (first | refine blk_drewN ?_ _ | refine blk_drew ?_ | refine blk_alloc ?_ _)); refine blk_put (cs := #[.int .i64 ((rd_T44 l0 x6_2).f0.f0), .int .i64 ((rd_T44 l0 x6_2).f0.f1), .int .i64 ((rd_T44 l0 x6_2).f1.f0), .int .i64 ((rd_T44 l0 x6_2).f1.f1), .int .i64 ((rd_T44 l0 x6_2).f2), .slice Ao18 y369.length co18]) ?_ 5 _ rfl; (with_reducible repeat (first | refine blk_drewN ?_ _ | refine blk_drew ?_ | refine blk_alloc ?_ _)); refine blk_put (cs := #[.int .i64 ((rd_T44 l0 x6_2).f0.f0), .int .i64 ((rd_T44 l0 x6_2).f0.f1), .int .i64 ((rd_T44 l0 x6_2).f1.f0), .int .i64 ((rd_T44 l0 x6_2).f1.f1), .int .i64 ((rd_T44 l0 x6_2).f2), .slice A367_5 ((rd_T44 l0 x6_2).f3).length c367_5]) ?_ 5 _ rfl; (with_reducible repeat (first | refine blk_drewN ?_ _ | refine blk_drew ?_ | refine blk_alloc ?_ _)); exact BK368.out) hg (Kd.S_away HO_5.out (fun _ hk => hk.1.2))); have n1_ := Aside0.mk (Kd.R_over' (by (with_reducible repeat (first | apply Kd.R_alloc | apply Kd.R_drewN | apply Kd.R_drew)); exact (Kd.R_mono (Kd.R_far (p := ⟨gb368, 5, none⟩) (Kd.R_far (p := ⟨gb368, 5, none⟩) (Kd.R_types HO371.out BK368.out (by decide)) (fun _ hk => hk.2) (.slice Ao18 y369.length co18)) (fun _ hk => hk.2) (.slice none 0 0)) (fun _ h_ => h_.1))) (Kd.S_typed (by (with_reducible repeat (first | apply Kd.S_alloc | apply Kd.S_drewN | apply Kd.S_drew)); exact (Kd.S_mono (Kd.S_far (p := ⟨gb368, 5, none⟩) (Kd.S_far (p := ⟨gb368, 5, none⟩) (Kd.S_mono HO_5.out (fun k_ hk => (⟨hk, hk.1.2⟩ : _ ∧ k_ ≠ gb368))) (fun _ hk => hk.2) (.slice Ao18 y369.length co18)) (fun _ hk => hk.2) (.slice none 0 0)) (fun _ h_ => h_.1)))) (by decide) hg); have n2_ := Aside0.mk (hb); have n3_ := Aside0.mk (ho); clear BK368; clear HO371; clear HB; clear HO_5; have BK368 := n0_; have HO371 := n1_; have HB := n2_; have HO374 := n3_; clear n0_ n1_ n2_ n3_; clear ho hb hg hat))
                    go_roundg k2
                    case measure => have := HJ2.out; have := HK2.out; omega
                    case rel => exact ⟨(y372), (wrap64 (x6_2 + 1)), (by first | rfl | (simp; done) | (simp [*]; done)), H', ⟨by have := HJ2.out; have := HK2.out; omega⟩, ⟨by (with_reducible repeat (first | apply Kd.S_alloc | apply Kd.S_drewN | apply Kd.S_drew)); exact Kd.S_mono HO374.out (fun _ hk => trivial)⟩, ⟨by repeat (first | (with_reducible first | exact HB.out | apply below_alloc | apply pw_below_drewN | apply below_drew1 | refine below_set ?_ GE368.out) | exact HB.out)⟩⟩
                  · rw [if_neg c13] at H
                    exact absurd H (by simp)
                · rw [if_neg c12] at H
                  have c12b0 : (x6_2 == a1) = false := beq_eq_false_iff_ne.mpr c12
                  have c12b1 : (x6_2 != a1) = true := bne_iff_ne.mpr c12
                  by_cases c21 : x5_2.length < 2199023255552
                  · rw [if_pos c21] at H
                    have LMc21 := Aside0.mk c21
                    clear c21
                    obtain ⟨y375, hy375⟩ : ∃ y_ : List (S44), y_ = (x5_2 ++ [(⟨(⟨(rd_T44 l0 x6_2).f0.f0, (rd_T44 l0 x6_2).f0.f1⟩ : S24), (⟨(rd_T44 l0 x6_2).f1.f0, (rd_T44 l0 x6_2).f1.f1⟩ : S24), (rd_T44 l0 x6_2).f2, y369⟩ : S44)]) := ⟨_, rfl⟩
                    replace H : (duetlaw12_ViewOne.l0 k2 l0 a1 y375 (wrap64 (x6_2 + 1))) = some r := by first | (rw [hy375]; with_reducible exact H) | (have H2_ := (Option.bind_some _ _).symm.trans H; rw [hy375]; with_reducible exact H2_) | (have H2_ := (Option.bind_some _ _).symm.trans H; with_reducible exact H2_) | with_reducible exact H | (rw [hy375]; exact H) | exact H
                    have Ny375 := Aside0.mk hy375
                    clear hy375
                    have H' := Aside0.mk H
                    clear H
                    have p367 : 0 ≤ (x6_2 : Int) := of_decide_eq_true (by first | (with_reducible assumption) | assumption)
                    have q367 : x6_2 < (l0.length : Int) := of_decide_eq_true (by first | (with_reducible assumption) | assumption)
                    obtain ⟨ad367, A367_5, c367_5, e367, hx367_0, hx367_1, hx367_2, hx367_3, hx367_4, hx367_5, hl367_5, hi367_5⟩ := at_T44 HR0.out x6_2 p367 q367
                    cases e367
                    (try replace hx367_0 := (HB.out.cell (World.block_lt_of_cell? w _ hx367_0)).trans hx367_0)
                    (try replace hx367_1 := (HB.out.cell (World.block_lt_of_cell? w _ hx367_1)).trans hx367_1)
                    (try replace hx367_2 := (HB.out.cell (World.block_lt_of_cell? w _ hx367_2)).trans hx367_2)
                    (try replace hx367_3 := (HB.out.cell (World.block_lt_of_cell? w _ hx367_3)).trans hx367_3)
                    (try replace hx367_4 := (HB.out.cell (World.block_lt_of_cell? w _ hx367_4)).trans hx367_4)
                    (try replace hx367_5 := (HB.out.cell (World.block_lt_of_cell? w _ hx367_5)).trans hx367_5)
                    have HR367_5 := Aside0.mk hi367_5
                    have HC367_5 := Aside0.mk hl367_5
                    clear hi367_5 hl367_5
                    replace p367 := eq_true p367
                    replace q367 := eq_true q367
                    go_wp2_with (first | ((with_reducible refine gate_dst (N := 7) rfl ?_); (try (refine gate_guard (by rfl) ?_; dsimp only)); refine box_event ?hg (N := 7) ?hd (cs := #[.int .i64 0, .int .i64 0, .int .i64 0, .int .i64 0, .int .i64 0, .slice none 0 0]) (t := 44) ?hr ?_; (case hd => rfl); (case hg => rfl); (case hr => first | (go_simp; done) | (go_simp; rfl)); intro gb368 hg w22 hbox hb; have n0_ := Aside0.mk (Kd.S_below (Kd.S_elderB (by (with_reducible repeat (first | apply Kd.S_alloc | apply Kd.S_drewN | apply Kd.S_drew)); exact HO_5.out) gb368 (Nat.le_of_eq hg.symm)) hb); have n1_ := Aside0.mk (below_step (by repeat (first | (with_reducible first | exact HB.out | apply below_alloc | apply pw_below_drewN | apply below_drew1) | exact HB.out)) hb); have n2_ := Aside0.mk (hbox); have n3_ := Aside0.mk ((by rw [hg]; exact (below_size (by repeat (first | (with_reducible first | exact HB.out | apply below_alloc | apply pw_below_drewN | apply below_drew1) | exact HB.out))) : w.heap.size ≤ gb368)); have n4_ := Aside0.mk ((by rw [hg]; exact (below_size (by repeat (first | (with_reducible first | exact HB.out | apply below_alloc | apply pw_below_drewN | apply below_drew1) | exact HB.out))) : w.heap.size ≤ gb368)); clear HO_5; clear HB; have HO_5 := n0_; have HB := n1_; have BK368 := n2_; have GW368 := n3_; have GE368 := n4_; clear n0_ n1_ n2_ n3_ n4_; clear hb hbox hg; have hcz23_0 : w22.cell? ⟨gb368, 0, none⟩ = some (.int .i64 0) := (blk_cell BK368.out 0).trans rfl; have hcz23_1 : w22.cell? ⟨gb368, 1, none⟩ = some (.int .i64 0) := (blk_cell BK368.out 1).trans rfl; have hcz23_2 : w22.cell? ⟨gb368, 2, none⟩ = some (.int .i64 0) := (blk_cell BK368.out 2).trans rfl; have hcz23_3 : w22.cell? ⟨gb368, 3, none⟩ = some (.int .i64 0) := (blk_cell BK368.out 3).trans rfl; have hcz23_4 : w22.cell? ⟨gb368, 4, none⟩ = some (.int .i64 0) := (blk_cell BK368.out 4).trans rfl; have hcz23_5 : w22.cell? ⟨gb368, 5, none⟩ = some (.slice none 0 0) := (blk_cell BK368.out 5).trans rfl; have hfz23_0 := blk_frozen BK368.out 0; have hfz23_1 := blk_frozen BK368.out 1; have hfz23_2 := blk_frozen BK368.out 2; have hfz23_3 := blk_frozen BK368.out 3; have hfz23_4 := blk_frozen BK368.out 4; have hfz23_5 := blk_frozen BK368.out 5) | ((with_reducible refine gate_dst (N := 36) rfl ?_); (try (refine gate_guard (by rfl) ?_; dsimp only)); refine Kd.R_lit (Kd.int .i64) _ 3 ?hg (N := 36) ?hd (xs := ([0] : List Int)) (inner := [.int .i64 0]) (ok := fun _ => True) (okp := fun _ => True) ?hr ?hp (fun _ hk => hk) trivial (Below.refl _ _) (Nat.le_refl _) (by simp) ?_; (case hd => rfl); (case hg => rfl); (case hr => first | (go_simp; done) | (go_simp; rfl)); (case hp => exact (Reps.one (show Kd.M (Kd.int .i64) _ _ _ 0 [.int .i64 0] from rfl) (Reps.none _ _))); intro v370 w24 ho25 hb hg_ hnew_; clear hg_ hnew_; (first | rw [← Ny369.out] at ho25 | (simp only [Int.reduceToNat] at ho25; rw [← Ny369.out] at ho25)); have n0_ := Aside0.mk (Kd.S_elder' (by (with_reducible repeat (first | apply Kd.S_alloc | apply Kd.S_drewN | apply Kd.S_drew)); exact (Kd.S_mono (Kd.S_far (p := ⟨gb368, 5, none⟩) (Kd.S_far (p := ⟨gb368, 4, none⟩) (Kd.S_far (p := ⟨gb368, 3, none⟩) (Kd.S_far (p := ⟨gb368, 2, none⟩) (Kd.S_far (p := ⟨gb368, 1, none⟩) (Kd.S_far (p := ⟨gb368, 0, none⟩) (Kd.S_mono HO_5.out (fun k_ hk => (⟨hk, hk.2⟩ : _ ∧ k_ ≠ gb368))) (fun _ hk => hk.2) (.int .i64 ((rd_T44 l0 x6_2).f0.f0))) (fun _ hk => hk.2) (.int .i64 ((rd_T44 l0 x6_2).f0.f1))) (fun _ hk => hk.2) (.int .i64 ((rd_T44 l0 x6_2).f1.f0))) (fun _ hk => hk.2) (.int .i64 ((rd_T44 l0 x6_2).f1.f1))) (fun _ hk => hk.2) (.int .i64 ((rd_T44 l0 x6_2).f2))) (fun _ hk => hk.2) (.slice A367_5 ((rd_T44 l0 x6_2).f3).length c367_5)) (fun _ h_ => h_.1))) (Kd.R_base ho25) hb); have n1_ := Aside0.mk (Kd.R_lower ho25 (below_size (by repeat (first | (with_reducible first | exact HB.out | apply below_alloc | apply pw_below_drewN | apply below_drew1 | refine below_set ?_ GE368.out) | exact HB.out)))); have n2_ := Aside0.mk (blk_below (g := gb368) (o := .cells #[.int .i64 ((rd_T44 l0 x6_2).f0.f0), .int .i64 ((rd_T44 l0 x6_2).f0.f1), .int .i64 ((rd_T44 l0 x6_2).f1.f0), .int .i64 ((rd_T44 l0 x6_2).f1.f1), .int .i64 ((rd_T44 l0 x6_2).f2), .slice A367_5 ((rd_T44 l0 x6_2).f3).length c367_5] 44 (0, 0)) (by (with_reducible repeat (first | refine blk_drewN ?_ _ | refine blk_drew ?_ | refine blk_alloc ?_ _)); refine blk_put (cs := #[.int .i64 ((rd_T44 l0 x6_2).f0.f0), .int .i64 ((rd_T44 l0 x6_2).f0.f1), .int .i64 ((rd_T44 l0 x6_2).f1.f0), .int .i64 ((rd_T44 l0 x6_2).f1.f1), .int .i64 ((rd_T44 l0 x6_2).f2), .slice none 0 0]) ?_ 5 _ rfl; (with_reducible repeat (first | refine blk_drewN ?_ _ | refine blk_drew ?_ | refine blk_alloc ?_ _)); refine blk_put (cs := #[.int .i64 ((rd_T44 l0 x6_2).f0.f0), .int .i64 ((rd_T44 l0 x6_2).f0.f1), .int .i64 ((rd_T44 l0 x6_2).f1.f0), .int .i64 ((rd_T44 l0 x6_2).f1.f1), .int .i64 0, .slice none 0 0]) ?_ 4 _ rfl; (with_reducible repeat (first | refine blk_drewN ?_ _ | refine blk_drew ?_ | refine blk_alloc ?_ _)); refine blk_put (cs := #[.int .i64 ((rd_T44 l0 x6_2).f0.f0), .int .i64 ((rd_T44 l0 x6_2).f0.f1), .int .i64 ((rd_T44 l0 x6_2).f1.f0), .int .i64 0, .int .i64 0, .slice none 0 0]) ?_ 3 _ rfl; (with_reducible repeat (first | refine blk_drewN ?_ _ | refine blk_drew ?_ | refine blk_alloc ?_ _)); refine blk_put (cs := #[.int .i64 ((rd_T44 l0 x6_2).f0.f0), .int .i64 ((rd_T44 l0 x6_2).f0.f1), .int .i64 0, .int .i64 0, .int .i64 0, .slice none 0 0]) ?_ 2 _ rfl; (with_reducible repeat (first | refine blk_drewN ?_ _ | refine blk_drew ?_ | refine blk_alloc ?_ _)); refine blk_put (cs := #[.int .i64 ((rd_T44 l0 x6_2).f0.f0), .int .i64 0, .int .i64 0, .int .i64 0, .int .i64 0, .slice none 0 0]) ?_ 1 _ rfl; (with_reducible repeat (first | refine blk_drewN ?_ _ | refine blk_drew ?_ | refine blk_alloc ?_ _)); refine blk_put (cs := #[.int .i64 0, .int .i64 0, .int .i64 0, .int .i64 0, .int .i64 0, .slice none 0 0]) ?_ 0 _ rfl; (with_reducible repeat (first | refine blk_drewN ?_ _ | refine blk_drew ?_ | refine blk_alloc ?_ _)); exact BK368.out) hb); have n3_ := Aside0.mk (below_step (by repeat (first | (with_reducible first | exact HB.out | apply below_alloc | apply pw_below_drewN | apply below_drew1 | refine below_set ?_ GE368.out) | exact HB.out)) hb); clear HO_5; clear BK368; clear HB; have HO_5 := n0_; have HO371 := n1_; have BK368 := n2_; have HB := n3_; clear n0_ n1_ n2_ n3_; clear hb ho25; obtain ⟨Ao26, co26, eo26⟩ := Kd.R_slice HO371.out; subst eo26; have hcz27_0 : w24.cell? ⟨gb368, 0, none⟩ = some (.int .i64 ((rd_T44 l0 x6_2).f0.f0)) := (blk_cell BK368.out 0).trans rfl; have hcz27_1 : w24.cell? ⟨gb368, 1, none⟩ = some (.int .i64 ((rd_T44 l0 x6_2).f0.f1)) := (blk_cell BK368.out 1).trans rfl; have hcz27_2 : w24.cell? ⟨gb368, 2, none⟩ = some (.int .i64 ((rd_T44 l0 x6_2).f1.f0)) := (blk_cell BK368.out 2).trans rfl; have hcz27_3 : w24.cell? ⟨gb368, 3, none⟩ = some (.int .i64 ((rd_T44 l0 x6_2).f1.f1)) := (blk_cell BK368.out 3).trans rfl; have hcz27_4 : w24.cell? ⟨gb368, 4, none⟩ = some (.int .i64 ((rd_T44 l0 x6_2).f2)) := (blk_cell BK368.out 4).trans rfl; have hcz27_5 : w24.cell? ⟨gb368, 5, none⟩ = some (.slice A367_5 ((rd_T44 l0 x6_2).f3).length c367_5) := (blk_cell BK368.out 5).trans rfl; have hfz27_0 := blk_frozen BK368.out 0; have hfz27_1 := blk_frozen BK368.out 1; have hfz27_2 := blk_frozen BK368.out 2; have hfz27_3 := blk_frozen BK368.out 3; have hfz27_4 := blk_frozen BK368.out 4; have hfz27_5 := blk_frozen BK368.out 5) | ((with_reducible refine gate_store (t := 38) (p := 37) rfl ?_); refine store_event (t := 38) (p := 37) (v := ?vo_w28) (w1 := (w24.setCell ⟨gb368, 5, none⟩ (.slice Ao26 y369.length co26))) ?hg ?ho ?hn ?hr ?_; (case ho => rfl); (case hg => rfl); (case hn => rfl); (case hr => first | (go_simp; done) | (go_simp; rfl)); intro w28 hw; have n0_ : Aside0 (Kd.S k44 44 w28 w.heap.size (fun k_ => some k_ ≠ (.slice Ao26 y369.length co26 : Value).ownBlock ∧ k_ ≠ gb368) u5 x5_2) := ⟨(by rw [hw]; exact (by (with_reducible repeat (first | apply Kd.S_alloc | apply Kd.S_drewN | apply Kd.S_drew)); exact Kd.S_mono (Kd.S_far (p := ⟨gb368, 5, none⟩) (Kd.S_mono HO_5.out (fun k_ hk => (⟨hk, hk.1.2⟩ : _ ∧ k_ ≠ gb368))) (fun _ hk => hk.2) (.slice Ao26 y369.length co26)) (fun _ hk => ⟨hk.1.2, hk.1.1.2⟩)))⟩; have n1_ : Aside0 (Kd.R (Kd.int .i64) 3 w28 w.heap.size (fun _ => True) (.slice Ao26 y369.length co26) y369) := ⟨(by rw [hw]; exact (by (with_reducible repeat (first | apply Kd.R_alloc | apply Kd.R_drewN | apply Kd.R_drew)); exact Kd.R_mono (Kd.R_far (p := ⟨gb368, 5, none⟩) (Kd.R_types HO371.out BK368.out (by decide)) (fun _ hk => hk.2) (.slice Ao26 y369.length co26)) (fun _ hk => trivial)))⟩; have n2_ : Aside0 (w28.heap[gb368]? = some (.cells #[.int .i64 ((rd_T44 l0 x6_2).f0.f0), .int .i64 ((rd_T44 l0 x6_2).f0.f1), .int .i64 ((rd_T44 l0 x6_2).f1.f0), .int .i64 ((rd_T44 l0 x6_2).f1.f1), .int .i64 ((rd_T44 l0 x6_2).f2), .slice Ao26 y369.length co26] 44 (0, 0))) := ⟨(by rw [hw]; exact (by (with_reducible repeat (first | refine blk_drewN ?_ _ | refine blk_drew ?_ | refine blk_alloc ?_ _)); refine blk_put (cs := #[.int .i64 ((rd_T44 l0 x6_2).f0.f0), .int .i64 ((rd_T44 l0 x6_2).f0.f1), .int .i64 ((rd_T44 l0 x6_2).f1.f0), .int .i64 ((rd_T44 l0 x6_2).f1.f1), .int .i64 ((rd_T44 l0 x6_2).f2), .slice A367_5 ((rd_T44 l0 x6_2).f3).length c367_5]) ?_ 5 _ rfl; (with_reducible repeat (first | refine blk_drewN ?_ _ | refine blk_drew ?_ | refine blk_alloc ?_ _)); exact BK368.out))⟩; have n3_ : Aside0 (Below w.heap.size w w28) := ⟨(by rw [hw]; exact (by repeat (first | (with_reducible first | exact HB.out | apply below_alloc | apply pw_below_drewN | apply below_drew1 | refine below_set ?_ GE368.out) | exact HB.out)))⟩; clear hw; clear HO_5; clear HO371; clear BK368; clear HB; have HO_5 := n0_; have HO371 := n1_; have BK368 := n2_; have HB := n3_; clear n0_ n1_ n2_ n3_; have hcz29_0 : w28.cell? ⟨gb368, 0, none⟩ = some (.int .i64 ((rd_T44 l0 x6_2).f0.f0)) := (blk_cell BK368.out 0).trans rfl; have hcz29_1 : w28.cell? ⟨gb368, 1, none⟩ = some (.int .i64 ((rd_T44 l0 x6_2).f0.f1)) := (blk_cell BK368.out 1).trans rfl; have hcz29_2 : w28.cell? ⟨gb368, 2, none⟩ = some (.int .i64 ((rd_T44 l0 x6_2).f1.f0)) := (blk_cell BK368.out 2).trans rfl; have hcz29_3 : w28.cell? ⟨gb368, 3, none⟩ = some (.int .i64 ((rd_T44 l0 x6_2).f1.f1)) := (blk_cell BK368.out 3).trans rfl; have hcz29_4 : w28.cell? ⟨gb368, 4, none⟩ = some (.int .i64 ((rd_T44 l0 x6_2).f2)) := (blk_cell BK368.out 4).trans rfl; have hcz29_5 : w28.cell? ⟨gb368, 5, none⟩ = some (.slice Ao26 y369.length co26) := (blk_cell BK368.out 5).trans rfl; have hfz29_0 := blk_frozen BK368.out 0; have hfz29_1 := blk_frozen BK368.out 1; have hfz29_2 := blk_frozen BK368.out 2; have hfz29_3 := blk_frozen BK368.out 3; have hfz29_4 := blk_frozen BK368.out 4; have hfz29_5 := blk_frozen BK368.out 5) | ((with_reducible refine gate_builtin (b := .append) (xs := #[.tmp 42, .tmp 44]) rfl ?_); (try (refine gate_guard (by rfl) ?_; dsimp only)); at_builtin; refine Kd.S_append k44 (w0 := w) w.heap.size rfl (.tmp 42) (.tmp 44) 22 44 (.agg #[(.int .i64 0), (.int .i64 0), (.int .i64 0), (.int .i64 0), (.int .i64 0), (.slice none 0 0)]) 64 rfl Try.underlying22 info44 rfl (by decide) (by omega) u5 x5_2 (⟨(⟨(rd_T44 l0 x6_2).f0.f0, (rd_T44 l0 x6_2).f0.f1⟩ : S24), (⟨(rd_T44 l0 x6_2).f1.f0, (rd_T44 l0 x6_2).f1.f1⟩ : S24), (rd_T44 l0 x6_2).f2, y369⟩ : S44) [.int .i64 ((rd_T44 l0 x6_2).f0.f0), .int .i64 ((rd_T44 l0 x6_2).f0.f1), .int .i64 ((rd_T44 l0 x6_2).f1.f0), .int .i64 ((rd_T44 l0 x6_2).f1.f1), .int .i64 ((rd_T44 l0 x6_2).f2), .slice Ao26 y369.length co26] (fun k_ => k_ ≠ gb368) (fun k_ => some k_ = (.slice Ao26 y369.length co26 : Value).ownBlock) rfl rfl ?aP (fun k_ hk_ => ((Kd.R_mono (ok' := fun k_ => ((fun k_ => k_ ≠ gb368)) k_ ∧ some k_ ≠ (u5 : Value).ownBlock) (Kd.R_types (Kd.R_apart' (HO371.out) (Kd.S_typed HO_5.out) (by decide)) BK368.out (by decide)) (fun k_ hk => ⟨hk.2, hk.1.2⟩))).1 k_ hk_.symm) ?aF ?aO ?aB ?aS ?aL ?_; (case aP => exact k44_mkM _ _ _ (⟨(⟨(rd_T44 l0 x6_2).f0.f0, (rd_T44 l0 x6_2).f0.f1⟩ : S24), (⟨(rd_T44 l0 x6_2).f1.f0, (rd_T44 l0 x6_2).f1.f1⟩ : S24), (rd_T44 l0 x6_2).f2, y369⟩ : S44) (Kd.R_mono (Kd.R_tight rfl (Kd.R_mono (ok' := fun k_ => ((fun k_ => k_ ≠ gb368)) k_ ∧ some k_ ≠ (u5 : Value).ownBlock) (Kd.R_types (Kd.R_apart' (HO371.out) (Kd.S_typed HO_5.out) (by decide)) BK368.out (by decide)) (fun k_ hk => ⟨hk.2, hk.1.2⟩))) (fun _ h_ => h_))); (case aB => exact (by repeat (first | (with_reducible first | exact HB.out | apply below_alloc | apply pw_below_drewN | apply below_drew1 | refine below_set ?_ GE368.out) | exact HB.out))); (case aF => exact (fun k_ hk => Kd.freshB (g := gb368) (o := .cells #[.int .i64 ((rd_T44 l0 x6_2).f0.f0), .int .i64 ((rd_T44 l0 x6_2).f0.f1), .int .i64 ((rd_T44 l0 x6_2).f1.f0), .int .i64 ((rd_T44 l0 x6_2).f1.f1), .int .i64 ((rd_T44 l0 x6_2).f2), .slice Ao26 y369.length co26] 44 (0, 0)) (by (with_reducible repeat (first | refine blk_drewN ?_ _ | refine blk_drew ?_ | refine blk_alloc ?_ _)); exact BK368.out) k_ hk)); (case aO => exact (by (with_reducible repeat (first | apply Kd.S_alloc | apply Kd.S_drewN | apply Kd.S_drew)); exact Kd.S_mono HO_5.out (fun k_ hk => ⟨hk.2, fun e_ => hk.1 e_⟩))); (case aS => exact (below_size (by repeat (first | (with_reducible first | exact HB.out | apply below_alloc | apply pw_below_drewN | apply below_drew1 | refine below_set ?_ GE368.out) | exact HB.out)))); (case aL => have := LMc21.out; omega); intro v376 w30 ho hb hg hat; rw [← Ny375.out] at ho; have n0_ := Aside0.mk (blk_grown (g := gb368) (o := .cells #[.int .i64 ((rd_T44 l0 x6_2).f0.f0), .int .i64 ((rd_T44 l0 x6_2).f0.f1), .int .i64 ((rd_T44 l0 x6_2).f1.f0), .int .i64 ((rd_T44 l0 x6_2).f1.f1), .int .i64 ((rd_T44 l0 x6_2).f2), .slice Ao26 y369.length co26] 44 (0, 0)) (by (with_reducible repeat (first | refine blk_drewN ?_ _ | refine blk_drew ?_ | refine blk_alloc ?_ _)); exact BK368.out) hg (Kd.S_away HO_5.out (fun _ hk => hk.2))); have n1_ := Aside0.mk (hb); have n2_ := Aside0.mk (ho); clear BK368; clear HB; clear HO_5; clear HO371; have BK368 := n0_; have HB := n1_; have HO377 := n2_; clear n0_ n1_ n2_; clear ho hb hg hat))
                    go_roundg k2
                    case measure => have := HJ2.out; have := HK2.out; omega
                    case rel => exact ⟨(y375), (wrap64 (x6_2 + 1)), (by first | rfl | (simp; done) | (simp [*]; done)), H', ⟨by have := HJ2.out; have := HK2.out; omega⟩, ⟨by (with_reducible repeat (first | apply Kd.S_alloc | apply Kd.S_drewN | apply Kd.S_drew)); exact Kd.S_mono HO377.out (fun _ hk => trivial)⟩, ⟨by repeat (first | (with_reducible first | exact HB.out | apply below_alloc | apply pw_below_drewN | apply below_drew1 | refine below_set ?_ GE368.out) | exact HB.out)⟩⟩
                  · rw [if_neg c21] at H
                    exact absurd H (by simp)
              · rw [if_neg c11] at H
                exact absurd H (by simp)
            · rw [if_neg c10] at H
              have c10b0 : decide (x6_2 < (l0.length : Int)) = false := decide_eq_false c10
              clear c10
              replace H := Option.bind_eq_some_iff.mp H
              obtain ⟨⟨t378, t379, t380⟩, A310, H⟩ := H
              replace H : ((view_Ref.f k2 x5_2 2).bind fun bt382 => ((view_Text.f x5_2).bind fun t386 => (if 0 ≤ a1 then (if a1 < (l0.length : Int) then ((duetref12_Sign.f k2 ((rd_T44 l0 a1).f2)).bind fun t388 => (if t386.toList = t388.toList then ((view_Seen.f x5_2).bind fun t389 => ((duetref01_Same.f k2 t389 (([a1] : List Int))).bind fun t395 => (if t395 = true then (if (t378 == ((rd_T44 l0 a1).f0.f0) && (t379 == ((rd_T44 l0 a1).f0.f1))) = true then (if t380 = 0 then (if bt382.2.2 = 1 then ((duetlaw12_live.f k2).bind fun t397 => (some t397)) else (some false)) else (some false)) else (some false)) else (some false)))) else (some false))) else (none)) else (none)))) = some r := H
              have A31 := Aside0.mk A310
              clear A310
              replace H := Option.bind_eq_some_iff.mp H
              obtain ⟨⟨t382, t383, t384⟩, A320, H⟩ := H
              replace H : ((view_Text.f x5_2).bind fun t386 => (if 0 ≤ a1 then (if a1 < (l0.length : Int) then ((duetref12_Sign.f k2 ((rd_T44 l0 a1).f2)).bind fun t388 => (if t386.toList = t388.toList then ((view_Seen.f x5_2).bind fun t389 => ((duetref01_Same.f k2 t389 (([a1] : List Int))).bind fun t395 => (if t395 = true then (if (t378 == ((rd_T44 l0 a1).f0.f0) && (t379 == ((rd_T44 l0 a1).f0.f1))) = true then (if t380 = 0 then (if t384 = 1 then ((duetlaw12_live.f k2).bind fun t397 => (some t397)) else (some false)) else (some false)) else (some false)) else (some false)))) else (some false))) else (none)) else (none))) = some r := H
              have A32 := Aside0.mk A320
              clear A320
              replace H := Option.bind_eq_some_iff.mp H
              obtain ⟨t386, A330, H⟩ := H
              replace H : (if 0 ≤ a1 then (if a1 < (l0.length : Int) then ((duetref12_Sign.f k2 ((rd_T44 l0 a1).f2)).bind fun t388 => (if t386.toList = t388.toList then ((view_Seen.f x5_2).bind fun t389 => ((duetref01_Same.f k2 t389 (([a1] : List Int))).bind fun t395 => (if t395 = true then (if (t378 == ((rd_T44 l0 a1).f0.f0) && (t379 == ((rd_T44 l0 a1).f0.f1))) = true then (if t380 = 0 then (if t384 = 1 then ((duetlaw12_live.f k2).bind fun t397 => (some t397)) else (some false)) else (some false)) else (some false)) else (some false)))) else (some false))) else (none)) else (none)) = some r := H
              have A33 := Aside0.mk A330
              clear A330
              by_cases c34 : 0 ≤ a1
              · rw [if_pos c34] at H
                have c34b0 : decide (0 ≤ a1) = true := decide_eq_true c34
                clear c34
                by_cases c35 : a1 < (l0.length : Int)
                · rw [if_pos c35] at H
                  have c35b0 : decide (a1 < (l0.length : Int)) = true := decide_eq_true c35
                  clear c35
                  replace H := Option.bind_eq_some_iff.mp H
                  obtain ⟨t388, A360, H⟩ := H
                  replace H : (if t386.toList = t388.toList then ((view_Seen.f x5_2).bind fun t389 => ((duetref01_Same.f k2 t389 (([a1] : List Int))).bind fun t395 => (if t395 = true then (if (t378 == ((rd_T44 l0 a1).f0.f0) && (t379 == ((rd_T44 l0 a1).f0.f1))) = true then (if t380 = 0 then (if t384 = 1 then ((duetlaw12_live.f k2).bind fun t397 => (some t397)) else (some false)) else (some false)) else (some false)) else (some false)))) else (some false)) = some r := H
                  have A36 := Aside0.mk A360
                  clear A360
                  by_cases c37 : t386.toList = t388.toList
                  · rw [if_pos c37] at H
                    have c37b0 : (t386.toList == t388.toList) = true := beq_iff_eq.mpr c37
                    have c37b1 : (t386.toList != t388.toList) = false := bne_eq_false_iff_eq.mpr c37
                    clear c37
                    replace H := Option.bind_eq_some_iff.mp H
                    obtain ⟨t389, A380, H⟩ := H
                    replace H : ((duetref01_Same.f k2 t389 (([a1] : List Int))).bind fun t395 => (if t395 = true then (if (t378 == ((rd_T44 l0 a1).f0.f0) && (t379 == ((rd_T44 l0 a1).f0.f1))) = true then (if t380 = 0 then (if t384 = 1 then ((duetlaw12_live.f k2).bind fun t397 => (some t397)) else (some false)) else (some false)) else (some false)) else (some false))) = some r := H
                    have A38 := Aside0.mk A380
                    clear A380
                    obtain ⟨y392, hy392⟩ : ∃ y_ : List Int, y_ = (([a1] : List Int)) := ⟨_, rfl⟩
                    replace H : ((duetref01_Same.f k2 t389 y392).bind fun t395 => (if t395 = true then (if (t378 == ((rd_T44 l0 a1).f0.f0) && (t379 == ((rd_T44 l0 a1).f0.f1))) = true then (if t380 = 0 then (if t384 = 1 then ((duetlaw12_live.f k2).bind fun t397 => (some t397)) else (some false)) else (some false)) else (some false)) else (some false))) = some r := by first | (rw [hy392]; with_reducible exact H) | (have H2_ := (Option.bind_some _ _).symm.trans H; rw [hy392]; with_reducible exact H2_) | (have H2_ := (Option.bind_some _ _).symm.trans H; with_reducible exact H2_) | with_reducible exact H | (rw [hy392]; exact H) | exact H
                    have Ny392 := Aside0.mk hy392
                    clear hy392
                    replace H := Option.bind_eq_some_iff.mp H
                    obtain ⟨t395, A390, H⟩ := H
                    replace H : (if t395 = true then (if (t378 == ((rd_T44 l0 a1).f0.f0) && (t379 == ((rd_T44 l0 a1).f0.f1))) = true then (if t380 = 0 then (if t384 = 1 then ((duetlaw12_live.f k2).bind fun t397 => (some t397)) else (some false)) else (some false)) else (some false)) else (some false)) = some r := H
                    have A39 := Aside0.mk A390
                    clear A390
                    by_cases c40 : t395 = true
                    · subst c40
                      have H1 : (if (t378 == ((rd_T44 l0 a1).f0.f0) && (t379 == ((rd_T44 l0 a1).f0.f1))) = true then (if t380 = 0 then (if t384 = 1 then ((duetlaw12_live.f k2).bind fun t397 => (some t397)) else (some false)) else (some false)) else (some false)) = some r := by rw [if_pos rfl] at H; exact H
                      clear H
                      have H := H1
                      clear H1
                      by_cases c41 : (t378 == ((rd_T44 l0 a1).f0.f0) && (t379 == ((rd_T44 l0 a1).f0.f1))) = true
                      · rw [if_pos c41] at H
                        have c41b0 : (t378 == ((rd_T44 l0 a1).f0.f0) && (t379 == ((rd_T44 l0 a1).f0.f1))) = true := c41
                        (try (have c41b1 : decide (t378 = ((rd_T44 l0 a1).f0.f0) && (t379 == ((rd_T44 l0 a1).f0.f1))) = true := by simpa using c41))
                        (try (have c41b2 : (t378 == ((rd_T44 l0 a1).f0.f0) && (t379 == ((rd_T44 l0 a1).f0.f1))) = true := by simpa using c41))
                        clear c41
                        by_cases c42 : t380 = 0
                        · rw [if_pos c42] at H
                          have c42b0 : (t380 == 0) = true := beq_iff_eq.mpr c42
                          have c42b1 : (t380 != 0) = false := bne_eq_false_iff_eq.mpr c42
                          clear c42
                          by_cases c43 : t384 = 1
                          · rw [if_pos c43] at H
                            have c43b0 : (t384 == 1) = true := beq_iff_eq.mpr c43
                            have c43b1 : (t384 != 1) = false := bne_eq_false_iff_eq.mpr c43
                            clear c43
                            replace H := Option.bind_eq_some_iff.mp H
                            obtain ⟨t397, A440, H⟩ := H
                            replace H : (some t397) = some r := H
                            have A44 := Aside0.mk A440
                            clear A440
                            obtain rfl := Option.some.inj H
                            obtain ⟨Ao45, co45, eo45⟩ := Kd.S_slice HO_5.out
                            subst eo45
                            try go_wp2_with (first | ((with_reducible refine gate_callee (f := 10) rfl ?_); refine goesL_ (some 48) rfl rfl Try.func10 (by kernel_rfl) rfl #[.slice Ao45 x5_2.length co45, .int .i64 1] rfl (by (try simp only [List.map_toArray, List.map_cons, List.map_nil]); first | done | rfl | (simp only [List.length_drop, List.length_take]; rfl)) ?_; (with_reducible refine (view_Ref.calls k2 _ _ x5_2 1 t378 t379 t380 _ ?side1 ?side2 A31.out).mono ?_); (case side1 => repeat (first | exact (Kd.S_reads' HO_5.out).2.2 | (with_reducible refine Kd.C_alloc ?_ _) | (with_reducible refine Kd.C_drewN ?_ _) | (with_reducible refine Kd.C_drew ?_))); (case side2 => exact (Kd.S_reads' HO_5.out).2.1); rintro e w46 ⟨rfl, hb⟩; refine ⟨_, rfl, ?_⟩; have n0_ := Aside0.mk (Kd.S_below (by (with_reducible repeat (first | apply Kd.S_alloc | apply Kd.S_drewN | apply Kd.S_drew)); exact HO_5.out) hb); have n1_ := Aside0.mk (below_step (by repeat (first | (with_reducible first | exact HB.out | apply below_alloc | apply pw_below_drewN | apply below_drew1) | exact HB.out)) hb); clear HO_5; clear HB; have HO_5 := n0_; have HB := n1_; clear n0_ n1_; (try clear hb); (try clear hb2); (try clear hk); (try clear hi)) | ((with_reducible refine gate_dst (N := 8) rfl ?_); (try (refine gate_guard (by rfl) ?_; dsimp only)); refine box_event ?hg (N := 8) ?hd (cs := #[.int .i64 0, .int .i64 0]) (t := 24) ?hr ?_; (case hd => rfl); (case hg => rfl); (case hr => first | (go_simp; done) | (go_simp; rfl)); intro gb381 hg w47 hbox hb; have n0_ := Aside0.mk (Kd.S_below (by (with_reducible repeat (first | apply Kd.S_alloc | apply Kd.S_drewN | apply Kd.S_drew)); exact HO_5.out) hb); have n1_ := Aside0.mk (below_step (by repeat (first | (with_reducible first | exact HB.out | apply below_alloc | apply pw_below_drewN | apply below_drew1) | exact HB.out)) hb); have n2_ := Aside0.mk (hbox); have n3_ := Aside0.mk ((by rw [hg]; exact (below_size (by repeat (first | (with_reducible first | exact HB.out | apply below_alloc | apply pw_below_drewN | apply below_drew1) | exact HB.out))) : w.heap.size ≤ gb381)); have n4_ := Aside0.mk ((by rw [hg]; exact (below_size (by repeat (first | (with_reducible first | exact HB.out | apply below_alloc | apply pw_below_drewN | apply below_drew1) | exact HB.out))) : w.heap.size ≤ gb381)); clear HO_5; clear HB; have HO_5 := n0_; have HB := n1_; have BK381 := n2_; have GW381 := n3_; have GE381 := n4_; clear n0_ n1_ n2_ n3_ n4_; clear hb hbox hg; have hcz48_0 : w47.cell? ⟨gb381, 0, none⟩ = some (.int .i64 0) := (blk_cell BK381.out 0).trans rfl; have hcz48_1 : w47.cell? ⟨gb381, 1, none⟩ = some (.int .i64 0) := (blk_cell BK381.out 1).trans rfl; have hfz48_0 := blk_frozen BK381.out 0; have hfz48_1 := blk_frozen BK381.out 1) | ((with_reducible refine gate_callee (f := 10) rfl ?_); refine goesL_ (some 53) rfl rfl Try.func10 (by kernel_rfl) rfl #[.slice Ao45 x5_2.length co45, .int .i64 2] rfl (by (try simp only [List.map_toArray, List.map_cons, List.map_nil]); first | done | rfl | (simp only [List.length_drop, List.length_take]; rfl)) ?_; (with_reducible refine (view_Ref.calls k2 _ _ x5_2 2 t382 t383 t384 _ ?side1 ?side2 A32.out).mono ?_); (case side1 => refine (Kd.S_reads' (e := 44) (base := w.heap.size) (ok := fun k_ => True) (n := x5_2.length) (c := co45) ?_).2.2; exact (by (with_reducible repeat (first | apply Kd.S_alloc | apply Kd.S_drewN | apply Kd.S_drew)); exact (Kd.S_mono (Kd.S_far (p := ⟨gb381, 1, none⟩) (Kd.S_far (p := ⟨gb381, 0, none⟩) (Kd.S_types HO_5.out BK381.out (by decide)) (fun _ hk => hk.2) (.int .i64 t378)) (fun _ hk => hk.2) (.int .i64 t379)) (fun _ h_ => h_.1)))); (case side2 => exact (Kd.S_reads' HO_5.out).2.1); rintro e w49 ⟨rfl, hb⟩; refine ⟨_, rfl, ?_⟩; have n0_ := Aside0.mk (Kd.S_below (by (with_reducible repeat (first | apply Kd.S_alloc | apply Kd.S_drewN | apply Kd.S_drew)); exact (Kd.S_mono (Kd.S_far (p := ⟨gb381, 1, none⟩) (Kd.S_far (p := ⟨gb381, 0, none⟩) (Kd.S_types HO_5.out BK381.out (by decide)) (fun _ hk => hk.2) (.int .i64 t378)) (fun _ hk => hk.2) (.int .i64 t379)) (fun _ h_ => h_.1))) hb); have n1_ := Aside0.mk (blk_below (g := gb381) (o := .cells #[.int .i64 t378, .int .i64 t379] 24 (0, 0)) (by (with_reducible repeat (first | refine blk_drewN ?_ _ | refine blk_drew ?_ | refine blk_alloc ?_ _)); refine blk_put (cs := #[.int .i64 t378, .int .i64 0]) ?_ 1 _ rfl; (with_reducible repeat (first | refine blk_drewN ?_ _ | refine blk_drew ?_ | refine blk_alloc ?_ _)); refine blk_put (cs := #[.int .i64 0, .int .i64 0]) ?_ 0 _ rfl; (with_reducible repeat (first | refine blk_drewN ?_ _ | refine blk_drew ?_ | refine blk_alloc ?_ _)); exact BK381.out) hb); have n2_ := Aside0.mk (below_step (by repeat (first | (with_reducible first | exact HB.out | apply below_alloc | apply pw_below_drewN | apply below_drew1 | refine below_set ?_ GE381.out) | exact HB.out)) hb); clear HO_5; clear BK381; clear HB; have HO_5 := n0_; have BK381 := n1_; have HB := n2_; clear n0_ n1_ n2_; (try clear hb); (try clear hb2); (try clear hk); (try clear hi)) | ((with_reducible refine gate_dst (N := 10) rfl ?_); (try (refine gate_guard (by rfl) ?_; dsimp only)); refine box_event ?hg (N := 10) ?hd (cs := #[.int .i64 0, .int .i64 0]) (t := 24) ?hr ?_; (case hd => rfl); (case hg => rfl); (case hr => first | (go_simp; done) | (go_simp; rfl)); intro gb385 hg w50 hbox hb; have n0_ := Aside0.mk (Kd.S_below (by (with_reducible repeat (first | apply Kd.S_alloc | apply Kd.S_drewN | apply Kd.S_drew)); exact HO_5.out) hb); have n1_ := Aside0.mk (blk_below (g := gb381) (o := .cells #[.int .i64 t378, .int .i64 t379] 24 (0, 0)) (by (with_reducible repeat (first | refine blk_drewN ?_ _ | refine blk_drew ?_ | refine blk_alloc ?_ _)); exact BK381.out) hb); have n2_ := Aside0.mk (below_step (by repeat (first | (with_reducible first | exact HB.out | apply below_alloc | apply pw_below_drewN | apply below_drew1 | refine below_set ?_ GE381.out) | exact HB.out)) hb); have n3_ := Aside0.mk (hbox); have n4_ := Aside0.mk ((by rw [hg]; exact (below_size (by repeat (first | (with_reducible first | exact HB.out | apply below_alloc | apply pw_below_drewN | apply below_drew1 | refine below_set ?_ GE381.out) | exact HB.out))) : w.heap.size ≤ gb385)); have n5_ := Aside0.mk ((by rw [hg]; exact (below_size (by repeat (first | (with_reducible first | exact HB.out | apply below_alloc | apply pw_below_drewN | apply below_drew1 | refine below_set ?_ GE381.out) | exact HB.out))) : w.heap.size ≤ gb385)); have n6_ := Aside0.mk ((by rw [hg]; exact Nat.ne_of_lt (blk_lt (g := gb381) (o := .cells #[.int .i64 t378, .int .i64 t379] 24 (0, 0)) (by (with_reducible repeat (first | refine blk_drewN ?_ _ | refine blk_drew ?_ | refine blk_alloc ?_ _)); exact BK381.out)) : gb381 ≠ gb385)); have n7_ := Aside0.mk ((by rw [hg]; exact Nat.ne_of_gt (blk_lt (g := gb381) (o := .cells #[.int .i64 t378, .int .i64 t379] 24 (0, 0)) (by (with_reducible repeat (first | refine blk_drewN ?_ _ | refine blk_drew ?_ | refine blk_alloc ?_ _)); exact BK381.out)) : gb385 ≠ gb381)); clear HO_5; clear BK381; clear HB; have HO_5 := n0_; have BK381 := n1_; have HB := n2_; have BK385 := n3_; have GW385 := n4_; have GE385 := n5_; have NB381_385 := n6_; have NB385_381 := n7_; clear n0_ n1_ n2_ n3_ n4_ n5_ n6_ n7_; clear hb hbox hg; have hnb51 := NB385_381.out; have hnc51 := NB381_385.out; have hcz52_0 : w50.cell? ⟨gb385, 0, none⟩ = some (.int .i64 0) := (blk_cell BK385.out 0).trans rfl; have hcz52_1 : w50.cell? ⟨gb385, 1, none⟩ = some (.int .i64 0) := (blk_cell BK385.out 1).trans rfl; have hfz52_0 := blk_frozen BK385.out 0; have hfz52_1 := blk_frozen BK385.out 1))
                            have n0_ : Aside0 (Kd.S k44 44 ((w50.setCell ⟨gb385, 0, none⟩ (.int .i64 t382)).setCell ⟨gb385, 1, none⟩ (.int .i64 t383)) w.heap.size (fun _ => True) (.slice Ao45 x5_2.length co45) x5_2) := ⟨by (with_reducible repeat (first | apply Kd.S_alloc | apply Kd.S_drewN | apply Kd.S_drew)); exact Kd.S_mono (Kd.S_far (p := ⟨gb385, 1, none⟩) (Kd.S_far (p := ⟨gb385, 0, none⟩) (Kd.S_types HO_5.out BK385.out (by decide)) (fun _ hk => hk.2) (.int .i64 t382)) (fun _ hk => hk.2) (.int .i64 t383)) (fun _ hk => trivial)⟩
                            have n1_ : Aside0 (((w50.setCell ⟨gb385, 0, none⟩ (.int .i64 t382)).setCell ⟨gb385, 1, none⟩ (.int .i64 t383)).heap[gb381]? = some (.cells #[.int .i64 t378, .int .i64 t379] 24 (0, 0))) := ⟨by (with_reducible repeat (first | refine blk_drewN ?_ _ | refine blk_drew ?_ | refine blk_alloc ?_ _)); refine blk_far ?_ NB381_385.out _; (with_reducible repeat (first | refine blk_drewN ?_ _ | refine blk_drew ?_ | refine blk_alloc ?_ _)); refine blk_far ?_ NB381_385.out _; (with_reducible repeat (first | refine blk_drewN ?_ _ | refine blk_drew ?_ | refine blk_alloc ?_ _)); exact BK381.out⟩
                            have n2_ : Aside0 (((w50.setCell ⟨gb385, 0, none⟩ (.int .i64 t382)).setCell ⟨gb385, 1, none⟩ (.int .i64 t383)).heap[gb385]? = some (.cells #[.int .i64 t382, .int .i64 t383] 24 (0, 0))) := ⟨by (with_reducible repeat (first | refine blk_drewN ?_ _ | refine blk_drew ?_ | refine blk_alloc ?_ _)); refine blk_put (cs := #[.int .i64 t382, .int .i64 0]) ?_ 1 _ rfl; (with_reducible repeat (first | refine blk_drewN ?_ _ | refine blk_drew ?_ | refine blk_alloc ?_ _)); refine blk_put (cs := #[.int .i64 0, .int .i64 0]) ?_ 0 _ rfl; (with_reducible repeat (first | refine blk_drewN ?_ _ | refine blk_drew ?_ | refine blk_alloc ?_ _)); exact BK385.out⟩
                            have n3_ : Aside0 (Below w.heap.size w ((w50.setCell ⟨gb385, 0, none⟩ (.int .i64 t382)).setCell ⟨gb385, 1, none⟩ (.int .i64 t383))) := ⟨by repeat (first | (with_reducible first | exact HB.out | apply below_alloc | apply pw_below_drewN | apply below_drew1 | refine below_set ?_ GE381.out | refine below_set ?_ GE385.out) | exact HB.out)⟩
                            (try clear HO_5)
                            (try clear BK381)
                            (try clear BK385)
                            (try clear HB)
                            generalize ((w50.setCell ⟨gb385, 0, none⟩ (.int .i64 t382)).setCell ⟨gb385, 1, none⟩ (.int .i64 t383)) = w53 at n0_ n1_ n2_ n3_ ⊢
                            have HO_5 := n0_
                            have BK381 := n1_
                            have BK385 := n2_
                            have HB := n3_
                            clear n0_ n1_ n2_ n3_
                            have n0_ := Aside0.mk (Kd.S_drew HO_5.out)
                            have n1_ := Aside0.mk (blk_drew BK381.out)
                            have n2_ := Aside0.mk (blk_drew BK385.out)
                            have n3_ := Aside0.mk (below_drew1 HB.out)
                            clear HO_5
                            clear BK381
                            clear BK385
                            clear HB
                            have HO_5 := n0_
                            have BK381 := n1_
                            have BK385 := n2_
                            have HB := n3_
                            clear n0_ n1_ n2_ n3_
                            have p387 : 0 ≤ (a1 : Int) := of_decide_eq_true (by first | (with_reducible assumption) | assumption)
                            have q387 : a1 < (l0.length : Int) := of_decide_eq_true (by first | (with_reducible assumption) | assumption)
                            obtain ⟨ad387, A387_5, c387_5, e387, hx387_0, hx387_1, hx387_2, hx387_3, hx387_4, hx387_5, hl387_5, hi387_5⟩ := at_T44 HR0.out a1 p387 q387
                            have hw387_5 := hx387_5
                            have hw387_4 := hx387_4
                            have hw387_3 := hx387_3
                            have hw387_2 := hx387_2
                            have hw387_1 := hx387_1
                            have hw387_0 := hx387_0
                            cases e387
                            (try replace hx387_0 := (HB.out.cell (World.block_lt_of_cell? w _ hx387_0)).trans hx387_0)
                            (try replace hx387_1 := (HB.out.cell (World.block_lt_of_cell? w _ hx387_1)).trans hx387_1)
                            (try replace hx387_2 := (HB.out.cell (World.block_lt_of_cell? w _ hx387_2)).trans hx387_2)
                            (try replace hx387_3 := (HB.out.cell (World.block_lt_of_cell? w _ hx387_3)).trans hx387_3)
                            (try replace hx387_4 := (HB.out.cell (World.block_lt_of_cell? w _ hx387_4)).trans hx387_4)
                            (try replace hx387_5 := (HB.out.cell (World.block_lt_of_cell? w _ hx387_5)).trans hx387_5)
                            have HR387_5 := Aside0.mk hi387_5
                            have HC387_5 := Aside0.mk hl387_5
                            clear hi387_5 hl387_5
                            replace p387 := eq_true p387
                            replace q387 := eq_true q387
                            have p396 : 0 ≤ (a1 : Int) := of_decide_eq_true (by first | (with_reducible assumption) | assumption)
                            have q396 : a1 < (l0.length : Int) := of_decide_eq_true (by first | (with_reducible assumption) | assumption)
                            obtain ⟨ad396, A396_5, c396_5, e396, hx396_0, hx396_1, hx396_2, hx396_3, hx396_4, hx396_5, hl396_5, hi396_5⟩ := at_T44 HR0.out a1 p396 q396
                            have hw396_5 := hx396_5
                            have hw396_4 := hx396_4
                            have hw396_3 := hx396_3
                            have hw396_2 := hx396_2
                            have hw396_1 := hx396_1
                            have hw396_0 := hx396_0
                            obtain rfl : ad387 = ad396 := (by injection e396)
                            (try replace hx396_0 := (HB.out.cell (World.block_lt_of_cell? w _ hx396_0)).trans hx396_0)
                            (try replace hx396_1 := (HB.out.cell (World.block_lt_of_cell? w _ hx396_1)).trans hx396_1)
                            (try replace hx396_2 := (HB.out.cell (World.block_lt_of_cell? w _ hx396_2)).trans hx396_2)
                            (try replace hx396_3 := (HB.out.cell (World.block_lt_of_cell? w _ hx396_3)).trans hx396_3)
                            (try replace hx396_4 := (HB.out.cell (World.block_lt_of_cell? w _ hx396_4)).trans hx396_4)
                            (try replace hx396_5 := (HB.out.cell (World.block_lt_of_cell? w _ hx396_5)).trans hx396_5)
                            have HR396_5 := Aside0.mk hi396_5
                            have HC396_5 := Aside0.mk hl396_5
                            clear hi396_5 hl396_5
                            replace p396 := eq_true p396
                            replace q396 := eq_true q396
                            refine start_ (n := 37) (S := fun w' => w'.cell? ⟨gb381, 0, none⟩ = some (.int .i64 t378) ∧ w'.cell? ⟨gb381, 1, none⟩ = some (.int .i64 t379) ∧ w'.cell? (ad387.add ((a1).toNat * 6)) = some (.int .i64 ((rd_T44 l0 a1).f0.f0)) ∧ w'.cell? ⟨(ad387.add ((a1).toNat * 6)).block, (ad387.add ((a1).toNat * 6)).off + 1, none⟩ = some (.int .i64 ((rd_T44 l0 a1).f0.f1)) ∧ w'.cell? ⟨(ad387.add ((a1).toNat * 6)).block, (ad387.add ((a1).toNat * 6)).off + 2, none⟩ = some (.int .i64 ((rd_T44 l0 a1).f1.f0)) ∧ w'.cell? ⟨(ad387.add ((a1).toNat * 6)).block, (ad387.add ((a1).toNat * 6)).off + 3, none⟩ = some (.int .i64 ((rd_T44 l0 a1).f1.f1)) ∧ w'.cell? ⟨(ad387.add ((a1).toNat * 6)).block, (ad387.add ((a1).toNat * 6)).off + 4, none⟩ = some (.int .i64 ((rd_T44 l0 a1).f2)) ∧ w'.cell? ⟨(ad387.add ((a1).toNat * 6)).block, (ad387.add ((a1).toNat * 6)).off + 5, none⟩ = some (.slice A387_5 ((rd_T44 l0 a1).f3).length c387_5) ∧ w'.cell? (ad387.add ((a1).toNat * 6)) = some (.int .i64 ((rd_T44 l0 a1).f0.f0)) ∧ w'.cell? ⟨(ad387.add ((a1).toNat * 6)).block, (ad387.add ((a1).toNat * 6)).off + 1, none⟩ = some (.int .i64 ((rd_T44 l0 a1).f0.f1)) ∧ w'.cell? ⟨(ad387.add ((a1).toNat * 6)).block, (ad387.add ((a1).toNat * 6)).off + 2, none⟩ = some (.int .i64 ((rd_T44 l0 a1).f1.f0)) ∧ w'.cell? ⟨(ad387.add ((a1).toNat * 6)).block, (ad387.add ((a1).toNat * 6)).off + 3, none⟩ = some (.int .i64 ((rd_T44 l0 a1).f1.f1)) ∧ w'.cell? ⟨(ad387.add ((a1).toNat * 6)).block, (ad387.add ((a1).toNat * 6)).off + 4, none⟩ = some (.int .i64 ((rd_T44 l0 a1).f2)) ∧ w'.cell? ⟨(ad387.add ((a1).toNat * 6)).block, (ad387.add ((a1).toNat * 6)).off + 5, none⟩ = some (.slice A396_5 ((rd_T44 l0 a1).f3).length c396_5)) (ds := []) #[false, false, false, false, false, false, false, false, false, false, false, false, false, false, false, false, false, false, false, false, false, false, false, false, false, false, false, false, false, false, false, false, false, false, false, false, false] (by kernel_rfl) rfl rfl ⟨(blk_cell BK381.out 0).trans rfl, (blk_cell BK381.out 1).trans rfl, ((HB.out.cell (World.block_lt_of_cell? w _ hw387_0)).trans hw387_0), ((HB.out.cell (World.block_lt_of_cell? w _ hw387_1)).trans hw387_1), ((HB.out.cell (World.block_lt_of_cell? w _ hw387_2)).trans hw387_2), ((HB.out.cell (World.block_lt_of_cell? w _ hw387_3)).trans hw387_3), ((HB.out.cell (World.block_lt_of_cell? w _ hw387_4)).trans hw387_4), ((HB.out.cell (World.block_lt_of_cell? w _ hw387_5)).trans hw387_5), ((HB.out.cell (World.block_lt_of_cell? w _ hw396_0)).trans hw396_0), ((HB.out.cell (World.block_lt_of_cell? w _ hw396_1)).trans hw396_1), ((HB.out.cell (World.block_lt_of_cell? w _ hw396_2)).trans hw396_2), ((HB.out.cell (World.block_lt_of_cell? w _ hw396_3)).trans hw396_3), ((HB.out.cell (World.block_lt_of_cell? w _ hw396_4)).trans hw396_4), ((HB.out.cell (World.block_lt_of_cell? w _ hw396_5)).trans hw396_5)⟩ (fun hHeld => ?_); refine with_tabW duetlaw12_ViewOne.tab14 duetlaw12_ViewOne.bits14 (fun HT_ HW_ => ?_)
                            generalize w53.drew = w54 at HO_5 BK381 BK385 HB HR387_5 HR396_5 hx387_0 hx387_1 hx387_2 hx387_3 hx387_4 hx387_5 hx396_0 hx396_1 hx396_2 hx396_3 hx396_4 hx396_5 hHeld ⊢
                            refine pure_ (i := 0) (N := some 56) (v := ?_) (a' := ?_) #[true, false, false, false, false, false, false, false, false, false, false, false, false, false, false, false, false, false, false, false, false, false, false, false, false, false, false, false, false, false, false, false, false, false, false, false, false] rfl rfl (any_of HT_.out (by kernel_rfl)) (fun _ _ _ h => h) (Or.inl ⟨by rfl, ?_⟩) ?_ ?_
                            rotate_left
                            · intro w'
                              go_simp
                              with_reducible rfl
                            rotate_left
                            · simp only [Act.put, List.setIfInBounds_toArray, List.set_cons_zero, List.set_cons_succ, i64_w, i32_w]
                              rfl
                            refine pure_ (i := 2) (N := some 58) (v := ?_) (a' := ?_) #[true, false, true, false, false, false, false, false, false, false, false, false, false, false, false, false, false, false, false, false, false, false, false, false, false, false, false, false, false, false, false, false, false, false, false, false, false] rfl rfl (any_of HT_.out (by kernel_rfl)) (fun _ _ _ h => h) (Or.inl ⟨by rfl, ?_⟩) ?_ ?_
                            rotate_left
                            · intro w'
                              go_simp
                              with_reducible rfl
                            rotate_left
                            · simp only [Act.put, List.setIfInBounds_toArray, List.set_cons_zero, List.set_cons_succ, i64_w, i32_w]
                              rfl
                            refine pure_ (i := 3) (N := some 59) (v := ?_) (a' := ?_) #[true, false, true, true, false, false, false, false, false, false, false, false, false, false, false, false, false, false, false, false, false, false, false, false, false, false, false, false, false, false, false, false, false, false, false, false, false] rfl rfl (any_of HT_.out (by kernel_rfl)) (fun _ _ _ h => h) (Or.inl ⟨by rfl, ?_⟩) ?_ ?_
                            rotate_left
                            · intro w'
                              go_simp
                              with_reducible rfl
                            rotate_left
                            · simp only [Act.put, List.setIfInBounds_toArray, List.set_cons_zero, List.set_cons_succ, i64_w, i32_w]
                              rfl
                            refine pure_ (i := 4) (N := some 60) (v := ?_) (a' := ?_) #[true, false, true, true, true, false, false, false, false, false, false, false, false, false, false, false, false, false, false, false, false, false, false, false, false, false, false, false, false, false, false, false, false, false, false, false, false] rfl rfl (any_of HT_.out (by kernel_rfl)) (fun _ _ _ h => h) (Or.inl ⟨by rfl, ?_⟩) ?_ ?_
                            rotate_left
                            · intro w'
                              go_simp
                              with_reducible rfl
                            rotate_left
                            · simp only [Act.put, List.setIfInBounds_toArray, List.set_cons_zero, List.set_cons_succ, i64_w, i32_w]
                              rfl
                            refine pure_ (i := 5) (N := some 61) (v := ?_) (a' := ?_) #[true, false, true, true, true, true, false, false, false, false, false, false, false, false, false, false, false, false, false, false, false, false, false, false, false, false, false, false, false, false, false, false, false, false, false, false, false] rfl rfl (any_of HT_.out (by kernel_rfl)) (fun _ _ _ h => h) (Or.inl ⟨by rfl, ?_⟩) ?_ ?_
                            rotate_left
                            · intro w'
                              go_simp
                              with_reducible rfl
                            rotate_left
                            · simp only [Act.put, List.setIfInBounds_toArray, List.set_cons_zero, List.set_cons_succ, i64_w, i32_w]
                              rfl
                            refine take_ (i := 6) (N := some 62) (v := ?_) (a' := ?_) #[true, false, true, true, true, true, true, false, false, false, false, false, false, false, false, false, false, false, false, false, false, false, false, false, false, false, false, false, false, false, false, false, false, false, false, false, false] rfl rfl (take_ofW HT_.out HW_.out (by kernel_rfl)) (fun _ _ _ h => h) (Or.inl ⟨by rfl, ?_⟩) hHeld ?_ ?_
                            rotate_left
                            · rintro w' ⟨s0, s1, s2, s3, s4, s5, s6, s7, s8, s9, s10, s11, s12, s13⟩
                              go_simp
                              with_reducible rfl
                            rotate_left
                            · simp only [Act.put, List.setIfInBounds_toArray, List.set_cons_zero, List.set_cons_succ, i64_w, i32_w]
                              rfl
                            refine one_ (i := 1) (N := some 57) #[true, true, true, true, true, true, true, false, false, false, false, false, false, false, false, false, false, false, false, false, false, false, false, false, false, false, false, false, false, false, false, false, false, false, false, false, false] rfl rfl (one_of HT_.out (by kernel_rfl)) (by decide) (fun K hK => ?_)
                            refine goes_ Try.func19 (by kernel_rfl) rfl #[.slice Ao45 x5_2.length co45] (by rfl) rfl rfl (by (try simp only [List.map_toArray, List.map_cons, List.map_nil]); first | done | rfl | (simp only [List.length_drop, List.length_take]; rfl)) ?_
                            with_reducible refine (view_Text.calls _ _ x5_2 t386 _ ?side1 ?side2 A33.out).mono ?_
                            (case side1 => repeat (first | exact (Kd.S_reads' HO_5.out).2.2 | (with_reducible refine Kd.C_alloc ?_ _) | (with_reducible refine Kd.C_drewN ?_ _) | (with_reducible refine Kd.C_drew ?_)))
                            (case side2 => exact (Kd.S_reads' HO_5.out).2.1)
                            rintro e w55 ⟨rfl, hb⟩
                            refine ⟨_, rfl, ?_⟩
                            have n0_ := Aside0.mk (Kd.S_below (by (with_reducible repeat (first | apply Kd.S_alloc | apply Kd.S_drewN | apply Kd.S_drew)); exact HO_5.out) hb)
                            have n1_ := Aside0.mk (blk_below (g := gb381) (o := .cells #[.int .i64 t378, .int .i64 t379] 24 (0, 0)) (by (with_reducible repeat (first | refine blk_drewN ?_ _ | refine blk_drew ?_ | refine blk_alloc ?_ _)); exact BK381.out) hb)
                            have n2_ := Aside0.mk (blk_below (g := gb385) (o := .cells #[.int .i64 t382, .int .i64 t383] 24 (0, 0)) (by (with_reducible repeat (first | refine blk_drewN ?_ _ | refine blk_drew ?_ | refine blk_alloc ?_ _)); exact BK385.out) hb)
                            have n3_ := Aside0.mk (below_step (by repeat (first | (with_reducible first | exact HB.out | apply below_alloc | apply pw_below_drewN | apply below_drew1 | refine below_set ?_ GE381.out | refine below_set ?_ GE385.out) | exact HB.out)) hb)
                            clear HO_5
                            clear BK381
                            clear BK385
                            clear HB
                            have HO_5 := n0_
                            have BK381 := n1_
                            have BK385 := n2_
                            have HB := n3_
                            clear n0_ n1_ n2_ n3_
                            (try clear hb)
                            (try clear hb2)
                            (try clear hk)
                            (try clear hi)
                            refine hK.out _ _ ⟨(blk_cell BK381.out 0).trans rfl, (blk_cell BK381.out 1).trans rfl, ((HB.out.cell (World.block_lt_of_cell? w _ hw387_0)).trans hw387_0), ((HB.out.cell (World.block_lt_of_cell? w _ hw387_1)).trans hw387_1), ((HB.out.cell (World.block_lt_of_cell? w _ hw387_2)).trans hw387_2), ((HB.out.cell (World.block_lt_of_cell? w _ hw387_3)).trans hw387_3), ((HB.out.cell (World.block_lt_of_cell? w _ hw387_4)).trans hw387_4), ((HB.out.cell (World.block_lt_of_cell? w _ hw387_5)).trans hw387_5), ((HB.out.cell (World.block_lt_of_cell? w _ hw396_0)).trans hw396_0), ((HB.out.cell (World.block_lt_of_cell? w _ hw396_1)).trans hw396_1), ((HB.out.cell (World.block_lt_of_cell? w _ hw396_2)).trans hw396_2), ((HB.out.cell (World.block_lt_of_cell? w _ hw396_3)).trans hw396_3), ((HB.out.cell (World.block_lt_of_cell? w _ hw396_4)).trans hw396_4), ((HB.out.cell (World.block_lt_of_cell? w _ hw396_5)).trans hw396_5)⟩ (fun hHeld => ?_)
                            clear hK K
                            refine norm_ (a' := ?_) ?_ ?_
                            rotate_left
                            · show Act.put _ (some 57) _ = _
                              simp only [Act.put, List.setIfInBounds_toArray, List.set_cons_zero, List.set_cons_succ, i64_w, i32_w]
                              rfl
                            refine one_ (i := 7) (N := some 63) #[true, true, true, true, true, true, true, true, false, false, false, false, false, false, false, false, false, false, false, false, false, false, false, false, false, false, false, false, false, false, false, false, false, false, false, false, false] rfl rfl (one_of HT_.out (by kernel_rfl)) (by decide) (fun K hK => ?_)
                            refine goes_ Try.func22 (by kernel_rfl) rfl #[.int .i64 ((rd_T44 l0 a1).f2)] (by rfl) rfl rfl (by (try simp only [List.map_toArray, List.map_cons, List.map_nil]); first | done | rfl | (simp only [List.length_drop, List.length_take]; rfl)) ?_
                            with_reducible refine (duetref12_Sign.calls k2 ((rd_T44 l0 a1).f2) t388 _ A36.out).mono ?_
                            rintro e w56 ⟨rfl, hb⟩
                            refine ⟨_, rfl, ?_⟩
                            have n0_ := Aside0.mk (Kd.S_below (by (with_reducible repeat (first | apply Kd.S_alloc | apply Kd.S_drewN | apply Kd.S_drew)); exact HO_5.out) hb)
                            have n1_ := Aside0.mk (blk_below (g := gb381) (o := .cells #[.int .i64 t378, .int .i64 t379] 24 (0, 0)) (by (with_reducible repeat (first | refine blk_drewN ?_ _ | refine blk_drew ?_ | refine blk_alloc ?_ _)); exact BK381.out) hb)
                            have n2_ := Aside0.mk (blk_below (g := gb385) (o := .cells #[.int .i64 t382, .int .i64 t383] 24 (0, 0)) (by (with_reducible repeat (first | refine blk_drewN ?_ _ | refine blk_drew ?_ | refine blk_alloc ?_ _)); exact BK385.out) hb)
                            have n3_ := Aside0.mk (below_step (by repeat (first | (with_reducible first | exact HB.out | apply below_alloc | apply pw_below_drewN | apply below_drew1 | refine below_set ?_ GE381.out | refine below_set ?_ GE385.out) | exact HB.out)) hb)
                            clear HO_5
                            clear BK381
                            clear BK385
                            clear HB
                            have HO_5 := n0_
                            have BK381 := n1_
                            have BK385 := n2_
                            have HB := n3_
                            clear n0_ n1_ n2_ n3_
                            (try clear hb)
                            (try clear hb2)
                            (try clear hk)
                            (try clear hi)
                            refine hK.out _ _ ⟨(blk_cell BK381.out 0).trans rfl, (blk_cell BK381.out 1).trans rfl, ((HB.out.cell (World.block_lt_of_cell? w _ hw387_0)).trans hw387_0), ((HB.out.cell (World.block_lt_of_cell? w _ hw387_1)).trans hw387_1), ((HB.out.cell (World.block_lt_of_cell? w _ hw387_2)).trans hw387_2), ((HB.out.cell (World.block_lt_of_cell? w _ hw387_3)).trans hw387_3), ((HB.out.cell (World.block_lt_of_cell? w _ hw387_4)).trans hw387_4), ((HB.out.cell (World.block_lt_of_cell? w _ hw387_5)).trans hw387_5), ((HB.out.cell (World.block_lt_of_cell? w _ hw396_0)).trans hw396_0), ((HB.out.cell (World.block_lt_of_cell? w _ hw396_1)).trans hw396_1), ((HB.out.cell (World.block_lt_of_cell? w _ hw396_2)).trans hw396_2), ((HB.out.cell (World.block_lt_of_cell? w _ hw396_3)).trans hw396_3), ((HB.out.cell (World.block_lt_of_cell? w _ hw396_4)).trans hw396_4), ((HB.out.cell (World.block_lt_of_cell? w _ hw396_5)).trans hw396_5)⟩ (fun hHeld => ?_)
                            clear hK K
                            refine norm_ (a' := ?_) ?_ ?_
                            rotate_left
                            · show Act.put _ (some 63) _ = _
                              simp only [Act.put, List.setIfInBounds_toArray, List.set_cons_zero, List.set_cons_succ, i64_w, i32_w]
                              rfl
                            refine pure_ (i := 8) (N := some 64) (v := ?_) (a' := ?_) #[true, true, true, true, true, true, true, true, true, false, false, false, false, false, false, false, false, false, false, false, false, false, false, false, false, false, false, false, false, false, false, false, false, false, false, false, false] rfl rfl (any_of HT_.out (by kernel_rfl)) (fun _ _ _ h => h) (Or.inl ⟨by rfl, ?_⟩) ?_ ?_
                            rotate_left
                            · intro w'
                              go_simp
                              with_reducible rfl
                            rotate_left
                            · simp only [Act.put, List.setIfInBounds_toArray, List.set_cons_zero, List.set_cons_succ, i64_w, i32_w]
                              rfl
                            refine pure_ (i := 9) (N := some 65) (v := ?_) (a' := ?_) #[true, true, true, true, true, true, true, true, true, true, false, false, false, false, false, false, false, false, false, false, false, false, false, false, false, false, false, false, false, false, false, false, false, false, false, false, false] rfl rfl (any_of HT_.out (by kernel_rfl)) (fun _ _ _ h => h) (Or.inl ⟨by rfl, ?_⟩) ?_ ?_
                            rotate_left
                            · intro w'
                              go_simp
                              with_reducible rfl
                            rotate_left
                            · simp only [Act.put, List.setIfInBounds_toArray, List.set_cons_zero, List.set_cons_succ, i64_w, i32_w]
                              rfl
                            refine pure_ (i := 10) (N := some 66) (v := ?_) (a' := ?_) #[true, true, true, true, true, true, true, true, true, true, true, false, false, false, false, false, false, false, false, false, false, false, false, false, false, false, false, false, false, false, false, false, false, false, false, false, false] rfl rfl (any_of HT_.out (by kernel_rfl)) (fun _ _ _ h => h) (Or.inl ⟨by rfl, ?_⟩) ?_ ?_
                            rotate_left
                            · intro w'
                              go_simp
                              with_reducible rfl
                            rotate_left
                            · simp only [Act.put, List.setIfInBounds_toArray, List.set_cons_zero, List.set_cons_succ, i64_w, i32_w]
                              rfl
                            refine pure_ (i := 12) (N := some 68) (v := ?_) (a' := ?_) #[true, true, true, true, true, true, true, true, true, true, true, false, true, false, false, false, false, false, false, false, false, false, false, false, false, false, false, false, false, false, false, false, false, false, false, false, false] rfl rfl (any_of HT_.out (by kernel_rfl)) (fun _ _ _ h => h) (Or.inl ⟨by rfl, ?_⟩) ?_ ?_
                            rotate_left
                            · intro w'
                              go_simp
                              with_reducible rfl
                            rotate_left
                            · simp only [Act.put, List.setIfInBounds_toArray, List.set_cons_zero, List.set_cons_succ, i64_w, i32_w]
                              rfl
                            refine join_ (σ := Value × Value) 23 #[true, true, true, true, true, true, true, true, true, true, true, true, true, true, false, false, false, false, false, false, false, false, false, false, false, false, false, false, false, false, false, false, false, false, false, false, false] (fun s_ => [(67, s_.1), (69, s_.2)]) (fun s_ w' => (w'.cell? ⟨gb381, 0, none⟩ = some (.int .i64 t378) ∧ w'.cell? ⟨gb381, 1, none⟩ = some (.int .i64 t379) ∧ w'.cell? (ad387.add ((a1).toNat * 6)) = some (.int .i64 ((rd_T44 l0 a1).f0.f0)) ∧ w'.cell? ⟨(ad387.add ((a1).toNat * 6)).block, (ad387.add ((a1).toNat * 6)).off + 1, none⟩ = some (.int .i64 ((rd_T44 l0 a1).f0.f1)) ∧ w'.cell? ⟨(ad387.add ((a1).toNat * 6)).block, (ad387.add ((a1).toNat * 6)).off + 2, none⟩ = some (.int .i64 ((rd_T44 l0 a1).f1.f0)) ∧ w'.cell? ⟨(ad387.add ((a1).toNat * 6)).block, (ad387.add ((a1).toNat * 6)).off + 3, none⟩ = some (.int .i64 ((rd_T44 l0 a1).f1.f1)) ∧ w'.cell? ⟨(ad387.add ((a1).toNat * 6)).block, (ad387.add ((a1).toNat * 6)).off + 4, none⟩ = some (.int .i64 ((rd_T44 l0 a1).f2)) ∧ w'.cell? ⟨(ad387.add ((a1).toNat * 6)).block, (ad387.add ((a1).toNat * 6)).off + 5, none⟩ = some (.slice A387_5 ((rd_T44 l0 a1).f3).length c387_5) ∧ w'.cell? (ad387.add ((a1).toNat * 6)) = some (.int .i64 ((rd_T44 l0 a1).f0.f0)) ∧ w'.cell? ⟨(ad387.add ((a1).toNat * 6)).block, (ad387.add ((a1).toNat * 6)).off + 1, none⟩ = some (.int .i64 ((rd_T44 l0 a1).f0.f1)) ∧ w'.cell? ⟨(ad387.add ((a1).toNat * 6)).block, (ad387.add ((a1).toNat * 6)).off + 2, none⟩ = some (.int .i64 ((rd_T44 l0 a1).f1.f0)) ∧ w'.cell? ⟨(ad387.add ((a1).toNat * 6)).block, (ad387.add ((a1).toNat * 6)).off + 3, none⟩ = some (.int .i64 ((rd_T44 l0 a1).f1.f1)) ∧ w'.cell? ⟨(ad387.add ((a1).toNat * 6)).block, (ad387.add ((a1).toNat * 6)).off + 4, none⟩ = some (.int .i64 ((rd_T44 l0 a1).f2)) ∧ w'.cell? ⟨(ad387.add ((a1).toNat * 6)).block, (ad387.add ((a1).toNat * 6)).off + 5, none⟩ = some (.slice A396_5 ((rd_T44 l0 a1).f3).length c396_5)) ∧ (Kd.R (Kd.int .i64) 3 w' w.heap.size (fun k_ => some k_ ≠ (s_.2 : Value).ownBlock) s_.1 t389) ∧ (Kd.R (Kd.int .i64) 3 w' w.heap.size (fun k_ => some k_ ≠ (s_.1 : Value).ownBlock) s_.2 y392) ∧ (Kd.S k44 44 w' w.heap.size (fun k_ => some k_ ≠ (s_.1 : Value).ownBlock ∧ some k_ ≠ (s_.2 : Value).ownBlock) (.slice Ao45 x5_2.length co45) x5_2) ∧ (w'.heap[gb381]? = some (.cells #[.int .i64 t378, .int .i64 t379] 24 (0, 0))) ∧ (w'.heap[gb385]? = some (.cells #[.int .i64 t382, .int .i64 t383] 24 (0, 0))) ∧ (Below w.heap.size w w')) ?_ ?_
                            rotate_left
                            · intro hCont
                              refine two_ (i := 11) (j := 13) (Ni := some 67) (Nj := some 69) #[true, true, true, true, true, true, true, true, true, true, true, true, true, false, false, false, false, false, false, false, false, false, false, false, false, false, false, false, false, false, false, false, false, false, false, false, false] #[true, true, true, true, true, true, true, true, true, true, true, false, true, true, false, false, false, false, false, false, false, false, false, false, false, false, false, false, false, false, false, false, false, false, false, false, false] rfl rfl rfl rfl (two_of HT_.out (by kernel_rfl)) (by decide) (by decide) (fun K hK => ?_) (fun K hK => ?_)
                              · skip
                                refine goes_ Try.func17 (by kernel_rfl) rfl #[.slice Ao45 x5_2.length co45] (by rfl) rfl rfl (by (try simp only [List.map_toArray, List.map_cons, List.map_nil]); first | done | rfl | (simp only [List.length_drop, List.length_take]; rfl)) ?_
                                with_reducible refine (view_Seen.calls _ _ x5_2 t389 _ ?side1 ?side2 A38.out).mono ?_
                                (case side1 => repeat (first | exact (Kd.S_reads' HO_5.out).2.2 | (with_reducible refine Kd.C_alloc ?_ _) | (with_reducible refine Kd.C_drewN ?_ _) | (with_reducible refine Kd.C_drew ?_)))
                                (case side2 => exact (Kd.S_reads' HO_5.out).2.1)
                                rintro e w57 ⟨v390, rfl, ho0, hb⟩
                                refine ⟨_, rfl, ?_⟩
                                have n0_ := Aside0.mk (Kd.S_elder' (by (with_reducible repeat (first | apply Kd.S_alloc | apply Kd.S_drewN | apply Kd.S_drew)); exact HO_5.out) (Kd.R_base ho0) hb)
                                have n1_ := Aside0.mk (Kd.R_lower ho0 (below_size (by repeat (first | (with_reducible first | exact HB.out | apply below_alloc | apply pw_below_drewN | apply below_drew1 | refine below_set ?_ GE381.out | refine below_set ?_ GE385.out) | exact HB.out))))
                                have n2_ := Aside0.mk (blk_below (g := gb381) (o := .cells #[.int .i64 t378, .int .i64 t379] 24 (0, 0)) (by (with_reducible repeat (first | refine blk_drewN ?_ _ | refine blk_drew ?_ | refine blk_alloc ?_ _)); exact BK381.out) hb)
                                have n3_ := Aside0.mk (blk_below (g := gb385) (o := .cells #[.int .i64 t382, .int .i64 t383] 24 (0, 0)) (by (with_reducible repeat (first | refine blk_drewN ?_ _ | refine blk_drew ?_ | refine blk_alloc ?_ _)); exact BK385.out) hb)
                                have n4_ := Aside0.mk (below_step (by repeat (first | (with_reducible first | exact HB.out | apply below_alloc | apply pw_below_drewN | apply below_drew1 | refine below_set ?_ GE381.out | refine below_set ?_ GE385.out) | exact HB.out)) hb)
                                clear HO_5
                                clear BK381
                                clear BK385
                                clear HB
                                have HO_5 := n0_
                                have HO391 := n1_
                                have BK381 := n2_
                                have BK385 := n3_
                                have HB := n4_
                                clear n0_ n1_ n2_ n3_ n4_
                                (try clear hb)
                                (try clear hb2)
                                (try clear hk)
                                (try clear hi)
                                (try clear ho0)
                                refine hK.out _ _ ⟨(blk_cell BK381.out 0).trans rfl, (blk_cell BK381.out 1).trans rfl, ((HB.out.cell (World.block_lt_of_cell? w _ hw387_0)).trans hw387_0), ((HB.out.cell (World.block_lt_of_cell? w _ hw387_1)).trans hw387_1), ((HB.out.cell (World.block_lt_of_cell? w _ hw387_2)).trans hw387_2), ((HB.out.cell (World.block_lt_of_cell? w _ hw387_3)).trans hw387_3), ((HB.out.cell (World.block_lt_of_cell? w _ hw387_4)).trans hw387_4), ((HB.out.cell (World.block_lt_of_cell? w _ hw387_5)).trans hw387_5), ((HB.out.cell (World.block_lt_of_cell? w _ hw396_0)).trans hw396_0), ((HB.out.cell (World.block_lt_of_cell? w _ hw396_1)).trans hw396_1), ((HB.out.cell (World.block_lt_of_cell? w _ hw396_2)).trans hw396_2), ((HB.out.cell (World.block_lt_of_cell? w _ hw396_3)).trans hw396_3), ((HB.out.cell (World.block_lt_of_cell? w _ hw396_4)).trans hw396_4), ((HB.out.cell (World.block_lt_of_cell? w _ hw396_5)).trans hw396_5)⟩ (fun hHeld => ?_)
                                clear hK K
                                refine norm_ (a' := ?_) ?_ ?_
                                rotate_left
                                · show Act.put _ (some 67) _ = _
                                  simp only [Act.put, List.setIfInBounds_toArray, List.set_cons_zero, List.set_cons_succ, i64_w, i32_w]
                                  rfl
                                refine one_ (i := 13) (N := some 69) #[true, true, true, true, true, true, true, true, true, true, true, true, true, true, false, false, false, false, false, false, false, false, false, false, false, false, false, false, false, false, false, false, false, false, false, false, false] rfl rfl (one_of HT_.out (by kernel_rfl)) (by decide) (fun K hK => ?_)
                                refine Kd.R_lit_step (Kd.int .i64) _ 3 ?hg (N := 69) ?hd (xs := ([a1] : List Int)) (inner := [.int .i64 a1]) (ok := fun _ => True) (okp := fun _ => True) ?hr ?hp (fun _ hk => hk) trivial (Below.refl _ _) (Nat.le_refl _) (by simp) ?_; (case hd => rfl); (case hg => rfl); (case hr => first | (go_simp; done) | (go_simp; rfl)); (case hp => exact (Reps.one (show Kd.M (Kd.int .i64) _ _ _ a1 [.int .i64 a1] from rfl) (Reps.none _ _)))
                                intro v393 w58 ho59 hb hg_ hnew_
                                clear hg_ hnew_
                                (first | rw [← Ny392.out] at ho59 | (simp only [Int.reduceToNat] at ho59; rw [← Ny392.out] at ho59))
                                have n0_ := Aside0.mk (Kd.S_elder' (by (with_reducible repeat (first | apply Kd.S_alloc | apply Kd.S_drewN | apply Kd.S_drew)); exact HO_5.out) (Kd.R_base ho59) hb)
                                have n1_ := Aside0.mk (Kd.R_elder' (by (with_reducible repeat (first | apply Kd.R_alloc | apply Kd.R_drewN | apply Kd.R_drew)); exact HO391.out) (Kd.R_base ho59) hb)
                                have n2_ := Aside0.mk (Kd.R_lower (Kd.R_new' ho59 (Kd.R_lt (by (with_reducible repeat (first | apply Kd.R_alloc | apply Kd.R_drewN | apply Kd.R_drew)); exact HO391.out))) (below_size (by repeat (first | (with_reducible first | exact HB.out | apply below_alloc | apply pw_below_drewN | apply below_drew1 | refine below_set ?_ GE381.out | refine below_set ?_ GE385.out) | exact HB.out))))
                                have n3_ := Aside0.mk (blk_below (g := gb381) (o := .cells #[.int .i64 t378, .int .i64 t379] 24 (0, 0)) (by (with_reducible repeat (first | refine blk_drewN ?_ _ | refine blk_drew ?_ | refine blk_alloc ?_ _)); exact BK381.out) hb)
                                have n4_ := Aside0.mk (blk_below (g := gb385) (o := .cells #[.int .i64 t382, .int .i64 t383] 24 (0, 0)) (by (with_reducible repeat (first | refine blk_drewN ?_ _ | refine blk_drew ?_ | refine blk_alloc ?_ _)); exact BK385.out) hb)
                                have n5_ := Aside0.mk (below_step (by repeat (first | (with_reducible first | exact HB.out | apply below_alloc | apply pw_below_drewN | apply below_drew1 | refine below_set ?_ GE381.out | refine below_set ?_ GE385.out) | exact HB.out)) hb)
                                clear HO_5
                                clear HO391
                                clear BK381
                                clear BK385
                                clear HB
                                have HO_5 := n0_
                                have HO391 := n1_
                                have HO394 := n2_
                                have BK381 := n3_
                                have BK385 := n4_
                                have HB := n5_
                                clear n0_ n1_ n2_ n3_ n4_ n5_
                                clear hb ho59
                                refine hK.out _ _ ⟨(blk_cell BK381.out 0).trans rfl, (blk_cell BK381.out 1).trans rfl, ((HB.out.cell (World.block_lt_of_cell? w _ hw387_0)).trans hw387_0), ((HB.out.cell (World.block_lt_of_cell? w _ hw387_1)).trans hw387_1), ((HB.out.cell (World.block_lt_of_cell? w _ hw387_2)).trans hw387_2), ((HB.out.cell (World.block_lt_of_cell? w _ hw387_3)).trans hw387_3), ((HB.out.cell (World.block_lt_of_cell? w _ hw387_4)).trans hw387_4), ((HB.out.cell (World.block_lt_of_cell? w _ hw387_5)).trans hw387_5), ((HB.out.cell (World.block_lt_of_cell? w _ hw396_0)).trans hw396_0), ((HB.out.cell (World.block_lt_of_cell? w _ hw396_1)).trans hw396_1), ((HB.out.cell (World.block_lt_of_cell? w _ hw396_2)).trans hw396_2), ((HB.out.cell (World.block_lt_of_cell? w _ hw396_3)).trans hw396_3), ((HB.out.cell (World.block_lt_of_cell? w _ hw396_4)).trans hw396_4), ((HB.out.cell (World.block_lt_of_cell? w _ hw396_5)).trans hw396_5)⟩ (fun hHeld => ?_)
                                clear hK K
                                refine norm_ (a' := ?_) ?_ ?_
                                rotate_left
                                · show Act.put _ (some 69) _ = _
                                  simp only [Act.put, List.setIfInBounds_toArray, List.set_cons_zero, List.set_cons_succ, i64_w, i32_w]
                                  rfl
                                exact norm_ (by simp only [putAll, Act.put, List.setIfInBounds_toArray, List.set_cons_zero, List.set_cons_succ]) (hCont (v390, v393) _ ⟨hHeld, (by (with_reducible repeat (first | apply Kd.R_alloc | apply Kd.R_drewN | apply Kd.R_drew)); exact Kd.R_mono HO391.out (fun _ hk => hk.2)), (by (with_reducible repeat (first | apply Kd.R_alloc | apply Kd.R_drewN | apply Kd.R_drew)); exact Kd.R_mono HO394.out (fun _ hk => hk.2)), (by (with_reducible repeat (first | apply Kd.S_alloc | apply Kd.S_drewN | apply Kd.S_drew)); exact Kd.S_mono HO_5.out (fun _ hk => ⟨hk.1.2, hk.2⟩)), (by (with_reducible repeat (first | refine blk_drewN ?_ _ | refine blk_drew ?_ | refine blk_alloc ?_ _)); exact BK381.out), (by (with_reducible repeat (first | refine blk_drewN ?_ _ | refine blk_drew ?_ | refine blk_alloc ?_ _)); exact BK385.out), (by repeat (first | (with_reducible first | exact HB.out | apply below_alloc | apply pw_below_drewN | apply below_drew1 | refine below_set ?_ GE381.out | refine below_set ?_ GE385.out) | exact HB.out))⟩)
                              · skip
                                refine Kd.R_lit_step (Kd.int .i64) _ 3 ?hg (N := 69) ?hd (xs := ([a1] : List Int)) (inner := [.int .i64 a1]) (ok := fun _ => True) (okp := fun _ => True) ?hr ?hp (fun _ hk => hk) trivial (Below.refl _ _) (Nat.le_refl _) (by simp) ?_; (case hd => rfl); (case hg => rfl); (case hr => first | (go_simp; done) | (go_simp; rfl)); (case hp => exact (Reps.one (show Kd.M (Kd.int .i64) _ _ _ a1 [.int .i64 a1] from rfl) (Reps.none _ _)))
                                intro v393 w57 ho58 hb hg_ hnew_
                                clear hg_ hnew_
                                (first | rw [← Ny392.out] at ho58 | (simp only [Int.reduceToNat] at ho58; rw [← Ny392.out] at ho58))
                                have n0_ := Aside0.mk (Kd.S_elder' (by (with_reducible repeat (first | apply Kd.S_alloc | apply Kd.S_drewN | apply Kd.S_drew)); exact HO_5.out) (Kd.R_base ho58) hb)
                                have n1_ := Aside0.mk (Kd.R_lower ho58 (below_size (by repeat (first | (with_reducible first | exact HB.out | apply below_alloc | apply pw_below_drewN | apply below_drew1 | refine below_set ?_ GE381.out | refine below_set ?_ GE385.out) | exact HB.out))))
                                have n2_ := Aside0.mk (blk_below (g := gb381) (o := .cells #[.int .i64 t378, .int .i64 t379] 24 (0, 0)) (by (with_reducible repeat (first | refine blk_drewN ?_ _ | refine blk_drew ?_ | refine blk_alloc ?_ _)); exact BK381.out) hb)
                                have n3_ := Aside0.mk (blk_below (g := gb385) (o := .cells #[.int .i64 t382, .int .i64 t383] 24 (0, 0)) (by (with_reducible repeat (first | refine blk_drewN ?_ _ | refine blk_drew ?_ | refine blk_alloc ?_ _)); exact BK385.out) hb)
                                have n4_ := Aside0.mk (below_step (by repeat (first | (with_reducible first | exact HB.out | apply below_alloc | apply pw_below_drewN | apply below_drew1 | refine below_set ?_ GE381.out | refine below_set ?_ GE385.out) | exact HB.out)) hb)
                                clear HO_5
                                clear BK381
                                clear BK385
                                clear HB
                                have HO_5 := n0_
                                have HO394 := n1_
                                have BK381 := n2_
                                have BK385 := n3_
                                have HB := n4_
                                clear n0_ n1_ n2_ n3_ n4_
                                clear hb ho58
                                refine hK.out _ _ ⟨(blk_cell BK381.out 0).trans rfl, (blk_cell BK381.out 1).trans rfl, ((HB.out.cell (World.block_lt_of_cell? w _ hw387_0)).trans hw387_0), ((HB.out.cell (World.block_lt_of_cell? w _ hw387_1)).trans hw387_1), ((HB.out.cell (World.block_lt_of_cell? w _ hw387_2)).trans hw387_2), ((HB.out.cell (World.block_lt_of_cell? w _ hw387_3)).trans hw387_3), ((HB.out.cell (World.block_lt_of_cell? w _ hw387_4)).trans hw387_4), ((HB.out.cell (World.block_lt_of_cell? w _ hw387_5)).trans hw387_5), ((HB.out.cell (World.block_lt_of_cell? w _ hw396_0)).trans hw396_0), ((HB.out.cell (World.block_lt_of_cell? w _ hw396_1)).trans hw396_1), ((HB.out.cell (World.block_lt_of_cell? w _ hw396_2)).trans hw396_2), ((HB.out.cell (World.block_lt_of_cell? w _ hw396_3)).trans hw396_3), ((HB.out.cell (World.block_lt_of_cell? w _ hw396_4)).trans hw396_4), ((HB.out.cell (World.block_lt_of_cell? w _ hw396_5)).trans hw396_5)⟩ (fun hHeld => ?_)
                                clear hK K
                                refine norm_ (a' := ?_) ?_ ?_
                                rotate_left
                                · show Act.put _ (some 69) _ = _
                                  simp only [Act.put, List.setIfInBounds_toArray, List.set_cons_zero, List.set_cons_succ, i64_w, i32_w]
                                  rfl
                                refine one_ (i := 11) (N := some 67) #[true, true, true, true, true, true, true, true, true, true, true, true, true, true, false, false, false, false, false, false, false, false, false, false, false, false, false, false, false, false, false, false, false, false, false, false, false] rfl rfl (one_of HT_.out (by kernel_rfl)) (by decide) (fun K hK => ?_)
                                refine goes_ Try.func17 (by kernel_rfl) rfl #[.slice Ao45 x5_2.length co45] (by rfl) rfl rfl (by (try simp only [List.map_toArray, List.map_cons, List.map_nil]); first | done | rfl | (simp only [List.length_drop, List.length_take]; rfl)) ?_
                                with_reducible refine (view_Seen.calls _ _ x5_2 t389 _ ?side1 ?side2 A38.out).mono ?_
                                (case side1 => repeat (first | exact (Kd.S_reads' HO_5.out).2.2 | (with_reducible refine Kd.C_alloc ?_ _) | (with_reducible refine Kd.C_drewN ?_ _) | (with_reducible refine Kd.C_drew ?_)))
                                (case side2 => exact (Kd.S_reads' HO_5.out).2.1)
                                rintro e w59 ⟨v390, rfl, ho0, hb⟩
                                refine ⟨_, rfl, ?_⟩
                                have n0_ := Aside0.mk (Kd.S_elder' (by (with_reducible repeat (first | apply Kd.S_alloc | apply Kd.S_drewN | apply Kd.S_drew)); exact HO_5.out) (Kd.R_base ho0) hb)
                                have n1_ := Aside0.mk (Kd.R_elder' (by (with_reducible repeat (first | apply Kd.R_alloc | apply Kd.R_drewN | apply Kd.R_drew)); exact HO394.out) (Kd.R_base ho0) hb)
                                have n2_ := Aside0.mk (Kd.R_lower (Kd.R_new' ho0 (Kd.R_lt (by (with_reducible repeat (first | apply Kd.R_alloc | apply Kd.R_drewN | apply Kd.R_drew)); exact HO394.out))) (below_size (by repeat (first | (with_reducible first | exact HB.out | apply below_alloc | apply pw_below_drewN | apply below_drew1 | refine below_set ?_ GE381.out | refine below_set ?_ GE385.out) | exact HB.out))))
                                have n3_ := Aside0.mk (blk_below (g := gb381) (o := .cells #[.int .i64 t378, .int .i64 t379] 24 (0, 0)) (by (with_reducible repeat (first | refine blk_drewN ?_ _ | refine blk_drew ?_ | refine blk_alloc ?_ _)); exact BK381.out) hb)
                                have n4_ := Aside0.mk (blk_below (g := gb385) (o := .cells #[.int .i64 t382, .int .i64 t383] 24 (0, 0)) (by (with_reducible repeat (first | refine blk_drewN ?_ _ | refine blk_drew ?_ | refine blk_alloc ?_ _)); exact BK385.out) hb)
                                have n5_ := Aside0.mk (below_step (by repeat (first | (with_reducible first | exact HB.out | apply below_alloc | apply pw_below_drewN | apply below_drew1 | refine below_set ?_ GE381.out | refine below_set ?_ GE385.out) | exact HB.out)) hb)
                                clear HO_5
                                clear HO394
                                clear BK381
                                clear BK385
                                clear HB
                                have HO_5 := n0_
                                have HO394 := n1_
                                have HO391 := n2_
                                have BK381 := n3_
                                have BK385 := n4_
                                have HB := n5_
                                clear n0_ n1_ n2_ n3_ n4_ n5_
                                (try clear hb)
                                (try clear hb2)
                                (try clear hk)
                                (try clear hi)
                                (try clear ho0)
                                refine hK.out _ _ ⟨(blk_cell BK381.out 0).trans rfl, (blk_cell BK381.out 1).trans rfl, ((HB.out.cell (World.block_lt_of_cell? w _ hw387_0)).trans hw387_0), ((HB.out.cell (World.block_lt_of_cell? w _ hw387_1)).trans hw387_1), ((HB.out.cell (World.block_lt_of_cell? w _ hw387_2)).trans hw387_2), ((HB.out.cell (World.block_lt_of_cell? w _ hw387_3)).trans hw387_3), ((HB.out.cell (World.block_lt_of_cell? w _ hw387_4)).trans hw387_4), ((HB.out.cell (World.block_lt_of_cell? w _ hw387_5)).trans hw387_5), ((HB.out.cell (World.block_lt_of_cell? w _ hw396_0)).trans hw396_0), ((HB.out.cell (World.block_lt_of_cell? w _ hw396_1)).trans hw396_1), ((HB.out.cell (World.block_lt_of_cell? w _ hw396_2)).trans hw396_2), ((HB.out.cell (World.block_lt_of_cell? w _ hw396_3)).trans hw396_3), ((HB.out.cell (World.block_lt_of_cell? w _ hw396_4)).trans hw396_4), ((HB.out.cell (World.block_lt_of_cell? w _ hw396_5)).trans hw396_5)⟩ (fun hHeld => ?_)
                                clear hK K
                                refine norm_ (a' := ?_) ?_ ?_
                                rotate_left
                                · show Act.put _ (some 67) _ = _
                                  simp only [Act.put, List.setIfInBounds_toArray, List.set_cons_zero, List.set_cons_succ, i64_w, i32_w]
                                  rfl
                                exact norm_ (by simp only [putAll, Act.put, List.setIfInBounds_toArray, List.set_cons_zero, List.set_cons_succ]) (hCont (v390, v393) _ ⟨hHeld, (by (with_reducible repeat (first | apply Kd.R_alloc | apply Kd.R_drewN | apply Kd.R_drew)); exact Kd.R_mono HO391.out (fun _ hk => hk.2)), (by (with_reducible repeat (first | apply Kd.R_alloc | apply Kd.R_drewN | apply Kd.R_drew)); exact Kd.R_mono HO394.out (fun _ hk => hk.2)), (by (with_reducible repeat (first | apply Kd.S_alloc | apply Kd.S_drewN | apply Kd.S_drew)); exact Kd.S_mono HO_5.out (fun _ hk => ⟨hk.2, hk.1.2⟩)), (by (with_reducible repeat (first | refine blk_drewN ?_ _ | refine blk_drew ?_ | refine blk_alloc ?_ _)); exact BK381.out), (by (with_reducible repeat (first | refine blk_drewN ?_ _ | refine blk_drew ?_ | refine blk_alloc ?_ _)); exact BK385.out), (by repeat (first | (with_reducible first | exact HB.out | apply below_alloc | apply pw_below_drewN | apply below_drew1 | refine below_set ?_ GE381.out | refine below_set ?_ GE385.out) | exact HB.out))⟩)
                            rintro ⟨v390, v393⟩ w60 ⟨hS_, h0_, h1_, h2_, h3_, h4_, h5_⟩
                            have n0_ : Aside0 (Kd.R (Kd.int .i64) 3 w60 w.heap.size (fun k_ => some k_ ≠ (v393 : Value).ownBlock) v390 t389) := ⟨h0_⟩
                            have n1_ : Aside0 (Kd.R (Kd.int .i64) 3 w60 w.heap.size (fun k_ => some k_ ≠ (v390 : Value).ownBlock) v393 y392) := ⟨h1_⟩
                            have n2_ : Aside0 (Kd.S k44 44 w60 w.heap.size (fun k_ => some k_ ≠ (v390 : Value).ownBlock ∧ some k_ ≠ (v393 : Value).ownBlock) (.slice Ao45 x5_2.length co45) x5_2) := ⟨h2_⟩
                            have n3_ : Aside0 (w60.heap[gb381]? = some (.cells #[.int .i64 t378, .int .i64 t379] 24 (0, 0))) := ⟨h3_⟩
                            have n4_ : Aside0 (w60.heap[gb385]? = some (.cells #[.int .i64 t382, .int .i64 t383] 24 (0, 0))) := ⟨h4_⟩
                            have n5_ : Aside0 (Below w.heap.size w w60) := ⟨h5_⟩
                            clear HO_5
                            clear BK381
                            clear BK385
                            clear HB
                            clear h0_ h1_ h2_ h3_ h4_ h5_
                            have HO391 := n0_
                            have HO394 := n1_
                            have HO_5 := n2_
                            have BK381 := n3_
                            have BK385 := n4_
                            have HB := n5_
                            clear n0_ n1_ n2_ n3_ n4_ n5_
                            have hHeld : w60.cell? ⟨gb381, 0, none⟩ = some (.int .i64 t378) ∧ w60.cell? ⟨gb381, 1, none⟩ = some (.int .i64 t379) ∧ w60.cell? (ad387.add ((a1).toNat * 6)) = some (.int .i64 ((rd_T44 l0 a1).f0.f0)) ∧ w60.cell? ⟨(ad387.add ((a1).toNat * 6)).block, (ad387.add ((a1).toNat * 6)).off + 1, none⟩ = some (.int .i64 ((rd_T44 l0 a1).f0.f1)) ∧ w60.cell? ⟨(ad387.add ((a1).toNat * 6)).block, (ad387.add ((a1).toNat * 6)).off + 2, none⟩ = some (.int .i64 ((rd_T44 l0 a1).f1.f0)) ∧ w60.cell? ⟨(ad387.add ((a1).toNat * 6)).block, (ad387.add ((a1).toNat * 6)).off + 3, none⟩ = some (.int .i64 ((rd_T44 l0 a1).f1.f1)) ∧ w60.cell? ⟨(ad387.add ((a1).toNat * 6)).block, (ad387.add ((a1).toNat * 6)).off + 4, none⟩ = some (.int .i64 ((rd_T44 l0 a1).f2)) ∧ w60.cell? ⟨(ad387.add ((a1).toNat * 6)).block, (ad387.add ((a1).toNat * 6)).off + 5, none⟩ = some (.slice A387_5 ((rd_T44 l0 a1).f3).length c387_5) ∧ w60.cell? (ad387.add ((a1).toNat * 6)) = some (.int .i64 ((rd_T44 l0 a1).f0.f0)) ∧ w60.cell? ⟨(ad387.add ((a1).toNat * 6)).block, (ad387.add ((a1).toNat * 6)).off + 1, none⟩ = some (.int .i64 ((rd_T44 l0 a1).f0.f1)) ∧ w60.cell? ⟨(ad387.add ((a1).toNat * 6)).block, (ad387.add ((a1).toNat * 6)).off + 2, none⟩ = some (.int .i64 ((rd_T44 l0 a1).f1.f0)) ∧ w60.cell? ⟨(ad387.add ((a1).toNat * 6)).block, (ad387.add ((a1).toNat * 6)).off + 3, none⟩ = some (.int .i64 ((rd_T44 l0 a1).f1.f1)) ∧ w60.cell? ⟨(ad387.add ((a1).toNat * 6)).block, (ad387.add ((a1).toNat * 6)).off + 4, none⟩ = some (.int .i64 ((rd_T44 l0 a1).f2)) ∧ w60.cell? ⟨(ad387.add ((a1).toNat * 6)).block, (ad387.add ((a1).toNat * 6)).off + 5, none⟩ = some (.slice A396_5 ((rd_T44 l0 a1).f3).length c396_5) := hS_
                            obtain ⟨Ao61, co61, eo61⟩ := Kd.R_slice HO391.out
                            (first | subst eo61 | (injection eo61 with f1_ f2_ f3_; have f4_ := f1_.symm; have f5_ := f3_.symm; clear f1_ f2_ f3_; subst f4_; subst f5_))
                            obtain ⟨Ao62, co62, eo62⟩ := Kd.R_slice HO394.out
                            (first | subst eo62 | (injection eo62 with f1_ f2_ f3_; have f4_ := f1_.symm; have f5_ := f3_.symm; clear f1_ f2_ f3_; subst f4_; subst f5_))
                            refine norm_ (a' := ?_) ?_ ?_
                            rotate_left
                            · simp only [putAll, Act.put, List.setIfInBounds_toArray, List.set_cons_zero, List.set_cons_succ]
                              rfl
                            refine one_ (i := 14) (N := some 70) #[true, true, true, true, true, true, true, true, true, true, true, true, true, true, true, false, false, false, false, false, false, false, false, false, false, false, false, false, false, false, false, false, false, false, false, false, false] rfl rfl (one_of HT_.out (by kernel_rfl)) (by decide) (fun K hK => ?_)
                            refine goes_ Try.func16 (by kernel_rfl) rfl #[.slice Ao61 t389.length co61, .slice Ao62 y392.length co62] (by rfl) rfl rfl (by (try simp only [List.map_toArray, List.map_cons, List.map_nil]); first | done | rfl | (simp only [List.length_drop, List.length_take]; rfl)) ?_
                            with_reducible refine (duetref01_Same.calls k2 _ _ t389 _ _ y392 true _ ?side1 ?side2 ?side3 ?side4 A39.out).mono ?_
                            (case side1 => repeat (first | exact (Kd.R_reads' HO391.out).2.2 | (with_reducible refine Kd.C_alloc ?_ _) | (with_reducible refine Kd.C_drewN ?_ _) | (with_reducible refine Kd.C_drew ?_)))
                            (case side2 => exact (Kd.R_reads' HO391.out).2.1)
                            (case side3 => repeat (first | exact (Kd.R_reads' HO394.out).2.2 | (with_reducible refine Kd.C_alloc ?_ _) | (with_reducible refine Kd.C_drewN ?_ _) | (with_reducible refine Kd.C_drew ?_)))
                            (case side4 => exact (Kd.R_reads' HO394.out).2.1)
                            rintro e w' ⟨rfl, ⟨nd, rfl⟩⟩
                            refine ⟨_, rfl, ?_⟩
                            refine hK.out _ _ ⟨(blk_cell BK381.out 0).trans rfl, (blk_cell BK381.out 1).trans rfl, ((HB.out.cell (World.block_lt_of_cell? w _ hw387_0)).trans hw387_0), ((HB.out.cell (World.block_lt_of_cell? w _ hw387_1)).trans hw387_1), ((HB.out.cell (World.block_lt_of_cell? w _ hw387_2)).trans hw387_2), ((HB.out.cell (World.block_lt_of_cell? w _ hw387_3)).trans hw387_3), ((HB.out.cell (World.block_lt_of_cell? w _ hw387_4)).trans hw387_4), ((HB.out.cell (World.block_lt_of_cell? w _ hw387_5)).trans hw387_5), ((HB.out.cell (World.block_lt_of_cell? w _ hw396_0)).trans hw396_0), ((HB.out.cell (World.block_lt_of_cell? w _ hw396_1)).trans hw396_1), ((HB.out.cell (World.block_lt_of_cell? w _ hw396_2)).trans hw396_2), ((HB.out.cell (World.block_lt_of_cell? w _ hw396_3)).trans hw396_3), ((HB.out.cell (World.block_lt_of_cell? w _ hw396_4)).trans hw396_4), ((HB.out.cell (World.block_lt_of_cell? w _ hw396_5)).trans hw396_5)⟩ (fun hHeld => ?_)
                            clear hK K
                            refine norm_ (a' := ?_) ?_ ?_
                            rotate_left
                            · show Act.put _ (some 70) _ = _
                              simp only [Act.put, List.setIfInBounds_toArray, List.set_cons_zero, List.set_cons_succ, i64_w, i32_w]
                              rfl
                            refine pure_ (i := 15) (N := some 71) (v := ?_) (a' := ?_) #[true, true, true, true, true, true, true, true, true, true, true, true, true, true, true, true, false, false, false, false, false, false, false, false, false, false, false, false, false, false, false, false, false, false, false, false, false] rfl rfl (any_of HT_.out (by kernel_rfl)) (fun _ _ _ h => h) (Or.inl ⟨by rfl, ?_⟩) ?_ ?_
                            rotate_left
                            · intro w'
                              go_simp
                              with_reducible rfl
                            rotate_left
                            · simp only [Act.put, List.setIfInBounds_toArray, List.set_cons_zero, List.set_cons_succ, i64_w, i32_w]
                              rfl
                            refine pure_ (i := 16) (N := some 72) (v := ?_) (a' := ?_) #[true, true, true, true, true, true, true, true, true, true, true, true, true, true, true, true, true, false, false, false, false, false, false, false, false, false, false, false, false, false, false, false, false, false, false, false, false] rfl rfl (any_of HT_.out (by kernel_rfl)) (fun _ _ _ h => h) (Or.inl ⟨by rfl, ?_⟩) ?_ ?_
                            rotate_left
                            · intro w'
                              go_simp
                              with_reducible rfl
                            rotate_left
                            · simp only [Act.put, List.setIfInBounds_toArray, List.set_cons_zero, List.set_cons_succ, i64_w, i32_w]
                              rfl
                            refine pure_ (i := 18) (N := some 74) (v := ?_) (a' := ?_) #[true, true, true, true, true, true, true, true, true, true, true, true, true, true, true, true, true, false, true, false, false, false, false, false, false, false, false, false, false, false, false, false, false, false, false, false, false] rfl rfl (any_of HT_.out (by kernel_rfl)) (fun _ _ _ h => h) (Or.inl ⟨by rfl, ?_⟩) ?_ ?_
                            rotate_left
                            · intro w'
                              go_simp
                              with_reducible rfl
                            rotate_left
                            · simp only [Act.put, List.setIfInBounds_toArray, List.set_cons_zero, List.set_cons_succ, i64_w, i32_w]
                              rfl
                            refine pure_ (i := 19) (N := some 75) (v := ?_) (a' := ?_) #[true, true, true, true, true, true, true, true, true, true, true, true, true, true, true, true, true, false, true, true, false, false, false, false, false, false, false, false, false, false, false, false, false, false, false, false, false] rfl rfl (any_of HT_.out (by kernel_rfl)) (fun _ _ _ h => h) (Or.inl ⟨by rfl, ?_⟩) ?_ ?_
                            rotate_left
                            · intro w'
                              go_simp
                              with_reducible rfl
                            rotate_left
                            · simp only [Act.put, List.setIfInBounds_toArray, List.set_cons_zero, List.set_cons_succ, i64_w, i32_w]
                              rfl
                            refine pure_ (i := 20) (N := some 76) (v := ?_) (a' := ?_) #[true, true, true, true, true, true, true, true, true, true, true, true, true, true, true, true, true, false, true, true, true, false, false, false, false, false, false, false, false, false, false, false, false, false, false, false, false] rfl rfl (any_of HT_.out (by kernel_rfl)) (fun _ _ _ h => h) (Or.inl ⟨by rfl, ?_⟩) ?_ ?_
                            rotate_left
                            · intro w'
                              go_simp
                              with_reducible rfl
                            rotate_left
                            · simp only [Act.put, List.setIfInBounds_toArray, List.set_cons_zero, List.set_cons_succ, i64_w, i32_w]
                              rfl
                            refine pure_ (i := 21) (N := some 77) (v := ?_) (a' := ?_) #[true, true, true, true, true, true, true, true, true, true, true, true, true, true, true, true, true, false, true, true, true, true, false, false, false, false, false, false, false, false, false, false, false, false, false, false, false] rfl rfl (any_of HT_.out (by kernel_rfl)) (fun _ _ _ h => h) (Or.inl ⟨by rfl, ?_⟩) ?_ ?_
                            rotate_left
                            · intro w'
                              go_simp
                              with_reducible rfl
                            rotate_left
                            · simp only [Act.put, List.setIfInBounds_toArray, List.set_cons_zero, List.set_cons_succ, i64_w, i32_w]
                              rfl
                            refine take_ (i := 17) (N := some 73) (v := ?_) (a' := ?_) #[true, true, true, true, true, true, true, true, true, true, true, true, true, true, true, true, true, true, true, true, true, true, false, false, false, false, false, false, false, false, false, false, false, false, false, false, false] rfl rfl (take_ofW HT_.out HW_.out (by kernel_rfl)) (fun _ _ _ h => h) (Or.inl ⟨by rfl, ?_⟩) hHeld ?_ ?_
                            rotate_left
                            · rintro w' ⟨s0, s1, s2, s3, s4, s5, s6, s7, s8, s9, s10, s11, s12, s13⟩
                              go_simp
                              with_reducible rfl
                            rotate_left
                            · simp only [Act.put, List.setIfInBounds_toArray, List.set_cons_zero, List.set_cons_succ, i64_w, i32_w]
                              rfl
                            refine take_ (i := 22) (N := some 78) (v := ?_) (a' := ?_) #[true, true, true, true, true, true, true, true, true, true, true, true, true, true, true, true, true, true, true, true, true, true, true, false, false, false, false, false, false, false, false, false, false, false, false, false, false] rfl rfl (take_ofW HT_.out HW_.out (by kernel_rfl)) (fun _ _ _ h => h) (Or.inl ⟨by rfl, ?_⟩) hHeld ?_ ?_
                            rotate_left
                            · rintro w' ⟨s0, s1, s2, s3, s4, s5, s6, s7, s8, s9, s10, s11, s12, s13⟩
                              go_simp
                              with_reducible rfl
                            rotate_left
                            · simp only [Act.put, List.setIfInBounds_toArray, List.set_cons_zero, List.set_cons_succ, i64_w, i32_w]
                              rfl
                            refine pure_ (i := 23) (N := some 79) (v := ?_) (a' := ?_) #[true, true, true, true, true, true, true, true, true, true, true, true, true, true, true, true, true, true, true, true, true, true, true, true, false, false, false, false, false, false, false, false, false, false, false, false, false] rfl rfl (any_of HT_.out (by kernel_rfl)) (fun _ _ _ h => h) (Or.inl ⟨by rfl, ?_⟩) ?_ ?_
                            rotate_left
                            · intro w'
                              go_simp
                              with_reducible rfl
                            rotate_left
                            · simp only [Act.put, List.setIfInBounds_toArray, List.set_cons_zero, List.set_cons_succ, i64_w, i32_w]
                              rfl
                            refine pure_ (i := 24) (N := some 80) (v := ?_) (a' := ?_) #[true, true, true, true, true, true, true, true, true, true, true, true, true, true, true, true, true, true, true, true, true, true, true, true, true, false, false, false, false, false, false, false, false, false, false, false, false] rfl rfl (any_of HT_.out (by kernel_rfl)) (fun _ _ _ h => h) (Or.inl ⟨by rfl, ?_⟩) ?_ ?_
                            rotate_left
                            · intro w'
                              go_simp
                              with_reducible rfl
                            rotate_left
                            · simp only [Act.put, List.setIfInBounds_toArray, List.set_cons_zero, List.set_cons_succ, i64_w, i32_w]
                              rfl
                            refine pure_ (i := 25) (N := some 81) (v := ?_) (a' := ?_) #[true, true, true, true, true, true, true, true, true, true, true, true, true, true, true, true, true, true, true, true, true, true, true, true, true, true, false, false, false, false, false, false, false, false, false, false, false] rfl rfl (any_of HT_.out (by kernel_rfl)) (fun _ _ _ h => h) (Or.inl ⟨by rfl, ?_⟩) ?_ ?_
                            rotate_left
                            · intro w'
                              go_simp
                              with_reducible rfl
                            rotate_left
                            · simp only [Act.put, List.setIfInBounds_toArray, List.set_cons_zero, List.set_cons_succ, i64_w, i32_w]
                              rfl
                            refine pure_ (i := 26) (N := some 82) (v := ?_) (a' := ?_) #[true, true, true, true, true, true, true, true, true, true, true, true, true, true, true, true, true, true, true, true, true, true, true, true, true, true, true, false, false, false, false, false, false, false, false, false, false] rfl rfl (any_of HT_.out (by kernel_rfl)) (fun _ _ _ h => h) (Or.inl ⟨by rfl, ?_⟩) ?_ ?_
                            rotate_left
                            · intro w'
                              go_simp
                              with_reducible rfl
                            rotate_left
                            · simp only [Act.put, List.setIfInBounds_toArray, List.set_cons_zero, List.set_cons_succ, i64_w, i32_w]
                              rfl
                            refine pure_ (i := 27) (N := some 83) (v := ?_) (a' := ?_) #[true, true, true, true, true, true, true, true, true, true, true, true, true, true, true, true, true, true, true, true, true, true, true, true, true, true, true, true, false, false, false, false, false, false, false, false, false] rfl rfl (any_of HT_.out (by kernel_rfl)) (fun _ _ _ h => h) (Or.inl ⟨by rfl, ?_⟩) ?_ ?_
                            rotate_left
                            · intro w'
                              go_simp
                              with_reducible rfl
                            rotate_left
                            · simp only [Act.put, List.setIfInBounds_toArray, List.set_cons_zero, List.set_cons_succ, i64_w, i32_w]
                              rfl
                            refine pure_ (i := 28) (N := some 84) (v := ?_) (a' := ?_) #[true, true, true, true, true, true, true, true, true, true, true, true, true, true, true, true, true, true, true, true, true, true, true, true, true, true, true, true, true, false, false, false, false, false, false, false, false] rfl rfl (any_of HT_.out (by kernel_rfl)) (fun _ _ _ h => h) (Or.inl ⟨by rfl, ?_⟩) ?_ ?_
                            rotate_left
                            · intro w'
                              go_simp
                              with_reducible rfl
                            rotate_left
                            · simp only [Act.put, List.setIfInBounds_toArray, List.set_cons_zero, List.set_cons_succ, i64_w, i32_w]
                              rfl
                            refine pure_ (i := 29) (N := some 85) (v := ?_) (a' := ?_) #[true, true, true, true, true, true, true, true, true, true, true, true, true, true, true, true, true, true, true, true, true, true, true, true, true, true, true, true, true, true, false, false, false, false, false, false, false] rfl rfl (any_of HT_.out (by kernel_rfl)) (fun _ _ _ h => h) (Or.inl ⟨by rfl, ?_⟩) ?_ ?_
                            rotate_left
                            · intro w'
                              go_simp
                              with_reducible rfl
                            rotate_left
                            · simp only [Act.put, List.setIfInBounds_toArray, List.set_cons_zero, List.set_cons_succ, i64_w, i32_w]
                              rfl
                            refine pure_ (i := 30) (N := some 86) (v := ?_) (a' := ?_) #[true, true, true, true, true, true, true, true, true, true, true, true, true, true, true, true, true, true, true, true, true, true, true, true, true, true, true, true, true, true, true, false, false, false, false, false, false] rfl rfl (any_of HT_.out (by kernel_rfl)) (fun _ _ _ h => h) (Or.inl ⟨by rfl, ?_⟩) ?_ ?_
                            rotate_left
                            · intro w'
                              go_simp
                              with_reducible rfl
                            rotate_left
                            · simp only [Act.put, List.setIfInBounds_toArray, List.set_cons_zero, List.set_cons_succ, i64_w, i32_w]
                              rfl
                            refine pure_ (i := 31) (N := some 87) (v := ?_) (a' := ?_) #[true, true, true, true, true, true, true, true, true, true, true, true, true, true, true, true, true, true, true, true, true, true, true, true, true, true, true, true, true, true, true, true, false, false, false, false, false] rfl rfl (any_of HT_.out (by kernel_rfl)) (fun _ _ _ h => h) (Or.inl ⟨by rfl, ?_⟩) ?_ ?_
                            rotate_left
                            · intro w'
                              go_simp
                              with_reducible rfl
                            rotate_left
                            · simp only [Act.put, List.setIfInBounds_toArray, List.set_cons_zero, List.set_cons_succ, i64_w, i32_w]
                              rfl
                            refine pure_ (i := 32) (N := some 88) (v := ?_) (a' := ?_) #[true, true, true, true, true, true, true, true, true, true, true, true, true, true, true, true, true, true, true, true, true, true, true, true, true, true, true, true, true, true, true, true, true, false, false, false, false] rfl rfl (any_of HT_.out (by kernel_rfl)) (fun _ _ _ h => h) (Or.inl ⟨by rfl, ?_⟩) ?_ ?_
                            rotate_left
                            · intro w'
                              go_simp
                              with_reducible rfl
                            rotate_left
                            · simp only [Act.put, List.setIfInBounds_toArray, List.set_cons_zero, List.set_cons_succ, i64_w, i32_w]
                              rfl
                            refine pure_ (i := 33) (N := some 89) (v := ?_) (a' := ?_) #[true, true, true, true, true, true, true, true, true, true, true, true, true, true, true, true, true, true, true, true, true, true, true, true, true, true, true, true, true, true, true, true, true, true, false, false, false] rfl rfl (any_of HT_.out (by kernel_rfl)) (fun _ _ _ h => h) (Or.inl ⟨by rfl, ?_⟩) ?_ ?_
                            rotate_left
                            · intro w'
                              go_simp
                              with_reducible rfl
                            rotate_left
                            · simp only [Act.put, List.setIfInBounds_toArray, List.set_cons_zero, List.set_cons_succ, i64_w, i32_w]
                              rfl
                            refine one_ (i := 34) (N := some 90) #[true, true, true, true, true, true, true, true, true, true, true, true, true, true, true, true, true, true, true, true, true, true, true, true, true, true, true, true, true, true, true, true, true, true, true, false, false] rfl rfl (one_of HT_.out (by kernel_rfl)) (by decide) (fun K hK => ?_)
                            refine goes_ Try.func9 (by kernel_rfl) rfl #[] (by rfl) rfl rfl (by (try simp only [List.map_toArray, List.map_cons, List.map_nil]); first | done | rfl | (simp only [List.length_drop, List.length_take]; rfl)) ?_
                            with_reducible refine (duetlaw12_live.calls k2  t397 _ ?side1 A44.out).mono ?_
                            (case side1 => exact hr_)
                            rintro e w63 ⟨rfl, hb⟩
                            refine ⟨_, rfl, ?_⟩
                            have n0_ := Aside0.mk (Kd.S_below (by (with_reducible repeat (first | apply Kd.S_alloc | apply Kd.S_drewN | apply Kd.S_drew)); exact HO_5.out) hb)
                            have n1_ := Aside0.mk (Kd.R_below (by (with_reducible repeat (first | apply Kd.R_alloc | apply Kd.R_drewN | apply Kd.R_drew)); exact HO391.out) hb)
                            have n2_ := Aside0.mk (Kd.R_below (by (with_reducible repeat (first | apply Kd.R_alloc | apply Kd.R_drewN | apply Kd.R_drew)); exact HO394.out) hb)
                            have n3_ := Aside0.mk (blk_below (g := gb381) (o := .cells #[.int .i64 t378, .int .i64 t379] 24 (0, 0)) (by (with_reducible repeat (first | refine blk_drewN ?_ _ | refine blk_drew ?_ | refine blk_alloc ?_ _)); exact BK381.out) hb)
                            have n4_ := Aside0.mk (blk_below (g := gb385) (o := .cells #[.int .i64 t382, .int .i64 t383] 24 (0, 0)) (by (with_reducible repeat (first | refine blk_drewN ?_ _ | refine blk_drew ?_ | refine blk_alloc ?_ _)); exact BK385.out) hb)
                            have n5_ := Aside0.mk (below_step (by repeat (first | (with_reducible first | exact HB.out | apply below_alloc | apply pw_below_drewN | apply below_drew1 | refine below_set ?_ GE381.out | refine below_set ?_ GE385.out) | exact HB.out)) hb)
                            clear HO_5
                            clear HO391
                            clear HO394
                            clear BK381
                            clear BK385
                            clear HB
                            have HO_5 := n0_
                            have HO391 := n1_
                            have HO394 := n2_
                            have BK381 := n3_
                            have BK385 := n4_
                            have HB := n5_
                            clear n0_ n1_ n2_ n3_ n4_ n5_
                            (try clear hb)
                            (try clear hb2)
                            (try clear hk)
                            (try clear hi)
                            refine hK.out _ _ ⟨(blk_cell BK381.out 0).trans rfl, (blk_cell BK381.out 1).trans rfl, ((HB.out.cell (World.block_lt_of_cell? w _ hw387_0)).trans hw387_0), ((HB.out.cell (World.block_lt_of_cell? w _ hw387_1)).trans hw387_1), ((HB.out.cell (World.block_lt_of_cell? w _ hw387_2)).trans hw387_2), ((HB.out.cell (World.block_lt_of_cell? w _ hw387_3)).trans hw387_3), ((HB.out.cell (World.block_lt_of_cell? w _ hw387_4)).trans hw387_4), ((HB.out.cell (World.block_lt_of_cell? w _ hw387_5)).trans hw387_5), ((HB.out.cell (World.block_lt_of_cell? w _ hw396_0)).trans hw396_0), ((HB.out.cell (World.block_lt_of_cell? w _ hw396_1)).trans hw396_1), ((HB.out.cell (World.block_lt_of_cell? w _ hw396_2)).trans hw396_2), ((HB.out.cell (World.block_lt_of_cell? w _ hw396_3)).trans hw396_3), ((HB.out.cell (World.block_lt_of_cell? w _ hw396_4)).trans hw396_4), ((HB.out.cell (World.block_lt_of_cell? w _ hw396_5)).trans hw396_5)⟩ (fun hHeld => ?_)
                            clear hK K
                            refine norm_ (a' := ?_) ?_ ?_
                            rotate_left
                            · show Act.put _ (some 90) _ = _
                              simp only [Act.put, List.setIfInBounds_toArray, List.set_cons_zero, List.set_cons_succ, i64_w, i32_w]
                              rfl
                            refine pure_ (i := 35) (N := some 91) (v := ?_) (a' := ?_) #[true, true, true, true, true, true, true, true, true, true, true, true, true, true, true, true, true, true, true, true, true, true, true, true, true, true, true, true, true, true, true, true, true, true, true, true, false] rfl rfl (any_of HT_.out (by kernel_rfl)) (fun _ _ _ h => h) (Or.inl ⟨by rfl, ?_⟩) ?_ ?_
                            rotate_left
                            · intro w'
                              go_simp
                              with_reducible rfl
                            rotate_left
                            · simp only [Act.put, List.setIfInBounds_toArray, List.set_cons_zero, List.set_cons_succ, i64_w, i32_w]
                              rfl
                            refine pure_ (i := 36) (N := some 4) (v := ?_) (a' := ?_) #[true, true, true, true, true, true, true, true, true, true, true, true, true, true, true, true, true, true, true, true, true, true, true, true, true, true, true, true, true, true, true, true, true, true, true, true, true] rfl rfl (any_of HT_.out (by kernel_rfl)) (fun _ _ _ h => h) (Or.inl ⟨by rfl, ?_⟩) ?_ ?_
                            rotate_left
                            · intro w'
                              go_simp
                              with_reducible rfl
                            rotate_left
                            · simp only [Act.put, List.setIfInBounds_toArray, List.set_cons_zero, List.set_cons_succ, i64_w, i32_w]
                              rfl
                            refine done_ (done_of HT_.out (by kernel_rfl)) ?_
                            try go_wp2
                            go_ret
                            exact ⟨by first | rfl | (simp [errW_none, errW_some] <;> rfl) | (simp [*, errW_none, errW_some] <;> rfl), by repeat (first | (with_reducible first | exact HB.out | apply below_alloc | apply pw_below_drewN | apply below_drew1 | refine below_set ?_ GE381.out | refine below_set ?_ GE385.out) | exact HB.out)⟩
                          · rw [if_neg c43] at H
                            have c43b0 : (t384 == 1) = false := beq_eq_false_iff_ne.mpr c43
                            have c43b1 : (t384 != 1) = true := bne_iff_ne.mpr c43
                            exact absurd (Option.some.inj H) (by rw [hr_.out]; decide)
                        · rw [if_neg c42] at H
                          have c42b0 : (t380 == 0) = false := beq_eq_false_iff_ne.mpr c42
                          have c42b1 : (t380 != 0) = true := bne_iff_ne.mpr c42
                          exact absurd (Option.some.inj H) (by rw [hr_.out]; decide)
                      · rw [if_neg c41] at H
                        have c41b0 : (t378 == ((rd_T44 l0 a1).f0.f0) && (t379 == ((rd_T44 l0 a1).f0.f1))) = false := by simpa using c41
                        (try (have c41b1 : decide (t378 = ((rd_T44 l0 a1).f0.f0) && (t379 == ((rd_T44 l0 a1).f0.f1))) = false := by simpa using c41))
                        (try (have c41b2 : (t378 == ((rd_T44 l0 a1).f0.f0) && (t379 == ((rd_T44 l0 a1).f0.f1))) = false := by simpa using c41))
                        (try (have c41b3 : ¬ (t378 = ((rd_T44 l0 a1).f0.f0) && (t379 == ((rd_T44 l0 a1).f0.f1))) := by simpa using c41))
                        clear c41
                        exact absurd (Option.some.inj H) (by rw [hr_.out]; decide)
                    · replace c40 := Bool.eq_false_iff.mpr c40
                      subst c40
                      have H1 : (some false) = some r := by rw [if_neg (show ¬ (false = true) by decide)] at H; exact H
                      clear H
                      have H := H1
                      clear H1
                      exact absurd (Option.some.inj H) (by rw [hr_.out]; decide)
                  · rw [if_neg c37] at H
                    have c37b0 : (t386.toList == t388.toList) = false := beq_eq_false_iff_ne.mpr c37
                    have c37b1 : (t386.toList != t388.toList) = true := bne_iff_ne.mpr c37
                    exact absurd (Option.some.inj H) (by rw [hr_.out]; decide)
                · rw [if_neg c35] at H
                  exact absurd H (by simp)
              · rw [if_neg c34] at H
                exact absurd H (by simp)

end Go.Proofs.Ytpclgafcldmchaa.P

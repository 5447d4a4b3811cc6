-- Written by a program of this session (wip/tools/pp.py) out of the translation. Not trusted: Lean checks it.
import Derived.Test.YtoidlaonolkgkaaDoorPx0
import Derived.Test.YtoidlaonolkgkaaDoorPx2
import Derived.Test.YtoidlaonolkgkaaDoorGiv
namespace Go.Proofs.YtoidlaonolkgkaaDoor.P
open Go.RowKit Go.Proofs.YtoidlaonolkgkaaDoorW.PrintWords Go.Proofs.YtoidlaonolkgkaaDoorW.PrintLast Go.Proofs.YtoidlaonolkgkaaDoorW.PrintMore
open Go.Proofs.YtoidlaonolkgkaaDoor.Giv
attribute [local go_sem] max2_int min2_int max_two min_two max_three min_three max_four min_four   -- for this text's walks alone
set_option linter.unusedVariables false
set_option linter.unusedSimpArgs false

/-! ### duetref20_Width: function 20 -/
def duetref20_Width.j0 : Nat → Int → Bool → Option (Int)
  | 0, _, _ => none
  | k + 1, x0, x36 => if x36 = true then (some 0) else ((duetref20_in.f x0 4352 4447).bind fun t124 => (if t124 = true then (some 2) else ((duetref20_in.f x0 11904 12350).bind fun t125 => (if t125 = true then (some 2) else ((duetref20_in.f x0 12353 42191).bind fun t126 => (if t126 = true then (some 2) else ((duetref20_in.f x0 44032 55203).bind fun t127 => (if t127 = true then (some 2) else ((duetref20_in.f x0 63744 64255).bind fun t128 => (if t128 = true then (some 2) else ((duetref20_in.f x0 65072 65135).bind fun t129 => (if t129 = true then (some 2) else ((duetref20_in.f x0 65281 65376).bind fun t130 => (if t130 = true then (some 2) else ((duetref20_in.f x0 65504 65510).bind fun t131 => (if t131 = true then (some 2) else ((duetref20_in.f x0 127744 128591).bind fun t132 => (if t132 = true then (some 2) else ((duetref20_in.f x0 128640 128767).bind fun t133 => (if t133 = true then (some 2) else ((duetref20_in.f x0 129280 129535).bind fun t134 => (if t134 = true then (some 2) else ((duetref20_in.f x0 131072 262141).bind fun t135 => (if t135 = true then (some 2) else (some 1)))))))))))))))))))))))))
def duetref20_Width.f (k : Nat) (a0 : Int) : Option (Int) := if a0 < 32 then (duetref20_Width.j0 k a0 true) else ((duetref20_in.f a0 127 159).bind fun t117 => (if t117 = true then (duetref20_Width.j0 k a0 true) else ((duetref20_in.f a0 768 879).bind fun t118 => (if t118 = true then (duetref20_Width.j0 k a0 true) else ((duetref20_in.f a0 8203 8207).bind fun t119 => (if t119 = true then (duetref20_Width.j0 k a0 true) else ((duetref20_in.f a0 8400 8447).bind fun t120 => (if t120 = true then (duetref20_Width.j0 k a0 true) else ((duetref20_in.f a0 55296 57343).bind fun t121 => (if t121 = true then (duetref20_Width.j0 k a0 true) else ((duetref20_in.f a0 65024 65039).bind fun t122 => (if t122 = true then (duetref20_Width.j0 k a0 true) else ((duetref20_in.f a0 65056 65071).bind fun t123 => (if t123 = true then (duetref20_Width.j0 k a0 true) else (duetref20_Width.j0 k a0 (decide (a0 > 1114111)))))))))))))))))
theorem duetref20_Width.mono_l : ∀ k, (∀ y0 y1, LeO (duetref20_Width.j0 k y0 y1) (duetref20_Width.j0 (k + 1) y0 y1))
  | 0 => fun _ _ r h => by simp [duetref20_Width.j0] at h
  | k + 1 => by
    have ih0 := duetref20_Width.mono_l k
    · intro y0 y1
      unfold duetref20_Width.j0
      repeat' first
      | (with_reducible exact ih0 _ _)
      | (with_reducible exact LeO.refl _)
      | (with_reducible exact LeO.none _)
      | (with_reducible refine LeO.ite ?_ ?_)
      | (with_reducible refine LeO.bind ?_ (fun _ => ?_))
      | exact ih0 _ _
      | exact LeO.none _
      | refine LeO.ite ?_ ?_
      | refine LeO.bind ?_ (fun _ => ?_)
theorem duetref20_Width.mono : ∀ a0 k, LeO (duetref20_Width.f k a0) (duetref20_Width.f (k + 1) a0) := by
  intro a0 k
  have ih0 := duetref20_Width.mono_l k
  unfold duetref20_Width.f
  repeat' first
      | (with_reducible exact ih0 _ _)
      | (with_reducible exact LeO.refl _)
      | (with_reducible exact LeO.none _)
      | (with_reducible refine LeO.ite ?_ ?_)
      | (with_reducible refine LeO.bind ?_ (fun _ => ?_))
      | exact ih0 _ _
      | exact LeO.none _
      | refine LeO.ite ?_ ?_
      | refine LeO.bind ?_ (fun _ => ?_)
set_option maxHeartbeats 8000000 in
set_option maxRecDepth 100000 in
theorem duetref20_Width.calls (k : Nat) (a0 : Int) (r : Int) (w : World) (h : duetref20_Width.f k a0 = some r) :
    Calls Tryd.prog 20 #[.int .i64 a0] w fun e w' => e = .returned (.int .i64 r) ∧ Drawn0 w w' := by
  have H : (if a0 < 32 then (duetref20_Width.j0 k a0 true) else ((duetref20_in.f a0 127 159).bind fun t117 => (if t117 = true then (duetref20_Width.j0 k a0 true) else ((duetref20_in.f a0 768 879).bind fun t118 => (if t118 = true then (duetref20_Width.j0 k a0 true) else ((duetref20_in.f a0 8203 8207).bind fun t119 => (if t119 = true then (duetref20_Width.j0 k a0 true) else ((duetref20_in.f a0 8400 8447).bind fun t120 => (if t120 = true then (duetref20_Width.j0 k a0 true) else ((duetref20_in.f a0 55296 57343).bind fun t121 => (if t121 = true then (duetref20_Width.j0 k a0 true) else ((duetref20_in.f a0 65024 65039).bind fun t122 => (if t122 = true then (duetref20_Width.j0 k a0 true) else ((duetref20_in.f a0 65056 65071).bind fun t123 => (if t123 = true then (duetref20_Width.j0 k a0 true) else (duetref20_Width.j0 k a0 (decide (a0 > 1114111)))))))))))))))))) = some r := h
  clear h
  have HC2 := Aside0.mk H
  clear H
  go_enter Tryd.func20, Tryd.ntmps20
  go_upto_region 1 with (fail)
  go_cut [36] (fun v36 wc => ∃ (kq : Nat) (x36_1 : Bool), v36 = .bool x36_1 ∧ Aside0 (duetref20_Width.j0 kq a0 x36_1 = some r) ∧ Aside0 (kq ≤ k) ∧ Drawn0 w wc)
  case first =>
    have H := HC2.out
    clear HC2
    by_cases c3 : a0 < 32
    · rw [if_pos c3] at H
      have c3b0 : decide (a0 < 32) = true := decide_eq_true c3
      clear c3
      (first | rw [c3b0] | (simp only [i64_w, i32_w]; rw [c3b0]) | skip)
      have H' := Aside0.mk H
      clear H
      go_wp2
      go_meet
      case rel => exact ⟨_, (true), (by first | rfl | (simp; done) | (simp [*]; done)), H', ⟨by first | omega | exact Nat.le_refl _⟩, by repeat (first | exact Drawn0.refl _ | apply Drawn0.step)⟩
    · rw [if_neg c3] at H
      have c3b0 : decide (a0 < 32) = false := decide_eq_false c3
      clear c3
      (first | rw [c3b0] | (simp only [i64_w, i32_w]; rw [c3b0]) | skip)
      replace H := Option.bind_eq_some_iff.mp H
      obtain ⟨t117, A40, H⟩ := H
      replace H : (if t117 = true then (duetref20_Width.j0 k a0 true) else ((duetref20_in.f a0 768 879).bind fun t118 => (if t118 = true then (duetref20_Width.j0 k a0 true) else ((duetref20_in.f a0 8203 8207).bind fun t119 => (if t119 = true then (duetref20_Width.j0 k a0 true) else ((duetref20_in.f a0 8400 8447).bind fun t120 => (if t120 = true then (duetref20_Width.j0 k a0 true) else ((duetref20_in.f a0 55296 57343).bind fun t121 => (if t121 = true then (duetref20_Width.j0 k a0 true) else ((duetref20_in.f a0 65024 65039).bind fun t122 => (if t122 = true then (duetref20_Width.j0 k a0 true) else ((duetref20_in.f a0 65056 65071).bind fun t123 => (if t123 = true then (duetref20_Width.j0 k a0 true) else (duetref20_Width.j0 k a0 (decide (a0 > 1114111)))))))))))))))) = some r := H
      have A4 := Aside0.mk A40
      clear A40
      by_cases c5 : t117 = true
      · subst c5
        have H1 : (duetref20_Width.j0 k a0 true) = some r := by rw [if_pos rfl] at H; exact H
        clear H
        have H := H1
        clear H1
        have H' := Aside0.mk H
        clear H
        go_wp2_with (first | (go_at_call 37; (with_reducible refine (duetref20_in.calls a0 127 159 true _ A4.out).mono ?_); rintro e w' ⟨rfl, ⟨nd, rfl⟩⟩))
        go_meet
        case rel => exact ⟨_, (true), (by first | rfl | (simp; done) | (simp [*]; done)), H', ⟨by first | omega | exact Nat.le_refl _⟩, by repeat (first | exact Drawn0.refl _ | apply Drawn0.step)⟩
      · replace c5 := Bool.eq_false_iff.mpr c5
        subst c5
        have H1 : ((duetref20_in.f a0 768 879).bind fun t118 => (if t118 = true then (duetref20_Width.j0 k a0 true) else ((duetref20_in.f a0 8203 8207).bind fun t119 => (if t119 = true then (duetref20_Width.j0 k a0 true) else ((duetref20_in.f a0 8400 8447).bind fun t120 => (if t120 = true then (duetref20_Width.j0 k a0 true) else ((duetref20_in.f a0 55296 57343).bind fun t121 => (if t121 = true then (duetref20_Width.j0 k a0 true) else ((duetref20_in.f a0 65024 65039).bind fun t122 => (if t122 = true then (duetref20_Width.j0 k a0 true) else ((duetref20_in.f a0 65056 65071).bind fun t123 => (if t123 = true then (duetref20_Width.j0 k a0 true) else (duetref20_Width.j0 k a0 (decide (a0 > 1114111))))))))))))))) = some r := by rw [if_neg (show ¬ (false = true) by decide)] at H; exact H
        clear H
        have H := H1
        clear H1
        replace H := Option.bind_eq_some_iff.mp H
        obtain ⟨t118, A60, H⟩ := H
        replace H : (if t118 = true then (duetref20_Width.j0 k a0 true) else ((duetref20_in.f a0 8203 8207).bind fun t119 => (if t119 = true then (duetref20_Width.j0 k a0 true) else ((duetref20_in.f a0 8400 8447).bind fun t120 => (if t120 = true then (duetref20_Width.j0 k a0 true) else ((duetref20_in.f a0 55296 57343).bind fun t121 => (if t121 = true then (duetref20_Width.j0 k a0 true) else ((duetref20_in.f a0 65024 65039).bind fun t122 => (if t122 = true then (duetref20_Width.j0 k a0 true) else ((duetref20_in.f a0 65056 65071).bind fun t123 => (if t123 = true then (duetref20_Width.j0 k a0 true) else (duetref20_Width.j0 k a0 (decide (a0 > 1114111)))))))))))))) = some r := H
        have A6 := Aside0.mk A60
        clear A60
        by_cases c7 : t118 = true
        · subst c7
          have H1 : (duetref20_Width.j0 k a0 true) = some r := by rw [if_pos rfl] at H; exact H
          clear H
          have H := H1
          clear H1
          have H' := Aside0.mk H
          clear H
          go_wp2_with (first | (go_at_call 37; (with_reducible refine (duetref20_in.calls a0 127 159 false _ A4.out).mono ?_); rintro e w' ⟨rfl, ⟨nd, rfl⟩⟩) | (go_at_call 37; (with_reducible refine (duetref20_in.calls a0 768 879 true _ A6.out).mono ?_); rintro e w' ⟨rfl, ⟨nd, rfl⟩⟩))
          go_meet
          case rel => exact ⟨_, (true), (by first | rfl | (simp; done) | (simp [*]; done)), H', ⟨by first | omega | exact Nat.le_refl _⟩, by repeat (first | exact Drawn0.refl _ | apply Drawn0.step)⟩
        · replace c7 := Bool.eq_false_iff.mpr c7
          subst c7
          have H1 : ((duetref20_in.f a0 8203 8207).bind fun t119 => (if t119 = true then (duetref20_Width.j0 k a0 true) else ((duetref20_in.f a0 8400 8447).bind fun t120 => (if t120 = true then (duetref20_Width.j0 k a0 true) else ((duetref20_in.f a0 55296 57343).bind fun t121 => (if t121 = true then (duetref20_Width.j0 k a0 true) else ((duetref20_in.f a0 65024 65039).bind fun t122 => (if t122 = true then (duetref20_Width.j0 k a0 true) else ((duetref20_in.f a0 65056 65071).bind fun t123 => (if t123 = true then (duetref20_Width.j0 k a0 true) else (duetref20_Width.j0 k a0 (decide (a0 > 1114111))))))))))))) = some r := by rw [if_neg (show ¬ (false = true) by decide)] at H; exact H
          clear H
          have H := H1
          clear H1
          replace H := Option.bind_eq_some_iff.mp H
          obtain ⟨t119, A80, H⟩ := H
          replace H : (if t119 = true then (duetref20_Width.j0 k a0 true) else ((duetref20_in.f a0 8400 8447).bind fun t120 => (if t120 = true then (duetref20_Width.j0 k a0 true) else ((duetref20_in.f a0 55296 57343).bind fun t121 => (if t121 = true then (duetref20_Width.j0 k a0 true) else ((duetref20_in.f a0 65024 65039).bind fun t122 => (if t122 = true then (duetref20_Width.j0 k a0 true) else ((duetref20_in.f a0 65056 65071).bind fun t123 => (if t123 = true then (duetref20_Width.j0 k a0 true) else (duetref20_Width.j0 k a0 (decide (a0 > 1114111)))))))))))) = some r := H
          have A8 := Aside0.mk A80
          clear A80
          by_cases c9 : t119 = true
          · subst c9
            have H1 : (duetref20_Width.j0 k a0 true) = some r := by rw [if_pos rfl] at H; exact H
            clear H
            have H := H1
            clear H1
            have H' := Aside0.mk H
            clear H
            go_wp2_with (first | (go_at_call 37; (with_reducible refine (duetref20_in.calls a0 127 159 false _ A4.out).mono ?_); rintro e w' ⟨rfl, ⟨nd, rfl⟩⟩) | (go_at_call 37; (with_reducible refine (duetref20_in.calls a0 768 879 false _ A6.out).mono ?_); rintro e w' ⟨rfl, ⟨nd, rfl⟩⟩) | (go_at_call 37; (with_reducible refine (duetref20_in.calls a0 8203 8207 true _ A8.out).mono ?_); rintro e w' ⟨rfl, ⟨nd, rfl⟩⟩))
            go_meet
            case rel => exact ⟨_, (true), (by first | rfl | (simp; done) | (simp [*]; done)), H', ⟨by first | omega | exact Nat.le_refl _⟩, by repeat (first | exact Drawn0.refl _ | apply Drawn0.step)⟩
          · replace c9 := Bool.eq_false_iff.mpr c9
            subst c9
            have H1 : ((duetref20_in.f a0 8400 8447).bind fun t120 => (if t120 = true then (duetref20_Width.j0 k a0 true) else ((duetref20_in.f a0 55296 57343).bind fun t121 => (if t121 = true then (duetref20_Width.j0 k a0 true) else ((duetref20_in.f a0 65024 65039).bind fun t122 => (if t122 = true then (duetref20_Width.j0 k a0 true) else ((duetref20_in.f a0 65056 65071).bind fun t123 => (if t123 = true then (duetref20_Width.j0 k a0 true) else (duetref20_Width.j0 k a0 (decide (a0 > 1114111))))))))))) = some r := by rw [if_neg (show ¬ (false = true) by decide)] at H; exact H
            clear H
            have H := H1
            clear H1
            replace H := Option.bind_eq_some_iff.mp H
            obtain ⟨t120, A100, H⟩ := H
            replace H : (if t120 = true then (duetref20_Width.j0 k a0 true) else ((duetref20_in.f a0 55296 57343).bind fun t121 => (if t121 = true then (duetref20_Width.j0 k a0 true) else ((duetref20_in.f a0 65024 65039).bind fun t122 => (if t122 = true then (duetref20_Width.j0 k a0 true) else ((duetref20_in.f a0 65056 65071).bind fun t123 => (if t123 = true then (duetref20_Width.j0 k a0 true) else (duetref20_Width.j0 k a0 (decide (a0 > 1114111)))))))))) = some r := H
            have A10 := Aside0.mk A100
            clear A100
            by_cases c11 : t120 = true
            · subst c11
              have H1 : (duetref20_Width.j0 k a0 true) = some r := by rw [if_pos rfl] at H; exact H
              clear H
              have H := H1
              clear H1
              have H' := Aside0.mk H
              clear H
              go_wp2_with (first | (go_at_call 37; (with_reducible refine (duetref20_in.calls a0 127 159 false _ A4.out).mono ?_); rintro e w' ⟨rfl, ⟨nd, rfl⟩⟩) | (go_at_call 37; (with_reducible refine (duetref20_in.calls a0 768 879 false _ A6.out).mono ?_); rintro e w' ⟨rfl, ⟨nd, rfl⟩⟩) | (go_at_call 37; (with_reducible refine (duetref20_in.calls a0 8203 8207 false _ A8.out).mono ?_); rintro e w' ⟨rfl, ⟨nd, rfl⟩⟩) | (go_at_call 37; (with_reducible refine (duetref20_in.calls a0 8400 8447 true _ A10.out).mono ?_); rintro e w' ⟨rfl, ⟨nd, rfl⟩⟩))
              go_meet
              case rel => exact ⟨_, (true), (by first | rfl | (simp; done) | (simp [*]; done)), H', ⟨by first | omega | exact Nat.le_refl _⟩, by repeat (first | exact Drawn0.refl _ | apply Drawn0.step)⟩
            · replace c11 := Bool.eq_false_iff.mpr c11
              subst c11
              have H1 : ((duetref20_in.f a0 55296 57343).bind fun t121 => (if t121 = true then (duetref20_Width.j0 k a0 true) else ((duetref20_in.f a0 65024 65039).bind fun t122 => (if t122 = true then (duetref20_Width.j0 k a0 true) else ((duetref20_in.f a0 65056 65071).bind fun t123 => (if t123 = true then (duetref20_Width.j0 k a0 true) else (duetref20_Width.j0 k a0 (decide (a0 > 1114111))))))))) = some r := by rw [if_neg (show ¬ (false = true) by decide)] at H; exact H
              clear H
              have H := H1
              clear H1
              replace H := Option.bind_eq_some_iff.mp H
              obtain ⟨t121, A120, H⟩ := H
              replace H : (if t121 = true then (duetref20_Width.j0 k a0 true) else ((duetref20_in.f a0 65024 65039).bind fun t122 => (if t122 = true then (duetref20_Width.j0 k a0 true) else ((duetref20_in.f a0 65056 65071).bind fun t123 => (if t123 = true then (duetref20_Width.j0 k a0 true) else (duetref20_Width.j0 k a0 (decide (a0 > 1114111)))))))) = some r := H
              have A12 := Aside0.mk A120
              clear A120
              by_cases c13 : t121 = true
              · subst c13
                have H1 : (duetref20_Width.j0 k a0 true) = some r := by rw [if_pos rfl] at H; exact H
                clear H
                have H := H1
                clear H1
                have H' := Aside0.mk H
                clear H
                go_wp2_with (first | (go_at_call 37; (with_reducible refine (duetref20_in.calls a0 127 159 false _ A4.out).mono ?_); rintro e w' ⟨rfl, ⟨nd, rfl⟩⟩) | (go_at_call 37; (with_reducible refine (duetref20_in.calls a0 768 879 false _ A6.out).mono ?_); rintro e w' ⟨rfl, ⟨nd, rfl⟩⟩) | (go_at_call 37; (with_reducible refine (duetref20_in.calls a0 8203 8207 false _ A8.out).mono ?_); rintro e w' ⟨rfl, ⟨nd, rfl⟩⟩) | (go_at_call 37; (with_reducible refine (duetref20_in.calls a0 8400 8447 false _ A10.out).mono ?_); rintro e w' ⟨rfl, ⟨nd, rfl⟩⟩) | (go_at_call 37; (with_reducible refine (duetref20_in.calls a0 55296 57343 true _ A12.out).mono ?_); rintro e w' ⟨rfl, ⟨nd, rfl⟩⟩))
                go_meet
                case rel => exact ⟨_, (true), (by first | rfl | (simp; done) | (simp [*]; done)), H', ⟨by first | omega | exact Nat.le_refl _⟩, by repeat (first | exact Drawn0.refl _ | apply Drawn0.step)⟩
              · replace c13 := Bool.eq_false_iff.mpr c13
                subst c13
                have H1 : ((duetref20_in.f a0 65024 65039).bind fun t122 => (if t122 = true then (duetref20_Width.j0 k a0 true) else ((duetref20_in.f a0 65056 65071).bind fun t123 => (if t123 = true then (duetref20_Width.j0 k a0 true) else (duetref20_Width.j0 k a0 (decide (a0 > 1114111))))))) = some r := by rw [if_neg (show ¬ (false = true) by decide)] at H; exact H
                clear H
                have H := H1
                clear H1
                replace H := Option.bind_eq_some_iff.mp H
                obtain ⟨t122, A140, H⟩ := H
                replace H : (if t122 = true then (duetref20_Width.j0 k a0 true) else ((duetref20_in.f a0 65056 65071).bind fun t123 => (if t123 = true then (duetref20_Width.j0 k a0 true) else (duetref20_Width.j0 k a0 (decide (a0 > 1114111)))))) = some r := H
                have A14 := Aside0.mk A140
                clear A140
                by_cases c15 : t122 = true
                · subst c15
                  have H1 : (duetref20_Width.j0 k a0 true) = some r := by rw [if_pos rfl] at H; exact H
                  clear H
                  have H := H1
                  clear H1
                  have H' := Aside0.mk H
                  clear H
                  go_wp2_with (first | (go_at_call 37; (with_reducible refine (duetref20_in.calls a0 127 159 false _ A4.out).mono ?_); rintro e w' ⟨rfl, ⟨nd, rfl⟩⟩) | (go_at_call 37; (with_reducible refine (duetref20_in.calls a0 768 879 false _ A6.out).mono ?_); rintro e w' ⟨rfl, ⟨nd, rfl⟩⟩) | (go_at_call 37; (with_reducible refine (duetref20_in.calls a0 8203 8207 false _ A8.out).mono ?_); rintro e w' ⟨rfl, ⟨nd, rfl⟩⟩) | (go_at_call 37; (with_reducible refine (duetref20_in.calls a0 8400 8447 false _ A10.out).mono ?_); rintro e w' ⟨rfl, ⟨nd, rfl⟩⟩) | (go_at_call 37; (with_reducible refine (duetref20_in.calls a0 55296 57343 false _ A12.out).mono ?_); rintro e w' ⟨rfl, ⟨nd, rfl⟩⟩) | (go_at_call 37; (with_reducible refine (duetref20_in.calls a0 65024 65039 true _ A14.out).mono ?_); rintro e w' ⟨rfl, ⟨nd, rfl⟩⟩))
                  go_meet
                  case rel => exact ⟨_, (true), (by first | rfl | (simp; done) | (simp [*]; done)), H', ⟨by first | omega | exact Nat.le_refl _⟩, by repeat (first | exact Drawn0.refl _ | apply Drawn0.step)⟩
                · replace c15 := Bool.eq_false_iff.mpr c15
                  subst c15
                  have H1 : ((duetref20_in.f a0 65056 65071).bind fun t123 => (if t123 = true then (duetref20_Width.j0 k a0 true) else (duetref20_Width.j0 k a0 (decide (a0 > 1114111))))) = some r := by rw [if_neg (show ¬ (false = true) by decide)] at H; exact H
                  clear H
                  have H := H1
                  clear H1
                  replace H := Option.bind_eq_some_iff.mp H
                  obtain ⟨t123, A160, H⟩ := H
                  replace H : (if t123 = true then (duetref20_Width.j0 k a0 true) else (duetref20_Width.j0 k a0 (decide (a0 > 1114111)))) = some r := H
                  have A16 := Aside0.mk A160
                  clear A160
                  by_cases c17 : t123 = true
                  · subst c17
                    have H1 : (duetref20_Width.j0 k a0 true) = some r := by rw [if_pos rfl] at H; exact H
                    clear H
                    have H := H1
                    clear H1
                    have H' := Aside0.mk H
                    clear H
                    go_wp2_with (first | (go_at_call 37; (with_reducible refine (duetref20_in.calls a0 127 159 false _ A4.out).mono ?_); rintro e w' ⟨rfl, ⟨nd, rfl⟩⟩) | (go_at_call 37; (with_reducible refine (duetref20_in.calls a0 768 879 false _ A6.out).mono ?_); rintro e w' ⟨rfl, ⟨nd, rfl⟩⟩) | (go_at_call 37; (with_reducible refine (duetref20_in.calls a0 8203 8207 false _ A8.out).mono ?_); rintro e w' ⟨rfl, ⟨nd, rfl⟩⟩) | (go_at_call 37; (with_reducible refine (duetref20_in.calls a0 8400 8447 false _ A10.out).mono ?_); rintro e w' ⟨rfl, ⟨nd, rfl⟩⟩) | (go_at_call 37; (with_reducible refine (duetref20_in.calls a0 55296 57343 false _ A12.out).mono ?_); rintro e w' ⟨rfl, ⟨nd, rfl⟩⟩) | (go_at_call 37; (with_reducible refine (duetref20_in.calls a0 65024 65039 false _ A14.out).mono ?_); rintro e w' ⟨rfl, ⟨nd, rfl⟩⟩) | (go_at_call 37; (with_reducible refine (duetref20_in.calls a0 65056 65071 true _ A16.out).mono ?_); rintro e w' ⟨rfl, ⟨nd, rfl⟩⟩))
                    go_meet
                    case rel => exact ⟨_, (true), (by first | rfl | (simp; done) | (simp [*]; done)), H', ⟨by first | omega | exact Nat.le_refl _⟩, by repeat (first | exact Drawn0.refl _ | apply Drawn0.step)⟩
                  · replace c17 := Bool.eq_false_iff.mpr c17
                    subst c17
                    have H1 : (duetref20_Width.j0 k a0 (decide (a0 > 1114111))) = some r := by rw [if_neg (show ¬ (false = true) by decide)] at H; exact H
                    clear H
                    have H := H1
                    clear H1
                    have H' := Aside0.mk H
                    clear H
                    go_wp2_with (first | (go_at_call 37; (with_reducible refine (duetref20_in.calls a0 127 159 false _ A4.out).mono ?_); rintro e w' ⟨rfl, ⟨nd, rfl⟩⟩) | (go_at_call 37; (with_reducible refine (duetref20_in.calls a0 768 879 false _ A6.out).mono ?_); rintro e w' ⟨rfl, ⟨nd, rfl⟩⟩) | (go_at_call 37; (with_reducible refine (duetref20_in.calls a0 8203 8207 false _ A8.out).mono ?_); rintro e w' ⟨rfl, ⟨nd, rfl⟩⟩) | (go_at_call 37; (with_reducible refine (duetref20_in.calls a0 8400 8447 false _ A10.out).mono ?_); rintro e w' ⟨rfl, ⟨nd, rfl⟩⟩) | (go_at_call 37; (with_reducible refine (duetref20_in.calls a0 55296 57343 false _ A12.out).mono ?_); rintro e w' ⟨rfl, ⟨nd, rfl⟩⟩) | (go_at_call 37; (with_reducible refine (duetref20_in.calls a0 65024 65039 false _ A14.out).mono ?_); rintro e w' ⟨rfl, ⟨nd, rfl⟩⟩) | (go_at_call 37; (with_reducible refine (duetref20_in.calls a0 65056 65071 false _ A16.out).mono ?_); rintro e w' ⟨rfl, ⟨nd, rfl⟩⟩))
                    go_meet
                    case rel => exact ⟨_, (decide (a0 > 1114111)), (by first | rfl | (simp; done) | (simp [*]; done)), H', ⟨by first | omega | exact Nat.le_refl _⟩, by repeat (first | exact Drawn0.refl _ | apply Drawn0.step)⟩
  case rest =>
    clear HC2
    try clear c1
    try clear c2
    try clear p2
    try clear c3
    try clear c3b0
    try clear c5
    try clear c7
    try clear c9
    try clear c11
    try clear c13
    try clear c15
    try clear c17
    obtain ⟨kq, x36_1, rfl, HA, HJ1, ⟨mc1, rfl⟩⟩ := hcut
    cases kq with
    | zero => exact absurd HA.out (by simp [duetref20_Width.j0])
    | succ kj1 =>
      have H := HA.out
      clear HA
      simp only [duetref20_Width.j0] at H
      by_cases c18 : x36_1 = true
      · subst c18
        have H1 : (some 0) = some r := by rw [if_pos rfl] at H; exact H
        clear H
        have H := H1
        clear H1
        obtain rfl := Option.some.inj H
        go_wp2
        go_ret
        exact ⟨by first | rfl | (simp; done) | (simp [*]; done), by repeat (first | exact Drawn0.refl _ | apply Drawn0.step)⟩
      · replace c18 := Bool.eq_false_iff.mpr c18
        subst c18
        have H1 : ((duetref20_in.f a0 4352 4447).bind fun t124 => (if t124 = true then (some 2) else ((duetref20_in.f a0 11904 12350).bind fun t125 => (if t125 = true then (some 2) else ((duetref20_in.f a0 12353 42191).bind fun t126 => (if t126 = true then (some 2) else ((duetref20_in.f a0 44032 55203).bind fun t127 => (if t127 = true then (some 2) else ((duetref20_in.f a0 63744 64255).bind fun t128 => (if t128 = true then (some 2) else ((duetref20_in.f a0 65072 65135).bind fun t129 => (if t129 = true then (some 2) else ((duetref20_in.f a0 65281 65376).bind fun t130 => (if t130 = true then (some 2) else ((duetref20_in.f a0 65504 65510).bind fun t131 => (if t131 = true then (some 2) else ((duetref20_in.f a0 127744 128591).bind fun t132 => (if t132 = true then (some 2) else ((duetref20_in.f a0 128640 128767).bind fun t133 => (if t133 = true then (some 2) else ((duetref20_in.f a0 129280 129535).bind fun t134 => (if t134 = true then (some 2) else ((duetref20_in.f a0 131072 262141).bind fun t135 => (if t135 = true then (some 2) else (some 1))))))))))))))))))))))))) = some r := by rw [if_neg (show ¬ (false = true) by decide)] at H; exact H
        clear H
        have H := H1
        clear H1
        replace H := Option.bind_eq_some_iff.mp H
        obtain ⟨t124, A190, H⟩ := H
        replace H : (if t124 = true then (some 2) else ((duetref20_in.f a0 11904 12350).bind fun t125 => (if t125 = true then (some 2) else ((duetref20_in.f a0 12353 42191).bind fun t126 => (if t126 = true then (some 2) else ((duetref20_in.f a0 44032 55203).bind fun t127 => (if t127 = true then (some 2) else ((duetref20_in.f a0 63744 64255).bind fun t128 => (if t128 = true then (some 2) else ((duetref20_in.f a0 65072 65135).bind fun t129 => (if t129 = true then (some 2) else ((duetref20_in.f a0 65281 65376).bind fun t130 => (if t130 = true then (some 2) else ((duetref20_in.f a0 65504 65510).bind fun t131 => (if t131 = true then (some 2) else ((duetref20_in.f a0 127744 128591).bind fun t132 => (if t132 = true then (some 2) else ((duetref20_in.f a0 128640 128767).bind fun t133 => (if t133 = true then (some 2) else ((duetref20_in.f a0 129280 129535).bind fun t134 => (if t134 = true then (some 2) else ((duetref20_in.f a0 131072 262141).bind fun t135 => (if t135 = true then (some 2) else (some 1)))))))))))))))))))))))) = some r := H
        have A19 := Aside0.mk A190
        clear A190
        by_cases c20 : t124 = true
        · subst c20
          have H1 : (some 2) = some r := by rw [if_pos rfl] at H; exact H
          clear H
          have H := H1
          clear H1
          obtain rfl := Option.some.inj H
          go_wp2_with (first | ((with_reducible refine gate_callee (f := 37) rfl ?_); refine goesL_ (some 38) rfl rfl Tryd.func37 (by kernel_rfl) rfl #[.int .i64 a0, .int .i64 4352, .int .i64 4447] rfl (by (try simp only [List.map_toArray, List.map_cons, List.map_nil]); first | done | rfl | (simp only [List.length_drop, List.length_take]; rfl)) ?_; (with_reducible refine (duetref20_in.calls a0 4352 4447 true _ A19.out).mono ?_); rintro e w' ⟨rfl, ⟨nd, rfl⟩⟩; refine ⟨_, rfl, ?_⟩))
          go_ret
          exact ⟨by first | rfl | (simp; done) | (simp [*]; done), by repeat (first | exact Drawn0.refl _ | apply Drawn0.step)⟩
        · replace c20 := Bool.eq_false_iff.mpr c20
          subst c20
          have H1 : ((duetref20_in.f a0 11904 12350).bind fun t125 => (if t125 = true then (some 2) else ((duetref20_in.f a0 12353 42191).bind fun t126 => (if t126 = true then (some 2) else ((duetref20_in.f a0 44032 55203).bind fun t127 => (if t127 = true then (some 2) else ((duetref20_in.f a0 63744 64255).bind fun t128 => (if t128 = true then (some 2) else ((duetref20_in.f a0 65072 65135).bind fun t129 => (if t129 = true then (some 2) else ((duetref20_in.f a0 65281 65376).bind fun t130 => (if t130 = true then (some 2) else ((duetref20_in.f a0 65504 65510).bind fun t131 => (if t131 = true then (some 2) else ((duetref20_in.f a0 127744 128591).bind fun t132 => (if t132 = true then (some 2) else ((duetref20_in.f a0 128640 128767).bind fun t133 => (if t133 = true then (some 2) else ((duetref20_in.f a0 129280 129535).bind fun t134 => (if t134 = true then (some 2) else ((duetref20_in.f a0 131072 262141).bind fun t135 => (if t135 = true then (some 2) else (some 1))))))))))))))))))))))) = some r := by rw [if_neg (show ¬ (false = true) by decide)] at H; exact H
          clear H
          have H := H1
          clear H1
          replace H := Option.bind_eq_some_iff.mp H
          obtain ⟨t125, A210, H⟩ := H
          replace H : (if t125 = true then (some 2) else ((duetref20_in.f a0 12353 42191).bind fun t126 => (if t126 = true then (some 2) else ((duetref20_in.f a0 44032 55203).bind fun t127 => (if t127 = true then (some 2) else ((duetref20_in.f a0 63744 64255).bind fun t128 => (if t128 = true then (some 2) else ((duetref20_in.f a0 65072 65135).bind fun t129 => (if t129 = true then (some 2) else ((duetref20_in.f a0 65281 65376).bind fun t130 => (if t130 = true then (some 2) else ((duetref20_in.f a0 65504 65510).bind fun t131 => (if t131 = true then (some 2) else ((duetref20_in.f a0 127744 128591).bind fun t132 => (if t132 = true then (some 2) else ((duetref20_in.f a0 128640 128767).bind fun t133 => (if t133 = true then (some 2) else ((duetref20_in.f a0 129280 129535).bind fun t134 => (if t134 = true then (some 2) else ((duetref20_in.f a0 131072 262141).bind fun t135 => (if t135 = true then (some 2) else (some 1)))))))))))))))))))))) = some r := H
          have A21 := Aside0.mk A210
          clear A210
          by_cases c22 : t125 = true
          · subst c22
            have H1 : (some 2) = some r := by rw [if_pos rfl] at H; exact H
            clear H
            have H := H1
            clear H1
            obtain rfl := Option.some.inj H
            go_wp2_with (first | ((with_reducible refine gate_callee (f := 37) rfl ?_); refine goesL_ (some 38) rfl rfl Tryd.func37 (by kernel_rfl) rfl #[.int .i64 a0, .int .i64 4352, .int .i64 4447] rfl (by (try simp only [List.map_toArray, List.map_cons, List.map_nil]); first | done | rfl | (simp only [List.length_drop, List.length_take]; rfl)) ?_; (with_reducible refine (duetref20_in.calls a0 4352 4447 false _ A19.out).mono ?_); rintro e w' ⟨rfl, ⟨nd, rfl⟩⟩; refine ⟨_, rfl, ?_⟩) | (go_at_call 37; (with_reducible refine (duetref20_in.calls a0 11904 12350 true _ A21.out).mono ?_); rintro e w' ⟨rfl, ⟨nd, rfl⟩⟩))
            go_ret
            exact ⟨by first | rfl | (simp; done) | (simp [*]; done), by repeat (first | exact Drawn0.refl _ | apply Drawn0.step)⟩
          · replace c22 := Bool.eq_false_iff.mpr c22
            subst c22
            have H1 : ((duetref20_in.f a0 12353 42191).bind fun t126 => (if t126 = true then (some 2) else ((duetref20_in.f a0 44032 55203).bind fun t127 => (if t127 = true then (some 2) else ((duetref20_in.f a0 63744 64255).bind fun t128 => (if t128 = true then (some 2) else ((duetref20_in.f a0 65072 65135).bind fun t129 => (if t129 = true then (some 2) else ((duetref20_in.f a0 65281 65376).bind fun t130 => (if t130 = true then (some 2) else ((duetref20_in.f a0 65504 65510).bind fun t131 => (if t131 = true then (some 2) else ((duetref20_in.f a0 127744 128591).bind fun t132 => (if t132 = true then (some 2) else ((duetref20_in.f a0 128640 128767).bind fun t133 => (if t133 = true then (some 2) else ((duetref20_in.f a0 129280 129535).bind fun t134 => (if t134 = true then (some 2) else ((duetref20_in.f a0 131072 262141).bind fun t135 => (if t135 = true then (some 2) else (some 1))))))))))))))))))))) = some r := by rw [if_neg (show ¬ (false = true) by decide)] at H; exact H
            clear H
            have H := H1
            clear H1
            replace H := Option.bind_eq_some_iff.mp H
            obtain ⟨t126, A230, H⟩ := H
            replace H : (if t126 = true then (some 2) else ((duetref20_in.f a0 44032 55203).bind fun t127 => (if t127 = true then (some 2) else ((duetref20_in.f a0 63744 64255).bind fun t128 => (if t128 = true then (some 2) else ((duetref20_in.f a0 65072 65135).bind fun t129 => (if t129 = true then (some 2) else ((duetref20_in.f a0 65281 65376).bind fun t130 => (if t130 = true then (some 2) else ((duetref20_in.f a0 65504 65510).bind fun t131 => (if t131 = true then (some 2) else ((duetref20_in.f a0 127744 128591).bind fun t132 => (if t132 = true then (some 2) else ((duetref20_in.f a0 128640 128767).bind fun t133 => (if t133 = true then (some 2) else ((duetref20_in.f a0 129280 129535).bind fun t134 => (if t134 = true then (some 2) else ((duetref20_in.f a0 131072 262141).bind fun t135 => (if t135 = true then (some 2) else (some 1)))))))))))))))))))) = some r := H
            have A23 := Aside0.mk A230
            clear A230
            by_cases c24 : t126 = true
            · subst c24
              have H1 : (some 2) = some r := by rw [if_pos rfl] at H; exact H
              clear H
              have H := H1
              clear H1
              obtain rfl := Option.some.inj H
              go_wp2_with (first | ((with_reducible refine gate_callee (f := 37) rfl ?_); refine goesL_ (some 38) rfl rfl Tryd.func37 (by kernel_rfl) rfl #[.int .i64 a0, .int .i64 4352, .int .i64 4447] rfl (by (try simp only [List.map_toArray, List.map_cons, List.map_nil]); first | done | rfl | (simp only [List.length_drop, List.length_take]; rfl)) ?_; (with_reducible refine (duetref20_in.calls a0 4352 4447 false _ A19.out).mono ?_); rintro e w' ⟨rfl, ⟨nd, rfl⟩⟩; refine ⟨_, rfl, ?_⟩) | (go_at_call 37; (with_reducible refine (duetref20_in.calls a0 11904 12350 false _ A21.out).mono ?_); rintro e w' ⟨rfl, ⟨nd, rfl⟩⟩) | (go_at_call 37; (with_reducible refine (duetref20_in.calls a0 12353 42191 true _ A23.out).mono ?_); rintro e w' ⟨rfl, ⟨nd, rfl⟩⟩))
              go_ret
              exact ⟨by first | rfl | (simp; done) | (simp [*]; done), by repeat (first | exact Drawn0.refl _ | apply Drawn0.step)⟩
            · replace c24 := Bool.eq_false_iff.mpr c24
              subst c24
              have H1 : ((duetref20_in.f a0 44032 55203).bind fun t127 => (if t127 = true then (some 2) else ((duetref20_in.f a0 63744 64255).bind fun t128 => (if t128 = true then (some 2) else ((duetref20_in.f a0 65072 65135).bind fun t129 => (if t129 = true then (some 2) else ((duetref20_in.f a0 65281 65376).bind fun t130 => (if t130 = true then (some 2) else ((duetref20_in.f a0 65504 65510).bind fun t131 => (if t131 = true then (some 2) else ((duetref20_in.f a0 127744 128591).bind fun t132 => (if t132 = true then (some 2) else ((duetref20_in.f a0 128640 128767).bind fun t133 => (if t133 = true then (some 2) else ((duetref20_in.f a0 129280 129535).bind fun t134 => (if t134 = true then (some 2) else ((duetref20_in.f a0 131072 262141).bind fun t135 => (if t135 = true then (some 2) else (some 1))))))))))))))))))) = some r := by rw [if_neg (show ¬ (false = true) by decide)] at H; exact H
              clear H
              have H := H1
              clear H1
              replace H := Option.bind_eq_some_iff.mp H
              obtain ⟨t127, A250, H⟩ := H
              replace H : (if t127 = true then (some 2) else ((duetref20_in.f a0 63744 64255).bind fun t128 => (if t128 = true then (some 2) else ((duetref20_in.f a0 65072 65135).bind fun t129 => (if t129 = true then (some 2) else ((duetref20_in.f a0 65281 65376).bind fun t130 => (if t130 = true then (some 2) else ((duetref20_in.f a0 65504 65510).bind fun t131 => (if t131 = true then (some 2) else ((duetref20_in.f a0 127744 128591).bind fun t132 => (if t132 = true then (some 2) else ((duetref20_in.f a0 128640 128767).bind fun t133 => (if t133 = true then (some 2) else ((duetref20_in.f a0 129280 129535).bind fun t134 => (if t134 = true then (some 2) else ((duetref20_in.f a0 131072 262141).bind fun t135 => (if t135 = true then (some 2) else (some 1)))))))))))))))))) = some r := H
              have A25 := Aside0.mk A250
              clear A250
              by_cases c26 : t127 = true
              · subst c26
                have H1 : (some 2) = some r := by rw [if_pos rfl] at H; exact H
                clear H
                have H := H1
                clear H1
                obtain rfl := Option.some.inj H
                go_wp2_with (first | ((with_reducible refine gate_callee (f := 37) rfl ?_); refine goesL_ (some 38) rfl rfl Tryd.func37 (by kernel_rfl) rfl #[.int .i64 a0, .int .i64 4352, .int .i64 4447] rfl (by (try simp only [List.map_toArray, List.map_cons, List.map_nil]); first | done | rfl | (simp only [List.length_drop, List.length_take]; rfl)) ?_; (with_reducible refine (duetref20_in.calls a0 4352 4447 false _ A19.out).mono ?_); rintro e w' ⟨rfl, ⟨nd, rfl⟩⟩; refine ⟨_, rfl, ?_⟩) | (go_at_call 37; (with_reducible refine (duetref20_in.calls a0 11904 12350 false _ A21.out).mono ?_); rintro e w' ⟨rfl, ⟨nd, rfl⟩⟩) | (go_at_call 37; (with_reducible refine (duetref20_in.calls a0 12353 42191 false _ A23.out).mono ?_); rintro e w' ⟨rfl, ⟨nd, rfl⟩⟩) | (go_at_call 37; (with_reducible refine (duetref20_in.calls a0 44032 55203 true _ A25.out).mono ?_); rintro e w' ⟨rfl, ⟨nd, rfl⟩⟩))
                go_ret
                exact ⟨by first | rfl | (simp; done) | (simp [*]; done), by repeat (first | exact Drawn0.refl _ | apply Drawn0.step)⟩
              · replace c26 := Bool.eq_false_iff.mpr c26
                subst c26
                have H1 : ((duetref20_in.f a0 63744 64255).bind fun t128 => (if t128 = true then (some 2) else ((duetref20_in.f a0 65072 65135).bind fun t129 => (if t129 = true then (some 2) else ((duetref20_in.f a0 65281 65376).bind fun t130 => (if t130 = true then (some 2) else ((duetref20_in.f a0 65504 65510).bind fun t131 => (if t131 = true then (some 2) else ((duetref20_in.f a0 127744 128591).bind fun t132 => (if t132 = true then (some 2) else ((duetref20_in.f a0 128640 128767).bind fun t133 => (if t133 = true then (some 2) else ((duetref20_in.f a0 129280 129535).bind fun t134 => (if t134 = true then (some 2) else ((duetref20_in.f a0 131072 262141).bind fun t135 => (if t135 = true then (some 2) else (some 1))))))))))))))))) = some r := by rw [if_neg (show ¬ (false = true) by decide)] at H; exact H
                clear H
                have H := H1
                clear H1
                replace H := Option.bind_eq_some_iff.mp H
                obtain ⟨t128, A270, H⟩ := H
                replace H : (if t128 = true then (some 2) else ((duetref20_in.f a0 65072 65135).bind fun t129 => (if t129 = true then (some 2) else ((duetref20_in.f a0 65281 65376).bind fun t130 => (if t130 = true then (some 2) else ((duetref20_in.f a0 65504 65510).bind fun t131 => (if t131 = true then (some 2) else ((duetref20_in.f a0 127744 128591).bind fun t132 => (if t132 = true then (some 2) else ((duetref20_in.f a0 128640 128767).bind fun t133 => (if t133 = true then (some 2) else ((duetref20_in.f a0 129280 129535).bind fun t134 => (if t134 = true then (some 2) else ((duetref20_in.f a0 131072 262141).bind fun t135 => (if t135 = true then (some 2) else (some 1)))))))))))))))) = some r := H
                have A27 := Aside0.mk A270
                clear A270
                by_cases c28 : t128 = true
                · subst c28
                  have H1 : (some 2) = some r := by rw [if_pos rfl] at H; exact H
                  clear H
                  have H := H1
                  clear H1
                  obtain rfl := Option.some.inj H
                  go_wp2_with (first | ((with_reducible refine gate_callee (f := 37) rfl ?_); refine goesL_ (some 38) rfl rfl Tryd.func37 (by kernel_rfl) rfl #[.int .i64 a0, .int .i64 4352, .int .i64 4447] rfl (by (try simp only [List.map_toArray, List.map_cons, List.map_nil]); first | done | rfl | (simp only [List.length_drop, List.length_take]; rfl)) ?_; (with_reducible refine (duetref20_in.calls a0 4352 4447 false _ A19.out).mono ?_); rintro e w' ⟨rfl, ⟨nd, rfl⟩⟩; refine ⟨_, rfl, ?_⟩) | (go_at_call 37; (with_reducible refine (duetref20_in.calls a0 11904 12350 false _ A21.out).mono ?_); rintro e w' ⟨rfl, ⟨nd, rfl⟩⟩) | (go_at_call 37; (with_reducible refine (duetref20_in.calls a0 12353 42191 false _ A23.out).mono ?_); rintro e w' ⟨rfl, ⟨nd, rfl⟩⟩) | (go_at_call 37; (with_reducible refine (duetref20_in.calls a0 44032 55203 false _ A25.out).mono ?_); rintro e w' ⟨rfl, ⟨nd, rfl⟩⟩) | (go_at_call 37; (with_reducible refine (duetref20_in.calls a0 63744 64255 true _ A27.out).mono ?_); rintro e w' ⟨rfl, ⟨nd, rfl⟩⟩))
                  go_ret
                  exact ⟨by first | rfl | (simp; done) | (simp [*]; done), by repeat (first | exact Drawn0.refl _ | apply Drawn0.step)⟩
                · replace c28 := Bool.eq_false_iff.mpr c28
                  subst c28
                  have H1 : ((duetref20_in.f a0 65072 65135).bind fun t129 => (if t129 = true then (some 2) else ((duetref20_in.f a0 65281 65376).bind fun t130 => (if t130 = true then (some 2) else ((duetref20_in.f a0 65504 65510).bind fun t131 => (if t131 = true then (some 2) else ((duetref20_in.f a0 127744 128591).bind fun t132 => (if t132 = true then (some 2) else ((duetref20_in.f a0 128640 128767).bind fun t133 => (if t133 = true then (some 2) else ((duetref20_in.f a0 129280 129535).bind fun t134 => (if t134 = true then (some 2) else ((duetref20_in.f a0 131072 262141).bind fun t135 => (if t135 = true then (some 2) else (some 1))))))))))))))) = some r := by rw [if_neg (show ¬ (false = true) by decide)] at H; exact H
                  clear H
                  have H := H1
                  clear H1
                  replace H := Option.bind_eq_some_iff.mp H
                  obtain ⟨t129, A290, H⟩ := H
                  replace H : (if t129 = true then (some 2) else ((duetref20_in.f a0 65281 65376).bind fun t130 => (if t130 = true then (some 2) else ((duetref20_in.f a0 65504 65510).bind fun t131 => (if t131 = true then (some 2) else ((duetref20_in.f a0 127744 128591).bind fun t132 => (if t132 = true then (some 2) else ((duetref20_in.f a0 128640 128767).bind fun t133 => (if t133 = true then (some 2) else ((duetref20_in.f a0 129280 129535).bind fun t134 => (if t134 = true then (some 2) else ((duetref20_in.f a0 131072 262141).bind fun t135 => (if t135 = true then (some 2) else (some 1)))))))))))))) = some r := H
                  have A29 := Aside0.mk A290
                  clear A290
                  by_cases c30 : t129 = true
                  · subst c30
                    have H1 : (some 2) = some r := by rw [if_pos rfl] at H; exact H
                    clear H
                    have H := H1
                    clear H1
                    obtain rfl := Option.some.inj H
                    go_wp2_with (first | ((with_reducible refine gate_callee (f := 37) rfl ?_); refine goesL_ (some 38) rfl rfl Tryd.func37 (by kernel_rfl) rfl #[.int .i64 a0, .int .i64 4352, .int .i64 4447] rfl (by (try simp only [List.map_toArray, List.map_cons, List.map_nil]); first | done | rfl | (simp only [List.length_drop, List.length_take]; rfl)) ?_; (with_reducible refine (duetref20_in.calls a0 4352 4447 false _ A19.out).mono ?_); rintro e w' ⟨rfl, ⟨nd, rfl⟩⟩; refine ⟨_, rfl, ?_⟩) | (go_at_call 37; (with_reducible refine (duetref20_in.calls a0 11904 12350 false _ A21.out).mono ?_); rintro e w' ⟨rfl, ⟨nd, rfl⟩⟩) | (go_at_call 37; (with_reducible refine (duetref20_in.calls a0 12353 42191 false _ A23.out).mono ?_); rintro e w' ⟨rfl, ⟨nd, rfl⟩⟩) | (go_at_call 37; (with_reducible refine (duetref20_in.calls a0 44032 55203 false _ A25.out).mono ?_); rintro e w' ⟨rfl, ⟨nd, rfl⟩⟩) | (go_at_call 37; (with_reducible refine (duetref20_in.calls a0 63744 64255 false _ A27.out).mono ?_); rintro e w' ⟨rfl, ⟨nd, rfl⟩⟩) | (go_at_call 37; (with_reducible refine (duetref20_in.calls a0 65072 65135 true _ A29.out).mono ?_); rintro e w' ⟨rfl, ⟨nd, rfl⟩⟩))
                    go_ret
                    exact ⟨by first | rfl | (simp; done) | (simp [*]; done), by repeat (first | exact Drawn0.refl _ | apply Drawn0.step)⟩
                  · replace c30 := Bool.eq_false_iff.mpr c30
                    subst c30
                    have H1 : ((duetref20_in.f a0 65281 65376).bind fun t130 => (if t130 = true then (some 2) else ((duetref20_in.f a0 65504 65510).bind fun t131 => (if t131 = true then (some 2) else ((duetref20_in.f a0 127744 128591).bind fun t132 => (if t132 = true then (some 2) else ((duetref20_in.f a0 128640 128767).bind fun t133 => (if t133 = true then (some 2) else ((duetref20_in.f a0 129280 129535).bind fun t134 => (if t134 = true then (some 2) else ((duetref20_in.f a0 131072 262141).bind fun t135 => (if t135 = true then (some 2) else (some 1))))))))))))) = some r := by rw [if_neg (show ¬ (false = true) by decide)] at H; exact H
                    clear H
                    have H := H1
                    clear H1
                    replace H := Option.bind_eq_some_iff.mp H
                    obtain ⟨t130, A310, H⟩ := H
                    replace H : (if t130 = true then (some 2) else ((duetref20_in.f a0 65504 65510).bind fun t131 => (if t131 = true then (some 2) else ((duetref20_in.f a0 127744 128591).bind fun t132 => (if t132 = true then (some 2) else ((duetref20_in.f a0 128640 128767).bind fun t133 => (if t133 = true then (some 2) else ((duetref20_in.f a0 129280 129535).bind fun t134 => (if t134 = true then (some 2) else ((duetref20_in.f a0 131072 262141).bind fun t135 => (if t135 = true then (some 2) else (some 1)))))))))))) = some r := H
                    have A31 := Aside0.mk A310
                    clear A310
                    by_cases c32 : t130 = true
                    · subst c32
                      have H1 : (some 2) = some r := by rw [if_pos rfl] at H; exact H
                      clear H
                      have H := H1
                      clear H1
                      obtain rfl := Option.some.inj H
                      go_wp2_with (first | ((with_reducible refine gate_callee (f := 37) rfl ?_); refine goesL_ (some 38) rfl rfl Tryd.func37 (by kernel_rfl) rfl #[.int .i64 a0, .int .i64 4352, .int .i64 4447] rfl (by (try simp only [List.map_toArray, List.map_cons, List.map_nil]); first | done | rfl | (simp only [List.length_drop, List.length_take]; rfl)) ?_; (with_reducible refine (duetref20_in.calls a0 4352 4447 false _ A19.out).mono ?_); rintro e w' ⟨rfl, ⟨nd, rfl⟩⟩; refine ⟨_, rfl, ?_⟩) | (go_at_call 37; (with_reducible refine (duetref20_in.calls a0 11904 12350 false _ A21.out).mono ?_); rintro e w' ⟨rfl, ⟨nd, rfl⟩⟩) | (go_at_call 37; (with_reducible refine (duetref20_in.calls a0 12353 42191 false _ A23.out).mono ?_); rintro e w' ⟨rfl, ⟨nd, rfl⟩⟩) | (go_at_call 37; (with_reducible refine (duetref20_in.calls a0 44032 55203 false _ A25.out).mono ?_); rintro e w' ⟨rfl, ⟨nd, rfl⟩⟩) | (go_at_call 37; (with_reducible refine (duetref20_in.calls a0 63744 64255 false _ A27.out).mono ?_); rintro e w' ⟨rfl, ⟨nd, rfl⟩⟩) | (go_at_call 37; (with_reducible refine (duetref20_in.calls a0 65072 65135 false _ A29.out).mono ?_); rintro e w' ⟨rfl, ⟨nd, rfl⟩⟩) | (go_at_call 37; (with_reducible refine (duetref20_in.calls a0 65281 65376 true _ A31.out).mono ?_); rintro e w' ⟨rfl, ⟨nd, rfl⟩⟩))
                      go_ret
                      exact ⟨by first | rfl | (simp; done) | (simp [*]; done), by repeat (first | exact Drawn0.refl _ | apply Drawn0.step)⟩
                    · replace c32 := Bool.eq_false_iff.mpr c32
                      subst c32
                      have H1 : ((duetref20_in.f a0 65504 65510).bind fun t131 => (if t131 = true then (some 2) else ((duetref20_in.f a0 127744 128591).bind fun t132 => (if t132 = true then (some 2) else ((duetref20_in.f a0 128640 128767).bind fun t133 => (if t133 = true then (some 2) else ((duetref20_in.f a0 129280 129535).bind fun t134 => (if t134 = true then (some 2) else ((duetref20_in.f a0 131072 262141).bind fun t135 => (if t135 = true then (some 2) else (some 1))))))))))) = some r := by rw [if_neg (show ¬ (false = true) by decide)] at H; exact H
                      clear H
                      have H := H1
                      clear H1
                      replace H := Option.bind_eq_some_iff.mp H
                      obtain ⟨t131, A330, H⟩ := H
                      replace H : (if t131 = true then (some 2) else ((duetref20_in.f a0 127744 128591).bind fun t132 => (if t132 = true then (some 2) else ((duetref20_in.f a0 128640 128767).bind fun t133 => (if t133 = true then (some 2) else ((duetref20_in.f a0 129280 129535).bind fun t134 => (if t134 = true then (some 2) else ((duetref20_in.f a0 131072 262141).bind fun t135 => (if t135 = true then (some 2) else (some 1)))))))))) = some r := H
                      have A33 := Aside0.mk A330
                      clear A330
                      by_cases c34 : t131 = true
                      · subst c34
                        have H1 : (some 2) = some r := by rw [if_pos rfl] at H; exact H
                        clear H
                        have H := H1
                        clear H1
                        obtain rfl := Option.some.inj H
                        go_wp2_with (first | ((with_reducible refine gate_callee (f := 37) rfl ?_); refine goesL_ (some 38) rfl rfl Tryd.func37 (by kernel_rfl) rfl #[.int .i64 a0, .int .i64 4352, .int .i64 4447] rfl (by (try simp only [List.map_toArray, List.map_cons, List.map_nil]); first | done | rfl | (simp only [List.length_drop, List.length_take]; rfl)) ?_; (with_reducible refine (duetref20_in.calls a0 4352 4447 false _ A19.out).mono ?_); rintro e w' ⟨rfl, ⟨nd, rfl⟩⟩; refine ⟨_, rfl, ?_⟩) | (go_at_call 37; (with_reducible refine (duetref20_in.calls a0 11904 12350 false _ A21.out).mono ?_); rintro e w' ⟨rfl, ⟨nd, rfl⟩⟩) | (go_at_call 37; (with_reducible refine (duetref20_in.calls a0 12353 42191 false _ A23.out).mono ?_); rintro e w' ⟨rfl, ⟨nd, rfl⟩⟩) | (go_at_call 37; (with_reducible refine (duetref20_in.calls a0 44032 55203 false _ A25.out).mono ?_); rintro e w' ⟨rfl, ⟨nd, rfl⟩⟩) | (go_at_call 37; (with_reducible refine (duetref20_in.calls a0 63744 64255 false _ A27.out).mono ?_); rintro e w' ⟨rfl, ⟨nd, rfl⟩⟩) | (go_at_call 37; (with_reducible refine (duetref20_in.calls a0 65072 65135 false _ A29.out).mono ?_); rintro e w' ⟨rfl, ⟨nd, rfl⟩⟩) | (go_at_call 37; (with_reducible refine (duetref20_in.calls a0 65281 65376 false _ A31.out).mono ?_); rintro e w' ⟨rfl, ⟨nd, rfl⟩⟩) | (go_at_call 37; (with_reducible refine (duetref20_in.calls a0 65504 65510 true _ A33.out).mono ?_); rintro e w' ⟨rfl, ⟨nd, rfl⟩⟩))
                        go_ret
                        exact ⟨by first | rfl | (simp; done) | (simp [*]; done), by repeat (first | exact Drawn0.refl _ | apply Drawn0.step)⟩
                      · replace c34 := Bool.eq_false_iff.mpr c34
                        subst c34
                        have H1 : ((duetref20_in.f a0 127744 128591).bind fun t132 => (if t132 = true then (some 2) else ((duetref20_in.f a0 128640 128767).bind fun t133 => (if t133 = true then (some 2) else ((duetref20_in.f a0 129280 129535).bind fun t134 => (if t134 = true then (some 2) else ((duetref20_in.f a0 131072 262141).bind fun t135 => (if t135 = true then (some 2) else (some 1))))))))) = some r := by rw [if_neg (show ¬ (false = true) by decide)] at H; exact H
                        clear H
                        have H := H1
                        clear H1
                        replace H := Option.bind_eq_some_iff.mp H
                        obtain ⟨t132, A350, H⟩ := H
                        replace H : (if t132 = true then (some 2) else ((duetref20_in.f a0 128640 128767).bind fun t133 => (if t133 = true then (some 2) else ((duetref20_in.f a0 129280 129535).bind fun t134 => (if t134 = true then (some 2) else ((duetref20_in.f a0 131072 262141).bind fun t135 => (if t135 = true then (some 2) else (some 1)))))))) = some r := H
                        have A35 := Aside0.mk A350
                        clear A350
                        by_cases c36 : t132 = true
                        · subst c36
                          have H1 : (some 2) = some r := by rw [if_pos rfl] at H; exact H
                          clear H
                          have H := H1
                          clear H1
                          obtain rfl := Option.some.inj H
                          go_wp2_with (first | ((with_reducible refine gate_callee (f := 37) rfl ?_); refine goesL_ (some 38) rfl rfl Tryd.func37 (by kernel_rfl) rfl #[.int .i64 a0, .int .i64 4352, .int .i64 4447] rfl (by (try simp only [List.map_toArray, List.map_cons, List.map_nil]); first | done | rfl | (simp only [List.length_drop, List.length_take]; rfl)) ?_; (with_reducible refine (duetref20_in.calls a0 4352 4447 false _ A19.out).mono ?_); rintro e w' ⟨rfl, ⟨nd, rfl⟩⟩; refine ⟨_, rfl, ?_⟩) | (go_at_call 37; (with_reducible refine (duetref20_in.calls a0 11904 12350 false _ A21.out).mono ?_); rintro e w' ⟨rfl, ⟨nd, rfl⟩⟩) | (go_at_call 37; (with_reducible refine (duetref20_in.calls a0 12353 42191 false _ A23.out).mono ?_); rintro e w' ⟨rfl, ⟨nd, rfl⟩⟩) | (go_at_call 37; (with_reducible refine (duetref20_in.calls a0 44032 55203 false _ A25.out).mono ?_); rintro e w' ⟨rfl, ⟨nd, rfl⟩⟩) | (go_at_call 37; (with_reducible refine (duetref20_in.calls a0 63744 64255 false _ A27.out).mono ?_); rintro e w' ⟨rfl, ⟨nd, rfl⟩⟩) | (go_at_call 37; (with_reducible refine (duetref20_in.calls a0 65072 65135 false _ A29.out).mono ?_); rintro e w' ⟨rfl, ⟨nd, rfl⟩⟩) | (go_at_call 37; (with_reducible refine (duetref20_in.calls a0 65281 65376 false _ A31.out).mono ?_); rintro e w' ⟨rfl, ⟨nd, rfl⟩⟩) | (go_at_call 37; (with_reducible refine (duetref20_in.calls a0 65504 65510 false _ A33.out).mono ?_); rintro e w' ⟨rfl, ⟨nd, rfl⟩⟩) | (go_at_call 37; (with_reducible refine (duetref20_in.calls a0 127744 128591 true _ A35.out).mono ?_); rintro e w' ⟨rfl, ⟨nd, rfl⟩⟩))
                          go_ret
                          exact ⟨by first | rfl | (simp; done) | (simp [*]; done), by repeat (first | exact Drawn0.refl _ | apply Drawn0.step)⟩
                        · replace c36 := Bool.eq_false_iff.mpr c36
                          subst c36
                          have H1 : ((duetref20_in.f a0 128640 128767).bind fun t133 => (if t133 = true then (some 2) else ((duetref20_in.f a0 129280 129535).bind fun t134 => (if t134 = true then (some 2) else ((duetref20_in.f a0 131072 262141).bind fun t135 => (if t135 = true then (some 2) else (some 1))))))) = some r := by rw [if_neg (show ¬ (false = true) by decide)] at H; exact H
                          clear H
                          have H := H1
                          clear H1
                          replace H := Option.bind_eq_some_iff.mp H
                          obtain ⟨t133, A370, H⟩ := H
                          replace H : (if t133 = true then (some 2) else ((duetref20_in.f a0 129280 129535).bind fun t134 => (if t134 = true then (some 2) else ((duetref20_in.f a0 131072 262141).bind fun t135 => (if t135 = true then (some 2) else (some 1)))))) = some r := H
                          have A37 := Aside0.mk A370
                          clear A370
                          by_cases c38 : t133 = true
                          · subst c38
                            have H1 : (some 2) = some r := by rw [if_pos rfl] at H; exact H
                            clear H
                            have H := H1
                            clear H1
                            obtain rfl := Option.some.inj H
                            go_wp2_with (first | ((with_reducible refine gate_callee (f := 37) rfl ?_); refine goesL_ (some 38) rfl rfl Tryd.func37 (by kernel_rfl) rfl #[.int .i64 a0, .int .i64 4352, .int .i64 4447] rfl (by (try simp only [List.map_toArray, List.map_cons, List.map_nil]); first | done | rfl | (simp only [List.length_drop, List.length_take]; rfl)) ?_; (with_reducible refine (duetref20_in.calls a0 4352 4447 false _ A19.out).mono ?_); rintro e w' ⟨rfl, ⟨nd, rfl⟩⟩; refine ⟨_, rfl, ?_⟩) | (go_at_call 37; (with_reducible refine (duetref20_in.calls a0 11904 12350 false _ A21.out).mono ?_); rintro e w' ⟨rfl, ⟨nd, rfl⟩⟩) | (go_at_call 37; (with_reducible refine (duetref20_in.calls a0 12353 42191 false _ A23.out).mono ?_); rintro e w' ⟨rfl, ⟨nd, rfl⟩⟩) | (go_at_call 37; (with_reducible refine (duetref20_in.calls a0 44032 55203 false _ A25.out).mono ?_); rintro e w' ⟨rfl, ⟨nd, rfl⟩⟩) | (go_at_call 37; (with_reducible refine (duetref20_in.calls a0 63744 64255 false _ A27.out).mono ?_); rintro e w' ⟨rfl, ⟨nd, rfl⟩⟩) | (go_at_call 37; (with_reducible refine (duetref20_in.calls a0 65072 65135 false _ A29.out).mono ?_); rintro e w' ⟨rfl, ⟨nd, rfl⟩⟩) | (go_at_call 37; (with_reducible refine (duetref20_in.calls a0 65281 65376 false _ A31.out).mono ?_); rintro e w' ⟨rfl, ⟨nd, rfl⟩⟩) | (go_at_call 37; (with_reducible refine (duetref20_in.calls a0 65504 65510 false _ A33.out).mono ?_); rintro e w' ⟨rfl, ⟨nd, rfl⟩⟩) | (go_at_call 37; (with_reducible refine (duetref20_in.calls a0 127744 128591 false _ A35.out).mono ?_); rintro e w' ⟨rfl, ⟨nd, rfl⟩⟩) | (go_at_call 37; (with_reducible refine (duetref20_in.calls a0 128640 128767 true _ A37.out).mono ?_); rintro e w' ⟨rfl, ⟨nd, rfl⟩⟩))
                            go_ret
                            exact ⟨by first | rfl | (simp; done) | (simp [*]; done), by repeat (first | exact Drawn0.refl _ | apply Drawn0.step)⟩
                          · replace c38 := Bool.eq_false_iff.mpr c38
                            subst c38
                            have H1 : ((duetref20_in.f a0 129280 129535).bind fun t134 => (if t134 = true then (some 2) else ((duetref20_in.f a0 131072 262141).bind fun t135 => (if t135 = true then (some 2) else (some 1))))) = some r := by rw [if_neg (show ¬ (false = true) by decide)] at H; exact H
                            clear H
                            have H := H1
                            clear H1
                            replace H := Option.bind_eq_some_iff.mp H
                            obtain ⟨t134, A390, H⟩ := H
                            replace H : (if t134 = true then (some 2) else ((duetref20_in.f a0 131072 262141).bind fun t135 => (if t135 = true then (some 2) else (some 1)))) = some r := H
                            have A39 := Aside0.mk A390
                            clear A390
                            by_cases c40 : t134 = true
                            · subst c40
                              have H1 : (some 2) = some r := by rw [if_pos rfl] at H; exact H
                              clear H
                              have H := H1
                              clear H1
                              obtain rfl := Option.some.inj H
                              go_wp2_with (first | ((with_reducible refine gate_callee (f := 37) rfl ?_); refine goesL_ (some 38) rfl rfl Tryd.func37 (by kernel_rfl) rfl #[.int .i64 a0, .int .i64 4352, .int .i64 4447] rfl (by (try simp only [List.map_toArray, List.map_cons, List.map_nil]); first | done | rfl | (simp only [List.length_drop, List.length_take]; rfl)) ?_; (with_reducible refine (duetref20_in.calls a0 4352 4447 false _ A19.out).mono ?_); rintro e w' ⟨rfl, ⟨nd, rfl⟩⟩; refine ⟨_, rfl, ?_⟩) | (go_at_call 37; (with_reducible refine (duetref20_in.calls a0 11904 12350 false _ A21.out).mono ?_); rintro e w' ⟨rfl, ⟨nd, rfl⟩⟩) | (go_at_call 37; (with_reducible refine (duetref20_in.calls a0 12353 42191 false _ A23.out).mono ?_); rintro e w' ⟨rfl, ⟨nd, rfl⟩⟩) | (go_at_call 37; (with_reducible refine (duetref20_in.calls a0 44032 55203 false _ A25.out).mono ?_); rintro e w' ⟨rfl, ⟨nd, rfl⟩⟩) | (go_at_call 37; (with_reducible refine (duetref20_in.calls a0 63744 64255 false _ A27.out).mono ?_); rintro e w' ⟨rfl, ⟨nd, rfl⟩⟩) | (go_at_call 37; (with_reducible refine (duetref20_in.calls a0 65072 65135 false _ A29.out).mono ?_); rintro e w' ⟨rfl, ⟨nd, rfl⟩⟩) | (go_at_call 37; (with_reducible refine (duetref20_in.calls a0 65281 65376 false _ A31.out).mono ?_); rintro e w' ⟨rfl, ⟨nd, rfl⟩⟩) | (go_at_call 37; (with_reducible refine (duetref20_in.calls a0 65504 65510 false _ A33.out).mono ?_); rintro e w' ⟨rfl, ⟨nd, rfl⟩⟩) | (go_at_call 37; (with_reducible refine (duetref20_in.calls a0 127744 128591 false _ A35.out).mono ?_); rintro e w' ⟨rfl, ⟨nd, rfl⟩⟩) | (go_at_call 37; (with_reducible refine (duetref20_in.calls a0 128640 128767 false _ A37.out).mono ?_); rintro e w' ⟨rfl, ⟨nd, rfl⟩⟩) | (go_at_call 37; (with_reducible refine (duetref20_in.calls a0 129280 129535 true _ A39.out).mono ?_); rintro e w' ⟨rfl, ⟨nd, rfl⟩⟩))
                              go_ret
                              exact ⟨by first | rfl | (simp; done) | (simp [*]; done), by repeat (first | exact Drawn0.refl _ | apply Drawn0.step)⟩
                            · replace c40 := Bool.eq_false_iff.mpr c40
                              subst c40
                              have H1 : ((duetref20_in.f a0 131072 262141).bind fun t135 => (if t135 = true then (some 2) else (some 1))) = some r := by rw [if_neg (show ¬ (false = true) by decide)] at H; exact H
                              clear H
                              have H := H1
                              clear H1
                              replace H := Option.bind_eq_some_iff.mp H
                              obtain ⟨t135, A410, H⟩ := H
                              replace H : (if t135 = true then (some 2) else (some 1)) = some r := H
                              have A41 := Aside0.mk A410
                              clear A410
                              by_cases c42 : t135 = true
                              · subst c42
                                have H1 : (some 2) = some r := by rw [if_pos rfl] at H; exact H
                                clear H
                                have H := H1
                                clear H1
                                obtain rfl := Option.some.inj H
                                go_wp2_with (first | ((with_reducible refine gate_callee (f := 37) rfl ?_); refine goesL_ (some 38) rfl rfl Tryd.func37 (by kernel_rfl) rfl #[.int .i64 a0, .int .i64 4352, .int .i64 4447] rfl (by (try simp only [List.map_toArray, List.map_cons, List.map_nil]); first | done | rfl | (simp only [List.length_drop, List.length_take]; rfl)) ?_; (with_reducible refine (duetref20_in.calls a0 4352 4447 false _ A19.out).mono ?_); rintro e w' ⟨rfl, ⟨nd, rfl⟩⟩; refine ⟨_, rfl, ?_⟩) | (go_at_call 37; (with_reducible refine (duetref20_in.calls a0 11904 12350 false _ A21.out).mono ?_); rintro e w' ⟨rfl, ⟨nd, rfl⟩⟩) | (go_at_call 37; (with_reducible refine (duetref20_in.calls a0 12353 42191 false _ A23.out).mono ?_); rintro e w' ⟨rfl, ⟨nd, rfl⟩⟩) | (go_at_call 37; (with_reducible refine (duetref20_in.calls a0 44032 55203 false _ A25.out).mono ?_); rintro e w' ⟨rfl, ⟨nd, rfl⟩⟩) | (go_at_call 37; (with_reducible refine (duetref20_in.calls a0 63744 64255 false _ A27.out).mono ?_); rintro e w' ⟨rfl, ⟨nd, rfl⟩⟩) | (go_at_call 37; (with_reducible refine (duetref20_in.calls a0 65072 65135 false _ A29.out).mono ?_); rintro e w' ⟨rfl, ⟨nd, rfl⟩⟩) | (go_at_call 37; (with_reducible refine (duetref20_in.calls a0 65281 65376 false _ A31.out).mono ?_); rintro e w' ⟨rfl, ⟨nd, rfl⟩⟩) | (go_at_call 37; (with_reducible refine (duetref20_in.calls a0 65504 65510 false _ A33.out).mono ?_); rintro e w' ⟨rfl, ⟨nd, rfl⟩⟩) | (go_at_call 37; (with_reducible refine (duetref20_in.calls a0 127744 128591 false _ A35.out).mono ?_); rintro e w' ⟨rfl, ⟨nd, rfl⟩⟩) | (go_at_call 37; (with_reducible refine (duetref20_in.calls a0 128640 128767 false _ A37.out).mono ?_); rintro e w' ⟨rfl, ⟨nd, rfl⟩⟩) | (go_at_call 37; (with_reducible refine (duetref20_in.calls a0 129280 129535 false _ A39.out).mono ?_); rintro e w' ⟨rfl, ⟨nd, rfl⟩⟩) | (go_at_call 37; (with_reducible refine (duetref20_in.calls a0 131072 262141 true _ A41.out).mono ?_); rintro e w' ⟨rfl, ⟨nd, rfl⟩⟩))
                                go_ret
                                exact ⟨by first | rfl | (simp; done) | (simp [*]; done), by repeat (first | exact Drawn0.refl _ | apply Drawn0.step)⟩
                              · replace c42 := Bool.eq_false_iff.mpr c42
                                subst c42
                                have H1 : (some 1) = some r := by rw [if_neg (show ¬ (false = true) by decide)] at H; exact H
                                clear H
                                have H := H1
                                clear H1
                                obtain rfl := Option.some.inj H
                                go_wp2_with (first | ((with_reducible refine gate_callee (f := 37) rfl ?_); refine goesL_ (some 38) rfl rfl Tryd.func37 (by kernel_rfl) rfl #[.int .i64 a0, .int .i64 4352, .int .i64 4447] rfl (by (try simp only [List.map_toArray, List.map_cons, List.map_nil]); first | done | rfl | (simp only [List.length_drop, List.length_take]; rfl)) ?_; (with_reducible refine (duetref20_in.calls a0 4352 4447 false _ A19.out).mono ?_); rintro e w' ⟨rfl, ⟨nd, rfl⟩⟩; refine ⟨_, rfl, ?_⟩) | (go_at_call 37; (with_reducible refine (duetref20_in.calls a0 11904 12350 false _ A21.out).mono ?_); rintro e w' ⟨rfl, ⟨nd, rfl⟩⟩) | (go_at_call 37; (with_reducible refine (duetref20_in.calls a0 12353 42191 false _ A23.out).mono ?_); rintro e w' ⟨rfl, ⟨nd, rfl⟩⟩) | (go_at_call 37; (with_reducible refine (duetref20_in.calls a0 44032 55203 false _ A25.out).mono ?_); rintro e w' ⟨rfl, ⟨nd, rfl⟩⟩) | (go_at_call 37; (with_reducible refine (duetref20_in.calls a0 63744 64255 false _ A27.out).mono ?_); rintro e w' ⟨rfl, ⟨nd, rfl⟩⟩) | (go_at_call 37; (with_reducible refine (duetref20_in.calls a0 65072 65135 false _ A29.out).mono ?_); rintro e w' ⟨rfl, ⟨nd, rfl⟩⟩) | (go_at_call 37; (with_reducible refine (duetref20_in.calls a0 65281 65376 false _ A31.out).mono ?_); rintro e w' ⟨rfl, ⟨nd, rfl⟩⟩) | (go_at_call 37; (with_reducible refine (duetref20_in.calls a0 65504 65510 false _ A33.out).mono ?_); rintro e w' ⟨rfl, ⟨nd, rfl⟩⟩) | (go_at_call 37; (with_reducible refine (duetref20_in.calls a0 127744 128591 false _ A35.out).mono ?_); rintro e w' ⟨rfl, ⟨nd, rfl⟩⟩) | (go_at_call 37; (with_reducible refine (duetref20_in.calls a0 128640 128767 false _ A37.out).mono ?_); rintro e w' ⟨rfl, ⟨nd, rfl⟩⟩) | (go_at_call 37; (with_reducible refine (duetref20_in.calls a0 129280 129535 false _ A39.out).mono ?_); rintro e w' ⟨rfl, ⟨nd, rfl⟩⟩) | (go_at_call 37; (with_reducible refine (duetref20_in.calls a0 131072 262141 false _ A41.out).mono ?_); rintro e w' ⟨rfl, ⟨nd, rfl⟩⟩))
                                go_ret
                                exact ⟨by first | rfl | (simp; done) | (simp [*]; done), by repeat (first | exact Drawn0.refl _ | apply Drawn0.step)⟩

/-! ### duetref21_step: function 28 -/
def duetref21_step.f (a0_0 : Int) (a0_1 : Int) (a1 : Int) (a2 : Int) : Option (Int × Int) := if (wrap64 (a0_1 + a1)) > a2 then (some (wrap64 (a0_0 + 1), 0)) else (some (a0_0, a0_1))
set_option maxHeartbeats 8000000 in
set_option maxRecDepth 100000 in
theorem duetref21_step.calls (a0_0 : Int) (a0_1 : Int) (a1 : Int) (a2 : Int) (r1 : Int) (r2 : Int) (w : World) (h : duetref21_step.f a0_0 a0_1 a1 a2 = some (r1, r2)) :
    Calls Tryd.prog 28 #[.agg #[.int .i64 a0_0, .int .i64 a0_1], .int .i64 a1, .int .i64 a2] w fun e w' => e = .returned (.agg #[.int .i64 r1, .int .i64 r2]) ∧ Below w.heap.size w w' := by
  have hu58 := Tryd.underlying58
  have HB := Aside0.mk (Below.refl w.heap.size w)
  have H : (if (wrap64 (a0_1 + a1)) > a2 then (some (wrap64 (a0_0 + 1), 0)) else (some (a0_0, a0_1))) = some (r1, r2) := h
  clear h
  by_cases c4 : (wrap64 (a0_1 + a1)) > a2
  · rw [if_pos c4] at H
    have c4b0 : decide (a2 < (wrap64 (a0_1 + a1))) = true := decide_eq_true c4
    clear c4
    simp only [Option.some.injEq, Prod.mk.injEq] at H
    obtain ⟨rfl, rfl⟩ := H
    go_enter Tryd.func28, Tryd.ntmps28
    go_wp2_with (first | ((with_reducible refine gate_dst (N := 3) rfl ?_); refine box_event ?hg (N := 3) ?hd (cs := #[.int .i64 a0_0, .int .i64 a0_1]) (t := 58) ?hr ?_; (case hd => rfl); (case hg => rfl); (case hr => first | (go_simp; done) | (go_simp; rfl)); intro gb136 hg w5 hbox hb; have n0_ := Aside0.mk (below_step (by repeat (first | (with_reducible first | exact HB.out | apply below_alloc | apply pw_below_drewN | apply below_drew1) | exact HB.out)) hb); have n1_ := Aside0.mk (hbox); have n2_ := Aside0.mk ((by rw [hg]; exact (below_size (by repeat (first | (with_reducible first | exact HB.out | apply below_alloc | apply pw_below_drewN | apply below_drew1) | exact HB.out))) : w.heap.size ≤ gb136)); have n3_ := Aside0.mk ((by rw [hg]; exact (below_size (by repeat (first | (with_reducible first | exact HB.out | apply below_alloc | apply pw_below_drewN | apply below_drew1) | exact HB.out))) : w.heap.size ≤ gb136)); clear HB; have HB := n0_; have BK136 := n1_; have GW136 := n2_; have GE136 := n3_; clear n0_ n1_ n2_ n3_; clear hb hbox hg) | ((with_reducible refine gate_dst (N := 6) rfl ?_); refine box_event ?hg (N := 6) ?hd (cs := #[.int .i64 0, .int .i64 0]) (t := 58) ?hr ?_; (case hd => rfl); (case hg => rfl); (case hr => first | (go_simp; done) | (go_simp; rfl)); intro gb137 hg w6 hbox hb; have n0_ := Aside0.mk (blk_below (g := gb136) (o := .cells #[.int .i64 a0_0, .int .i64 a0_1] 58 (0, 0)) (by (with_reducible repeat (first | refine blk_drewN ?_ _ | refine blk_drew ?_ | refine blk_alloc ?_ _)); exact BK136.out) hb); have n1_ := Aside0.mk (below_step (by repeat (first | (with_reducible first | exact HB.out | apply below_alloc | apply pw_below_drewN | apply below_drew1 | refine below_set ?_ GE136.out) | exact HB.out)) hb); have n2_ := Aside0.mk (hbox); have n3_ := Aside0.mk ((by rw [hg]; exact (below_size (by repeat (first | (with_reducible first | exact HB.out | apply below_alloc | apply pw_below_drewN | apply below_drew1 | refine below_set ?_ GE136.out) | exact HB.out))) : w.heap.size ≤ gb137)); have n4_ := Aside0.mk ((by rw [hg]; exact (below_size (by repeat (first | (with_reducible first | exact HB.out | apply below_alloc | apply pw_below_drewN | apply below_drew1 | refine below_set ?_ GE136.out) | exact HB.out))) : w.heap.size ≤ gb137)); have n5_ := Aside0.mk ((by rw [hg]; exact Nat.ne_of_lt (blk_lt (g := gb136) (o := .cells #[.int .i64 a0_0, .int .i64 a0_1] 58 (0, 0)) (by (with_reducible repeat (first | refine blk_drewN ?_ _ | refine blk_drew ?_ | refine blk_alloc ?_ _)); exact BK136.out)) : gb136 ≠ gb137)); have n6_ := Aside0.mk ((by rw [hg]; exact Nat.ne_of_gt (blk_lt (g := gb136) (o := .cells #[.int .i64 a0_0, .int .i64 a0_1] 58 (0, 0)) (by (with_reducible repeat (first | refine blk_drewN ?_ _ | refine blk_drew ?_ | refine blk_alloc ?_ _)); exact BK136.out)) : gb137 ≠ gb136)); clear BK136; clear HB; have BK136 := n0_; have HB := n1_; have BK137 := n2_; have GW137 := n3_; have GE137 := n4_; have NB136_137 := n5_; have NB137_136 := n6_; clear n0_ n1_ n2_ n3_ n4_ n5_ n6_; clear hb hbox hg; have hnb7 := NB136_137.out; have hnc7 := NB137_136.out; have hcz8_0 : w6.cell? ⟨gb136, 0, none⟩ = some (.int .i64 a0_0) := (blk_cell BK136.out 0).trans rfl; have hcz8_1 : w6.cell? ⟨gb136, 1, none⟩ = some (.int .i64 a0_1) := (blk_cell BK136.out 1).trans rfl; have hfz8_0 := blk_frozen BK136.out 0; have hfz8_1 := blk_frozen BK136.out 1; have hcz9_0 : w6.cell? ⟨gb137, 0, none⟩ = some (.int .i64 0) := (blk_cell BK137.out 0).trans rfl; have hcz9_1 : w6.cell? ⟨gb137, 1, none⟩ = some (.int .i64 0) := (blk_cell BK137.out 1).trans rfl; have hfz9_0 := blk_frozen BK137.out 0; have hfz9_1 := blk_frozen BK137.out 1))
    refine bodyPost_ret (results_cell_row rfl _ _ gb137 58 #[.int .i64 (wrap64 (a0_0 + 1)), .int .i64 0] (0, 0) _ rfl (by (with_reducible repeat (first | refine blk_drewN ?_ _ | refine blk_drew ?_ | refine blk_alloc ?_ _)); refine blk_put (cs := #[.int .i64 (wrap64 (a0_0 + 1)), .int .i64 0]) ?_ 1 _ rfl; (with_reducible repeat (first | refine blk_drewN ?_ _ | refine blk_drew ?_ | refine blk_alloc ?_ _)); refine blk_put (cs := #[.int .i64 0, .int .i64 0]) ?_ 0 _ rfl; (with_reducible repeat (first | refine blk_drewN ?_ _ | refine blk_drew ?_ | refine blk_alloc ?_ _)); exact BK137.out) Tryd.underlying58 rfl (by kernel_rfl)) rfl ?_
    exact ⟨by first | rfl | (simp [errW_none, errW_some] <;> rfl) | (simp [*, errW_none, errW_some] <;> rfl), by repeat (first | (with_reducible first | exact HB.out | apply below_alloc | apply pw_below_drewN | apply below_drew1 | refine below_set ?_ GE136.out | refine below_set ?_ GE137.out) | exact HB.out)⟩
  · rw [if_neg c4] at H
    have c4b0 : decide (a2 < (wrap64 (a0_1 + a1))) = false := decide_eq_false c4
    clear c4
    simp only [Option.some.injEq, Prod.mk.injEq] at H
    obtain ⟨rfl, rfl⟩ := H
    go_enter Tryd.func28, Tryd.ntmps28
    go_wp2_with (first | ((with_reducible refine gate_dst (N := 3) rfl ?_); refine box_event ?hg (N := 3) ?hd (cs := #[.int .i64 a0_0, .int .i64 a0_1]) (t := 58) ?hr ?_; (case hd => rfl); (case hg => rfl); (case hr => first | (go_simp; done) | (go_simp; rfl)); intro gb136 hg w10 hbox hb; have n0_ := Aside0.mk (below_step (by repeat (first | (with_reducible first | exact HB.out | apply below_alloc | apply pw_below_drewN | apply below_drew1) | exact HB.out)) hb); have n1_ := Aside0.mk (hbox); have n2_ := Aside0.mk ((by rw [hg]; exact (below_size (by repeat (first | (with_reducible first | exact HB.out | apply below_alloc | apply pw_below_drewN | apply below_drew1) | exact HB.out))) : w.heap.size ≤ gb136)); have n3_ := Aside0.mk ((by rw [hg]; exact (below_size (by repeat (first | (with_reducible first | exact HB.out | apply below_alloc | apply pw_below_drewN | apply below_drew1) | exact HB.out))) : w.heap.size ≤ gb136)); clear HB; have HB := n0_; have BK136 := n1_; have GW136 := n2_; have GE136 := n3_; clear n0_ n1_ n2_ n3_; clear hb hbox hg) | ((with_reducible refine gate_dst (N := 6) rfl ?_); refine box_event ?hg (N := 6) ?hd (cs := #[.int .i64 0, .int .i64 0]) (t := 58) ?hr ?_; (case hd => rfl); (case hg => rfl); (case hr => first | (go_simp; done) | (go_simp; rfl)); intro gb137 hg w11 hbox hb; have n0_ := Aside0.mk (blk_below (g := gb136) (o := .cells #[.int .i64 a0_0, .int .i64 a0_1] 58 (0, 0)) (by (with_reducible repeat (first | refine blk_drewN ?_ _ | refine blk_drew ?_ | refine blk_alloc ?_ _)); exact BK136.out) hb); have n1_ := Aside0.mk (below_step (by repeat (first | (with_reducible first | exact HB.out | apply below_alloc | apply pw_below_drewN | apply below_drew1 | refine below_set ?_ GE136.out) | exact HB.out)) hb); have n2_ := Aside0.mk (hbox); have n3_ := Aside0.mk ((by rw [hg]; exact (below_size (by repeat (first | (with_reducible first | exact HB.out | apply below_alloc | apply pw_below_drewN | apply below_drew1 | refine below_set ?_ GE136.out) | exact HB.out))) : w.heap.size ≤ gb137)); have n4_ := Aside0.mk ((by rw [hg]; exact (below_size (by repeat (first | (with_reducible first | exact HB.out | apply below_alloc | apply pw_below_drewN | apply below_drew1 | refine below_set ?_ GE136.out) | exact HB.out))) : w.heap.size ≤ gb137)); have n5_ := Aside0.mk ((by rw [hg]; exact Nat.ne_of_lt (blk_lt (g := gb136) (o := .cells #[.int .i64 a0_0, .int .i64 a0_1] 58 (0, 0)) (by (with_reducible repeat (first | refine blk_drewN ?_ _ | refine blk_drew ?_ | refine blk_alloc ?_ _)); exact BK136.out)) : gb136 ≠ gb137)); have n6_ := Aside0.mk ((by rw [hg]; exact Nat.ne_of_gt (blk_lt (g := gb136) (o := .cells #[.int .i64 a0_0, .int .i64 a0_1] 58 (0, 0)) (by (with_reducible repeat (first | refine blk_drewN ?_ _ | refine blk_drew ?_ | refine blk_alloc ?_ _)); exact BK136.out)) : gb137 ≠ gb136)); clear BK136; clear HB; have BK136 := n0_; have HB := n1_; have BK137 := n2_; have GW137 := n3_; have GE137 := n4_; have NB136_137 := n5_; have NB137_136 := n6_; clear n0_ n1_ n2_ n3_ n4_ n5_ n6_; clear hb hbox hg; have hnb12 := NB136_137.out; have hnc12 := NB137_136.out; have hcz13_0 : w11.cell? ⟨gb136, 0, none⟩ = some (.int .i64 a0_0) := (blk_cell BK136.out 0).trans rfl; have hcz13_1 : w11.cell? ⟨gb136, 1, none⟩ = some (.int .i64 a0_1) := (blk_cell BK136.out 1).trans rfl; have hfz13_0 := blk_frozen BK136.out 0; have hfz13_1 := blk_frozen BK136.out 1; have hcz14_0 : w11.cell? ⟨gb137, 0, none⟩ = some (.int .i64 0) := (blk_cell BK137.out 0).trans rfl; have hcz14_1 : w11.cell? ⟨gb137, 1, none⟩ = some (.int .i64 0) := (blk_cell BK137.out 1).trans rfl; have hfz14_0 := blk_frozen BK137.out 0; have hfz14_1 := blk_frozen BK137.out 1))
    refine bodyPost_ret (results_cell_row rfl _ _ gb137 58 #[.int .i64 a0_0, .int .i64 a0_1] (0, 0) _ rfl (by (with_reducible repeat (first | refine blk_drewN ?_ _ | refine blk_drew ?_ | refine blk_alloc ?_ _)); refine blk_put (cs := #[.int .i64 a0_0, .int .i64 0]) ?_ 1 _ rfl; (with_reducible repeat (first | refine blk_drewN ?_ _ | refine blk_drew ?_ | refine blk_alloc ?_ _)); refine blk_put (cs := #[.int .i64 0, .int .i64 0]) ?_ 0 _ rfl; (with_reducible repeat (first | refine blk_drewN ?_ _ | refine blk_drew ?_ | refine blk_alloc ?_ _)); exact BK137.out) Tryd.underlying58 rfl (by kernel_rfl)) rfl ?_
    exact ⟨by first | rfl | (simp [errW_none, errW_some] <;> rfl) | (simp [*, errW_none, errW_some] <;> rfl), by repeat (first | (with_reducible first | exact HB.out | apply below_alloc | apply pw_below_drewN | apply below_drew1 | refine below_set ?_ GE136.out | refine below_set ?_ GE137.out) | exact HB.out)⟩

/-! ### duetref21_behind: function 26 -/
def duetref21_behind.l0 : Nat → Int → List Int → Int → Int → Int → Option (Int × Int)
  | 0, _, _, _, _, _ => none
  | k + 1, x0, x2, x7, x139000, x139001 => if x7 < (x2.length : Int) then (if 0 ≤ x7 then ((duetref20_Width.f k (rd x2 x7)).bind fun t141 => (if t141 > 0 then ((duetref21_step.f x139000 x139001 t141 x0).bind fun bt142 => (duetref21_behind.l0 k x0 x2 (wrap64 (x7 + 1)) bt142.1 (wrap64 (bt142.2 + t141)))) else (duetref21_behind.l0 k x0 x2 (wrap64 (x7 + 1)) x139000 x139001))) else (none)) else (some (x139000, x139001))
def duetref21_behind.f (k : Nat) (a0 : Int) (a1_0 : Int) (a1_1 : Int) (l2 : List Int) : Option (Int × Int) := duetref21_behind.l0 k a0 l2 0 a1_0 a1_1
theorem duetref21_behind.mono_l : ∀ k, (∀ y0 y1 y2 y3 y4, LeO (duetref21_behind.l0 k y0 y1 y2 y3 y4) (duetref21_behind.l0 (k + 1) y0 y1 y2 y3 y4))
  | 0 => fun _ _ _ _ _ r h => by simp [duetref21_behind.l0] at h
  | k + 1 => by
    have ih0 := duetref21_behind.mono_l k
    · intro y0 y1 y2 y3 y4
      unfold duetref21_behind.l0
      repeat' first
      | (with_reducible exact ih0 _ _ _ _ _)
      | (with_reducible exact duetref20_Width.mono _ _)
      | (with_reducible exact LeO.refl _)
      | (with_reducible exact LeO.none _)
      | (with_reducible refine LeO.ite ?_ ?_)
      | (with_reducible refine LeO.bind ?_ (fun _ => ?_))
      | exact ih0 _ _ _ _ _
      | exact duetref20_Width.mono _ _
      | exact LeO.none _
      | refine LeO.ite ?_ ?_
      | refine LeO.bind ?_ (fun _ => ?_)
theorem duetref21_behind.mono : ∀ a0 a1 a2 a3 k, LeO (duetref21_behind.f k a0 a1 a2 a3) (duetref21_behind.f (k + 1) a0 a1 a2 a3) := by
  intro a0 a1 a2 a3 k
  have ih0 := duetref21_behind.mono_l k
  unfold duetref21_behind.f
  repeat' first
      | (with_reducible exact ih0 _ _ _ _ _)
      | (with_reducible exact duetref20_Width.mono _ _)
      | (with_reducible exact LeO.refl _)
      | (with_reducible exact LeO.none _)
      | (with_reducible refine LeO.ite ?_ ?_)
      | (with_reducible refine LeO.bind ?_ (fun _ => ?_))
      | exact ih0 _ _ _ _ _
      | exact duetref20_Width.mono _ _
      | exact LeO.none _
      | refine LeO.ite ?_ ?_
      | refine LeO.bind ?_ (fun _ => ?_)
set_option maxHeartbeats 8000000 in
set_option maxRecDepth 100000 in
theorem duetref21_behind.calls (k : Nat) (a0 : Int) (a1_0 : Int) (a1_1 : Int) (A2 : Option Addr) (c2 : Nat) (l2 : List Int) (r1 : Int) (r2 : Int) (w : World) (hr2 : Kd.C (Kd.int .i64) w A2 l2.length l2) (hc2 : l2.length ≤ c2) (h : duetref21_behind.f k a0 a1_0 a1_1 l2 = some (r1, r2)) :
    Calls Tryd.prog 26 #[.int .i64 a0, .agg #[.int .i64 a1_0, .int .i64 a1_1], .slice A2 l2.length c2] w fun e w' => e = .returned (.agg #[.int .i64 r1, .int .i64 r2]) ∧ Below w.heap.size w w' := by
  have hu58 := Tryd.underlying58
  have HR2 := Aside0.mk hr2
  have HC2 := Aside0.mk hc2
  clear hr2 hc2
  have HB := Aside0.mk (Below.refl w.heap.size w)
  have H : (duetref21_behind.l0 k a0 l2 0 a1_0 a1_1) = some (r1, r2) := h
  clear h
  have H' := Aside0.mk H
  clear H
  go_enter Tryd.func26, Tryd.ntmps26
  go_wp2_with (first | ((with_reducible refine gate_dst (N := 4) rfl ?_); refine box_event ?hg (N := 4) ?hd (cs := #[.int .i64 a1_0, .int .i64 a1_1]) (t := 58) ?hr ?_; (case hd => rfl); (case hg => rfl); (case hr => first | (go_simp; done) | (go_simp; rfl)); intro gb138 hg w4 hbox hb; have n0_ := Aside0.mk (below_step (by repeat (first | (with_reducible first | exact HB.out | apply below_alloc | apply pw_below_drewN | apply below_drew1) | exact HB.out)) hb); have n1_ := Aside0.mk (hbox); have n2_ := Aside0.mk ((by rw [hg]; exact (below_size (by repeat (first | (with_reducible first | exact HB.out | apply below_alloc | apply pw_below_drewN | apply below_drew1) | exact HB.out))) : w.heap.size ≤ gb138)); have n3_ := Aside0.mk ((by rw [hg]; exact (below_size (by repeat (first | (with_reducible first | exact HB.out | apply below_alloc | apply pw_below_drewN | apply below_drew1) | exact HB.out))) : w.heap.size ≤ gb138)); clear HB; have HB := n0_; have BK138 := n1_; have GW138 := n2_; have GE138 := n3_; clear n0_ n1_ n2_ n3_; clear hb hbox hg) | ((with_reducible refine gate_dst (N := 6) rfl ?_); refine box_event ?hg (N := 6) ?hd (cs := #[.int .i64 0, .int .i64 0]) (t := 58) ?hr ?_; (case hd => rfl); (case hg => rfl); (case hr => first | (go_simp; done) | (go_simp; rfl)); intro gb139 hg w5 hbox hb; have n0_ := Aside0.mk (blk_below (g := gb138) (o := .cells #[.int .i64 a1_0, .int .i64 a1_1] 58 (0, 0)) (by (with_reducible repeat (first | refine blk_drewN ?_ _ | refine blk_drew ?_ | refine blk_alloc ?_ _)); exact BK138.out) hb); have n1_ := Aside0.mk (below_step (by repeat (first | (with_reducible first | exact HB.out | apply below_alloc | apply pw_below_drewN | apply below_drew1 | refine below_set ?_ GE138.out) | exact HB.out)) hb); have n2_ := Aside0.mk (hbox); have n3_ := Aside0.mk ((by rw [hg]; exact (below_size (by repeat (first | (with_reducible first | exact HB.out | apply below_alloc | apply pw_below_drewN | apply below_drew1 | refine below_set ?_ GE138.out) | exact HB.out))) : w.heap.size ≤ gb139)); have n4_ := Aside0.mk ((by rw [hg]; exact (below_size (by repeat (first | (with_reducible first | exact HB.out | apply below_alloc | apply pw_below_drewN | apply below_drew1 | refine below_set ?_ GE138.out) | exact HB.out))) : w.heap.size ≤ gb139)); have n5_ := Aside0.mk ((by rw [hg]; exact Nat.ne_of_lt (blk_lt (g := gb138) (o := .cells #[.int .i64 a1_0, .int .i64 a1_1] 58 (0, 0)) (by (with_reducible repeat (first | refine blk_drewN ?_ _ | refine blk_drew ?_ | refine blk_alloc ?_ _)); exact BK138.out)) : gb138 ≠ gb139)); have n6_ := Aside0.mk ((by rw [hg]; exact Nat.ne_of_gt (blk_lt (g := gb138) (o := .cells #[.int .i64 a1_0, .int .i64 a1_1] 58 (0, 0)) (by (with_reducible repeat (first | refine blk_drewN ?_ _ | refine blk_drew ?_ | refine blk_alloc ?_ _)); exact BK138.out)) : gb139 ≠ gb138)); clear BK138; clear HB; have BK138 := n0_; have HB := n1_; have BK139 := n2_; have GW139 := n3_; have GE139 := n4_; have NB138_139 := n5_; have NB139_138 := n6_; clear n0_ n1_ n2_ n3_ n4_ n5_ n6_; clear hb hbox hg))
  go_loopg [7] k (fun kq v7 w' => ∃ (x7_1 : Int) (x139000_1 : Int) (x139001_1 : Int), v7 = .int .i64 x7_1 ∧ Aside0 (duetref21_behind.l0 kq a0 l2 x7_1 x139000_1 x139001_1 = some (r1, r2)) ∧ Aside0 (kq ≤ k) ∧ Aside0 (w'.heap[gb138]? = some (.cells #[.int .i64 x139000_1, .int .i64 x139001_1] 58 (0, 0))) ∧ Aside0 (w'.heap[gb139]? = some (.cells #[.int .i64 0, .int .i64 0] 58 (0, 0))) ∧ Aside0 (Below w.heap.size w w'))
  case atStart => exact ⟨(0), (a1_0), (a1_1), (by first | rfl | (simp; done) | (simp [*]; done)), H', ⟨Nat.le_refl _⟩, ⟨by (with_reducible repeat (first | refine blk_drewN ?_ _ | refine blk_drew ?_ | refine blk_alloc ?_ _)); exact BK138.out⟩, ⟨by (with_reducible repeat (first | refine blk_drewN ?_ _ | refine blk_drew ?_ | refine blk_alloc ?_ _)); exact BK139.out⟩, ⟨by repeat (first | (with_reducible first | exact HB.out | apply below_alloc | apply pw_below_drewN | apply below_drew1 | refine below_set ?_ GE138.out | refine below_set ?_ GE139.out) | exact HB.out)⟩⟩
  case round =>
    clear H'
    try clear c2
    try clear p2
    obtain ⟨x7_1, x139000_1, x139001_1, rfl, HA, HK1, BK138, BK139, HB⟩ := hrel
    cases gk with
    | zero => exact absurd HA.out (by simp [duetref21_behind.l0])
    | succ k1 =>
      have H := HA.out
      clear HA
      simp only [duetref21_behind.l0] at H
      by_cases c6 : x7_1 < (l2.length : Int)
      · rw [if_pos c6] at H
        have c6b0 : decide (x7_1 < (l2.length : Int)) = true := decide_eq_true c6
        clear c6
        by_cases c7 : 0 ≤ x7_1
        · rw [if_pos c7] at H
          have c7b0 : decide (0 ≤ x7_1) = true := decide_eq_true c7
          clear c7
          replace H := Option.bind_eq_some_iff.mp H
          obtain ⟨t141, A80, H⟩ := H
          replace H : (if t141 > 0 then ((duetref21_step.f x139000_1 x139001_1 t141 a0).bind fun bt142 => (duetref21_behind.l0 k1 a0 l2 (wrap64 (x7_1 + 1)) bt142.1 (wrap64 (bt142.2 + t141)))) else (duetref21_behind.l0 k1 a0 l2 (wrap64 (x7_1 + 1)) x139000_1 x139001_1)) = some (r1, r2) := H
          have A8 := Aside0.mk A80
          clear A80
          by_cases c9 : t141 > 0
          · rw [if_pos c9] at H
            have c9b0 : decide (0 < t141) = true := decide_eq_true c9
            clear c9
            replace H := Option.bind_eq_some_iff.mp H
            obtain ⟨⟨t142, t143⟩, A100, H⟩ := H
            replace H : (duetref21_behind.l0 k1 a0 l2 (wrap64 (x7_1 + 1)) t142 (wrap64 (t143 + t141))) = some (r1, r2) := H
            have A10 := Aside0.mk A100
            clear A100
            have H' := Aside0.mk H
            clear H
            have p140 : 0 ≤ (x7_1 : Int) := of_decide_eq_true (by first | (with_reducible assumption) | assumption)
            have q140 : x7_1 < (l2.length : Int) := of_decide_eq_true (by first | (with_reducible assumption) | assumption)
            obtain ⟨ad140, e140, hx140_0⟩ := Kd.at_int HR2.out x7_1 p140 q140
            cases e140
            (try replace hx140_0 := (HB.out.cell (World.block_lt_of_cell? w _ hx140_0)).trans hx140_0)
            replace p140 := eq_true p140
            replace q140 := eq_true q140
            go_wp2_with (first | ((with_reducible refine gate_callee (f := 20) rfl ?_); refine goesL_ (some 19) rfl rfl Tryd.func20 (by kernel_rfl) rfl #[.int .i64 (rd l2 x7_1)] rfl (by (try simp only [List.map_toArray, List.map_cons, List.map_nil]); first | done | rfl | (simp only [List.length_drop, List.length_take]; rfl)) ?_; (with_reducible refine (duetref20_Width.calls k1 (rd l2 x7_1) t141 _ A8.out).mono ?_); rintro e w' ⟨rfl, ⟨nd, rfl⟩⟩; refine ⟨_, rfl, ?_⟩; (try (rw [drewN_self wr]; generalize hq_ : World.drewN wr _ = wr; have n0_ : Aside0 (wr.heap[gb138]? = some (.cells #[.int .i64 x139000_1, .int .i64 x139001_1] 58 (0, 0))) := ⟨by rw [← hq_]; exact (by (with_reducible repeat (first | refine blk_drewN ?_ _ | refine blk_drew ?_ | refine blk_alloc ?_ _)); exact BK138.out)⟩; have n1_ : Aside0 (wr.heap[gb139]? = some (.cells #[.int .i64 0, .int .i64 0] 58 (0, 0))) := ⟨by rw [← hq_]; exact (by (with_reducible repeat (first | refine blk_drewN ?_ _ | refine blk_drew ?_ | refine blk_alloc ?_ _)); exact BK139.out)⟩; have n2_ : Aside0 (Below w.heap.size w wr) := ⟨by rw [← hq_]; exact (by repeat (first | (with_reducible first | exact HB.out | apply below_alloc | apply pw_below_drewN | apply below_drew1 | refine below_set ?_ GE138.out | refine below_set ?_ GE139.out) | exact HB.out))⟩; clear BK138 BK139 HB hq_; have BK138 := n0_; have BK139 := n1_; have HB := n2_; clear n0_ n1_ n2_)); have hnb11 := NB138_139.out; have hnc11 := NB139_138.out; have hcz12_0 : wr.cell? ⟨gb138, 0, none⟩ = some (.int .i64 x139000_1) := (blk_cell BK138.out 0).trans rfl; have hcz12_1 : wr.cell? ⟨gb138, 1, none⟩ = some (.int .i64 x139001_1) := (blk_cell BK138.out 1).trans rfl; have hfz12_0 := blk_frozen BK138.out 0; have hfz12_1 := blk_frozen BK138.out 1) | ((with_reducible refine gate_callee (f := 28) rfl ?_); refine goesL_ (some 25) rfl rfl Tryd.func28 (by kernel_rfl) rfl #[.agg #[.int .i64 x139000_1, .int .i64 x139001_1], .int .i64 t141, .int .i64 a0] rfl (by (try simp only [List.map_toArray, List.map_cons, List.map_nil]); first | done | rfl | (simp only [List.length_drop, List.length_take]; rfl)) ?_; (with_reducible refine (duetref21_step.calls x139000_1 x139001_1 t141 a0 t142 t143 _ A10.out).mono ?_); rintro e w13 ⟨rfl, hb⟩; refine ⟨_, rfl, ?_⟩; have n0_ := Aside0.mk (blk_below (g := gb138) (o := .cells #[.int .i64 x139000_1, .int .i64 x139001_1] 58 (0, 0)) (by (with_reducible repeat (first | refine blk_drewN ?_ _ | refine blk_drew ?_ | refine blk_alloc ?_ _)); exact BK138.out) hb); have n1_ := Aside0.mk (blk_below (g := gb139) (o := .cells #[.int .i64 0, .int .i64 0] 58 (0, 0)) (by (with_reducible repeat (first | refine blk_drewN ?_ _ | refine blk_drew ?_ | refine blk_alloc ?_ _)); exact BK139.out) hb); have n2_ := Aside0.mk (below_step (by repeat (first | (with_reducible first | exact HB.out | apply below_alloc | apply pw_below_drewN | apply below_drew1 | refine below_set ?_ GE138.out | refine below_set ?_ GE139.out) | exact HB.out)) hb); clear BK138; clear BK139; clear HB; have BK138 := n0_; have BK139 := n1_; have HB := n2_; clear n0_ n1_ n2_; (try clear hb); (try clear hb2); (try clear hk); (try clear hi); have hcz14_0 : w13.cell? ⟨gb138, 0, none⟩ = some (.int .i64 x139000_1) := (blk_cell BK138.out 0).trans rfl; have hcz14_1 : w13.cell? ⟨gb138, 1, none⟩ = some (.int .i64 x139001_1) := (blk_cell BK138.out 1).trans rfl; have hfz14_0 := blk_frozen BK138.out 0; have hfz14_1 := blk_frozen BK138.out 1))
            go_roundg k1
            case measure => have := HK1.out; omega
            case rel => exact ⟨(wrap64 (x7_1 + 1)), (t142), (wrap64 (t143 + t141)), (by first | rfl | (simp; done) | (simp [*]; done)), H', ⟨by have := HK1.out; omega⟩, ⟨by (with_reducible repeat (first | refine blk_drewN ?_ _ | refine blk_drew ?_ | refine blk_alloc ?_ _)); refine blk_put (cs := #[.int .i64 t142, .int .i64 t143]) ?_ 1 _ rfl; (with_reducible repeat (first | refine blk_drewN ?_ _ | refine blk_drew ?_ | refine blk_alloc ?_ _)); refine blk_put (cs := #[.int .i64 t142, .int .i64 x139001_1]) ?_ 1 _ rfl; (with_reducible repeat (first | refine blk_drewN ?_ _ | refine blk_drew ?_ | refine blk_alloc ?_ _)); refine blk_put (cs := #[.int .i64 x139000_1, .int .i64 x139001_1]) ?_ 0 _ rfl; (with_reducible repeat (first | refine blk_drewN ?_ _ | refine blk_drew ?_ | refine blk_alloc ?_ _)); exact BK138.out⟩, ⟨by (with_reducible repeat (first | refine blk_drewN ?_ _ | refine blk_drew ?_ | refine blk_alloc ?_ _)); refine blk_far ?_ NB139_138.out _; (with_reducible repeat (first | refine blk_drewN ?_ _ | refine blk_drew ?_ | refine blk_alloc ?_ _)); refine blk_far ?_ NB139_138.out _; (with_reducible repeat (first | refine blk_drewN ?_ _ | refine blk_drew ?_ | refine blk_alloc ?_ _)); refine blk_far ?_ NB139_138.out _; (with_reducible repeat (first | refine blk_drewN ?_ _ | refine blk_drew ?_ | refine blk_alloc ?_ _)); exact BK139.out⟩, ⟨by repeat (first | (with_reducible first | exact HB.out | apply below_alloc | apply pw_below_drewN | apply below_drew1 | refine below_set ?_ GE138.out | refine below_set ?_ GE139.out) | exact HB.out)⟩⟩
          · rw [if_neg c9] at H
            have c9b0 : decide (0 < t141) = false := decide_eq_false c9
            clear c9
            have H' := Aside0.mk H
            clear H
            have p140 : 0 ≤ (x7_1 : Int) := of_decide_eq_true (by first | (with_reducible assumption) | assumption)
            have q140 : x7_1 < (l2.length : Int) := of_decide_eq_true (by first | (with_reducible assumption) | assumption)
            obtain ⟨ad140, e140, hx140_0⟩ := Kd.at_int HR2.out x7_1 p140 q140
            cases e140
            (try replace hx140_0 := (HB.out.cell (World.block_lt_of_cell? w _ hx140_0)).trans hx140_0)
            replace p140 := eq_true p140
            replace q140 := eq_true q140
            go_wp2_with (first | ((with_reducible refine gate_callee (f := 20) rfl ?_); refine goesL_ (some 19) rfl rfl Tryd.func20 (by kernel_rfl) rfl #[.int .i64 (rd l2 x7_1)] rfl (by (try simp only [List.map_toArray, List.map_cons, List.map_nil]); first | done | rfl | (simp only [List.length_drop, List.length_take]; rfl)) ?_; (with_reducible refine (duetref20_Width.calls k1 (rd l2 x7_1) t141 _ A8.out).mono ?_); rintro e w' ⟨rfl, ⟨nd, rfl⟩⟩; refine ⟨_, rfl, ?_⟩))
            go_roundg k1
            case measure => have := HK1.out; omega
            case rel => exact ⟨(wrap64 (x7_1 + 1)), (x139000_1), (x139001_1), (by first | rfl | (simp; done) | (simp [*]; done)), H', ⟨by have := HK1.out; omega⟩, ⟨by (with_reducible repeat (first | refine blk_drewN ?_ _ | refine blk_drew ?_ | refine blk_alloc ?_ _)); exact BK138.out⟩, ⟨by (with_reducible repeat (first | refine blk_drewN ?_ _ | refine blk_drew ?_ | refine blk_alloc ?_ _)); exact BK139.out⟩, ⟨by repeat (first | (with_reducible first | exact HB.out | apply below_alloc | apply pw_below_drewN | apply below_drew1 | refine below_set ?_ GE138.out | refine below_set ?_ GE139.out) | exact HB.out)⟩⟩
        · rw [if_neg c7] at H
          exact absurd H (by simp)
      · rw [if_neg c6] at H
        have c6b0 : decide (x7_1 < (l2.length : Int)) = false := decide_eq_false c6
        clear c6
        simp only [Option.some.injEq, Prod.mk.injEq] at H
        obtain ⟨rfl, rfl⟩ := H
        have hnb15 := NB138_139.out
        have hnc15 := NB139_138.out
        have hcz16_0 : wr.cell? ⟨gb138, 0, none⟩ = some (.int .i64 x139000_1) := (blk_cell BK138.out 0).trans rfl
        have hcz16_1 : wr.cell? ⟨gb138, 1, none⟩ = some (.int .i64 x139001_1) := (blk_cell BK138.out 1).trans rfl
        have hfz16_0 := blk_frozen BK138.out 0
        have hfz16_1 := blk_frozen BK138.out 1
        have hcz17_0 : wr.cell? ⟨gb139, 0, none⟩ = some (.int .i64 0) := (blk_cell BK139.out 0).trans rfl
        have hcz17_1 : wr.cell? ⟨gb139, 1, none⟩ = some (.int .i64 0) := (blk_cell BK139.out 1).trans rfl
        have hfz17_0 := blk_frozen BK139.out 0
        have hfz17_1 := blk_frozen BK139.out 1
        go_wp2
        refine bodyPost_ret (results_cell_row rfl _ _ gb139 58 #[.int .i64 x139000_1, .int .i64 x139001_1] (0, 0) _ rfl (by (with_reducible repeat (first | refine blk_drewN ?_ _ | refine blk_drew ?_ | refine blk_alloc ?_ _)); refine blk_put (cs := #[.int .i64 x139000_1, .int .i64 0]) ?_ 1 _ rfl; (with_reducible repeat (first | refine blk_drewN ?_ _ | refine blk_drew ?_ | refine blk_alloc ?_ _)); refine blk_put (cs := #[.int .i64 0, .int .i64 0]) ?_ 0 _ rfl; (with_reducible repeat (first | refine blk_drewN ?_ _ | refine blk_drew ?_ | refine blk_alloc ?_ _)); exact BK139.out) Tryd.underlying58 rfl (by kernel_rfl)) rfl ?_
        exact ⟨by first | rfl | (simp [errW_none, errW_some] <;> rfl) | (simp [*, errW_none, errW_some] <;> rfl), by repeat (first | (with_reducible first | exact HB.out | apply below_alloc | apply pw_below_drewN | apply below_drew1 | refine below_set ?_ GE138.out | refine below_set ?_ GE139.out) | exact HB.out)⟩

end Go.Proofs.YtoidlaonolkgkaaDoor.P

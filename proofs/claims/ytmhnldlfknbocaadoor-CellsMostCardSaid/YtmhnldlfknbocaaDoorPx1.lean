-- Written by a program of this session (wip/tools/pp.py) out of the translation. Not trusted: Lean checks it.
import Derived.Test.YtmhnldlfknbocaaDoorPx0
namespace Go.Proofs.YtmhnldlfknbocaaDoor.P
open Go.RowKit Go.Proofs.YtmhnldlfknbocaaDoorW.PrintWords Go.Proofs.YtmhnldlfknbocaaDoorW.PrintLast Go.Proofs.YtmhnldlfknbocaaDoorW.PrintMore
attribute [local go_sem] max2_int min2_int max_two min_two max_three min_three max_four min_four   -- for this text's walks alone
open Go.Proofs.YtmhnldlfknbocaaDoor.Giv
set_option linter.unusedVariables false
set_option linter.unusedSimpArgs false

-- NOT PRINTED: function 18 (slices_BinarySearchFunc_2_int_2_int_int)

-- NOT PRINTED: function 16 (cells_in)

-- GIVEN: function 9 (cells_Width): its contract lies in a text of its own

/-! ### duetref20_in: function 17 -/
def duetref20_in.f (a0 : Int) (a1 : Int) (a2 : Int) : Option (Bool) := if a0 ≥ a1 then (some (decide (a0 ≤ a2))) else (some false)
set_option maxHeartbeats 8000000 in
set_option maxRecDepth 100000 in
theorem duetref20_in.calls (a0 : Int) (a1 : Int) (a2 : Int) (r : Bool) (w : World) (h : duetref20_in.f a0 a1 a2 = some r) :
    Calls Tryd.prog 17 #[.int .i64 a0, .int .i64 a1, .int .i64 a2] w fun e w' => e = .returned (.bool r) ∧ Drawn0 w w' := by
  have H : (if a0 ≥ a1 then (some (decide (a0 ≤ a2))) else (some false)) = some r := h
  clear h
  by_cases c4 : a0 ≥ a1
  · rw [if_pos c4] at H
    have c4b0 : decide (a1 ≤ a0) = true := decide_eq_true c4
    clear c4
    obtain rfl := Option.some.inj H
    go_enter Tryd.func17, Tryd.ntmps17
    go_wp2
    go_ret
    exact ⟨by first | rfl | (simp; done) | (simp [*]; done), by repeat (first | exact Drawn0.refl _ | apply Drawn0.step)⟩
  · rw [if_neg c4] at H
    have c4b0 : decide (a1 ≤ a0) = false := decide_eq_false c4
    clear c4
    obtain rfl := Option.some.inj H
    go_enter Tryd.func17, Tryd.ntmps17
    go_wp2
    go_ret
    exact ⟨by first | rfl | (simp; done) | (simp [*]; done), by repeat (first | exact Drawn0.refl _ | apply Drawn0.step)⟩

/-! ### duetref20_Width: function 10 -/
def duetref20_Width.j0 : Nat → Int → Bool → Option (Int)
  | 0, _, _ => none
  | k + 1, x0, x36 => if x36 = true then (some 0) else ((duetref20_in.f x0 4352 4447).bind fun t108 => (if t108 = true then (some 2) else ((duetref20_in.f x0 11904 12350).bind fun t109 => (if t109 = true then (some 2) else ((duetref20_in.f x0 12353 42191).bind fun t110 => (if t110 = true then (some 2) else ((duetref20_in.f x0 44032 55203).bind fun t111 => (if t111 = true then (some 2) else ((duetref20_in.f x0 63744 64255).bind fun t112 => (if t112 = true then (some 2) else ((duetref20_in.f x0 65072 65135).bind fun t113 => (if t113 = true then (some 2) else ((duetref20_in.f x0 65281 65376).bind fun t114 => (if t114 = true then (some 2) else ((duetref20_in.f x0 65504 65510).bind fun t115 => (if t115 = true then (some 2) else ((duetref20_in.f x0 127744 128591).bind fun t116 => (if t116 = true then (some 2) else ((duetref20_in.f x0 128640 128767).bind fun t117 => (if t117 = true then (some 2) else ((duetref20_in.f x0 129280 129535).bind fun t118 => (if t118 = true then (some 2) else ((duetref20_in.f x0 131072 262141).bind fun t119 => (if t119 = true then (some 2) else (some 1)))))))))))))))))))))))))
def duetref20_Width.f (k : Nat) (a0 : Int) : Option (Int) := if a0 < 32 then (duetref20_Width.j0 k a0 true) else ((duetref20_in.f a0 127 159).bind fun t101 => (if t101 = true then (duetref20_Width.j0 k a0 true) else ((duetref20_in.f a0 768 879).bind fun t102 => (if t102 = true then (duetref20_Width.j0 k a0 true) else ((duetref20_in.f a0 8203 8207).bind fun t103 => (if t103 = true then (duetref20_Width.j0 k a0 true) else ((duetref20_in.f a0 8400 8447).bind fun t104 => (if t104 = true then (duetref20_Width.j0 k a0 true) else ((duetref20_in.f a0 55296 57343).bind fun t105 => (if t105 = true then (duetref20_Width.j0 k a0 true) else ((duetref20_in.f a0 65024 65039).bind fun t106 => (if t106 = true then (duetref20_Width.j0 k a0 true) else ((duetref20_in.f a0 65056 65071).bind fun t107 => (if t107 = true then (duetref20_Width.j0 k a0 true) else (duetref20_Width.j0 k a0 (decide (a0 > 1114111)))))))))))))))))
theorem duetref20_Width.mono_l : ∀ k, (∀ y0 y1, LeO (duetref20_Width.j0 k y0 y1) (duetref20_Width.j0 (k + 1) y0 y1))
  | 0 => fun _ _ r h => by simp [duetref20_Width.j0] at h
  | k + 1 => by
    have ih0 := duetref20_Width.mono_l k
    · intro y0 y1
      unfold duetref20_Width.j0
      repeat' first
      | (with_reducible exact ih0 _ _)
      | (with_reducible exact LeO.refl _)
      | (with_reducible exact LeO.none _)
      | (with_reducible refine LeO.ite ?_ ?_)
      | (with_reducible refine LeO.bind ?_ (fun _ => ?_))
      | exact ih0 _ _
      | exact LeO.none _
      | refine LeO.ite ?_ ?_
      | refine LeO.bind ?_ (fun _ => ?_)
theorem duetref20_Width.mono : ∀ a0 k, LeO (duetref20_Width.f k a0) (duetref20_Width.f (k + 1) a0) := by
  intro a0 k
  have ih0 := duetref20_Width.mono_l k
  unfold duetref20_Width.f
  repeat' first
      | (with_reducible exact ih0 _ _)
      | (with_reducible exact LeO.refl _)
      | (with_reducible exact LeO.none _)
      | (with_reducible refine LeO.ite ?_ ?_)
      | (with_reducible refine LeO.bind ?_ (fun _ => ?_))
      | exact ih0 _ _
      | exact LeO.none _
      | refine LeO.ite ?_ ?_
      | refine LeO.bind ?_ (fun _ => ?_)
set_option maxHeartbeats 8000000 in
set_option maxRecDepth 100000 in
theorem duetref20_Width.calls (k : Nat) (a0 : Int) (r : Int) (w : World) (h : duetref20_Width.f k a0 = some r) :
    Calls Tryd.prog 10 #[.int .i64 a0] w fun e w' => e = .returned (.int .i64 r) ∧ Drawn0 w w' := by
  have H : (if a0 < 32 then (duetref20_Width.j0 k a0 true) else ((duetref20_in.f a0 127 159).bind fun t101 => (if t101 = true then (duetref20_Width.j0 k a0 true) else ((duetref20_in.f a0 768 879).bind fun t102 => (if t102 = true then (duetref20_Width.j0 k a0 true) else ((duetref20_in.f a0 8203 8207).bind fun t103 => (if t103 = true then (duetref20_Width.j0 k a0 true) else ((duetref20_in.f a0 8400 8447).bind fun t104 => (if t104 = true then (duetref20_Width.j0 k a0 true) else ((duetref20_in.f a0 55296 57343).bind fun t105 => (if t105 = true then (duetref20_Width.j0 k a0 true) else ((duetref20_in.f a0 65024 65039).bind fun t106 => (if t106 = true then (duetref20_Width.j0 k a0 true) else ((duetref20_in.f a0 65056 65071).bind fun t107 => (if t107 = true then (duetref20_Width.j0 k a0 true) else (duetref20_Width.j0 k a0 (decide (a0 > 1114111)))))))))))))))))) = some r := h
  clear h
  have HC2 := Aside0.mk H
  clear H
  go_enter Tryd.func10, Tryd.ntmps10
  go_upto_region 1 with (fail)
  go_cut [36] (fun v36 wc => ∃ (kq : Nat) (x36_1 : Bool), v36 = .bool x36_1 ∧ Aside0 (duetref20_Width.j0 kq a0 x36_1 = some r) ∧ Aside0 (kq ≤ k) ∧ Drawn0 w wc)
  case first =>
    have H := HC2.out
    clear HC2
    by_cases c3 : a0 < 32
    · rw [if_pos c3] at H
      have c3b0 : decide (a0 < 32) = true := decide_eq_true c3
      clear c3
      (first | rw [c3b0] | (simp only [i64_w, i32_w]; rw [c3b0]) | skip)
      have H' := Aside0.mk H
      clear H
      go_wp2
      go_meet
      case rel => exact ⟨_, (true), (by first | rfl | (simp; done) | (simp [*]; done)), H', ⟨by first | omega | exact Nat.le_refl _⟩, by repeat (first | exact Drawn0.refl _ | apply Drawn0.step)⟩
    · rw [if_neg c3] at H
      have c3b0 : decide (a0 < 32) = false := decide_eq_false c3
      clear c3
      (first | rw [c3b0] | (simp only [i64_w, i32_w]; rw [c3b0]) | skip)
      replace H := Option.bind_eq_some_iff.mp H
      obtain ⟨t101, A40, H⟩ := H
      replace H : (if t101 = true then (duetref20_Width.j0 k a0 true) else ((duetref20_in.f a0 768 879).bind fun t102 => (if t102 = true then (duetref20_Width.j0 k a0 true) else ((duetref20_in.f a0 8203 8207).bind fun t103 => (if t103 = true then (duetref20_Width.j0 k a0 true) else ((duetref20_in.f a0 8400 8447).bind fun t104 => (if t104 = true then (duetref20_Width.j0 k a0 true) else ((duetref20_in.f a0 55296 57343).bind fun t105 => (if t105 = true then (duetref20_Width.j0 k a0 true) else ((duetref20_in.f a0 65024 65039).bind fun t106 => (if t106 = true then (duetref20_Width.j0 k a0 true) else ((duetref20_in.f a0 65056 65071).bind fun t107 => (if t107 = true then (duetref20_Width.j0 k a0 true) else (duetref20_Width.j0 k a0 (decide (a0 > 1114111)))))))))))))))) = some r := H
      have A4 := Aside0.mk A40
      clear A40
      by_cases c5 : t101 = true
      · subst c5
        have H1 : (duetref20_Width.j0 k a0 true) = some r := by rw [if_pos rfl] at H; exact H
        clear H
        have H := H1
        clear H1
        have H' := Aside0.mk H
        clear H
        go_wp2_with (first | (go_at_call 17; (with_reducible refine (duetref20_in.calls a0 127 159 true _ A4.out).mono ?_); rintro e w' ⟨rfl, ⟨nd, rfl⟩⟩))
        go_meet
        case rel => exact ⟨_, (true), (by first | rfl | (simp; done) | (simp [*]; done)), H', ⟨by first | omega | exact Nat.le_refl _⟩, by repeat (first | exact Drawn0.refl _ | apply Drawn0.step)⟩
      · replace c5 := Bool.eq_false_iff.mpr c5
        subst c5
        have H1 : ((duetref20_in.f a0 768 879).bind fun t102 => (if t102 = true then (duetref20_Width.j0 k a0 true) else ((duetref20_in.f a0 8203 8207).bind fun t103 => (if t103 = true then (duetref20_Width.j0 k a0 true) else ((duetref20_in.f a0 8400 8447).bind fun t104 => (if t104 = true then (duetref20_Width.j0 k a0 true) else ((duetref20_in.f a0 55296 57343).bind fun t105 => (if t105 = true then (duetref20_Width.j0 k a0 true) else ((duetref20_in.f a0 65024 65039).bind fun t106 => (if t106 = true then (duetref20_Width.j0 k a0 true) else ((duetref20_in.f a0 65056 65071).bind fun t107 => (if t107 = true then (duetref20_Width.j0 k a0 true) else (duetref20_Width.j0 k a0 (decide (a0 > 1114111))))))))))))))) = some r := by rw [if_neg (show ¬ (false = true) by decide)] at H; exact H
        clear H
        have H := H1
        clear H1
        replace H := Option.bind_eq_some_iff.mp H
        obtain ⟨t102, A60, H⟩ := H
        replace H : (if t102 = true then (duetref20_Width.j0 k a0 true) else ((duetref20_in.f a0 8203 8207).bind fun t103 => (if t103 = true then (duetref20_Width.j0 k a0 true) else ((duetref20_in.f a0 8400 8447).bind fun t104 => (if t104 = true then (duetref20_Width.j0 k a0 true) else ((duetref20_in.f a0 55296 57343).bind fun t105 => (if t105 = true then (duetref20_Width.j0 k a0 true) else ((duetref20_in.f a0 65024 65039).bind fun t106 => (if t106 = true then (duetref20_Width.j0 k a0 true) else ((duetref20_in.f a0 65056 65071).bind fun t107 => (if t107 = true then (duetref20_Width.j0 k a0 true) else (duetref20_Width.j0 k a0 (decide (a0 > 1114111)))))))))))))) = some r := H
        have A6 := Aside0.mk A60
        clear A60
        by_cases c7 : t102 = true
        · subst c7
          have H1 : (duetref20_Width.j0 k a0 true) = some r := by rw [if_pos rfl] at H; exact H
          clear H
          have H := H1
          clear H1
          have H' := Aside0.mk H
          clear H
          go_wp2_with (first | (go_at_call 17; (with_reducible refine (duetref20_in.calls a0 127 159 false _ A4.out).mono ?_); rintro e w' ⟨rfl, ⟨nd, rfl⟩⟩) | (go_at_call 17; (with_reducible refine (duetref20_in.calls a0 768 879 true _ A6.out).mono ?_); rintro e w' ⟨rfl, ⟨nd, rfl⟩⟩))
          go_meet
          case rel => exact ⟨_, (true), (by first | rfl | (simp; done) | (simp [*]; done)), H', ⟨by first | omega | exact Nat.le_refl _⟩, by repeat (first | exact Drawn0.refl _ | apply Drawn0.step)⟩
        · replace c7 := Bool.eq_false_iff.mpr c7
          subst c7
          have H1 : ((duetref20_in.f a0 8203 8207).bind fun t103 => (if t103 = true then (duetref20_Width.j0 k a0 true) else ((duetref20_in.f a0 8400 8447).bind fun t104 => (if t104 = true then (duetref20_Width.j0 k a0 true) else ((duetref20_in.f a0 55296 57343).bind fun t105 => (if t105 = true then (duetref20_Width.j0 k a0 true) else ((duetref20_in.f a0 65024 65039).bind fun t106 => (if t106 = true then (duetref20_Width.j0 k a0 true) else ((duetref20_in.f a0 65056 65071).bind fun t107 => (if t107 = true then (duetref20_Width.j0 k a0 true) else (duetref20_Width.j0 k a0 (decide (a0 > 1114111))))))))))))) = some r := by rw [if_neg (show ¬ (false = true) by decide)] at H; exact H
          clear H
          have H := H1
          clear H1
          replace H := Option.bind_eq_some_iff.mp H
          obtain ⟨t103, A80, H⟩ := H
          replace H : (if t103 = true then (duetref20_Width.j0 k a0 true) else ((duetref20_in.f a0 8400 8447).bind fun t104 => (if t104 = true then (duetref20_Width.j0 k a0 true) else ((duetref20_in.f a0 55296 57343).bind fun t105 => (if t105 = true then (duetref20_Width.j0 k a0 true) else ((duetref20_in.f a0 65024 65039).bind fun t106 => (if t106 = true then (duetref20_Width.j0 k a0 true) else ((duetref20_in.f a0 65056 65071).bind fun t107 => (if t107 = true then (duetref20_Width.j0 k a0 true) else (duetref20_Width.j0 k a0 (decide (a0 > 1114111)))))))))))) = some r := H
          have A8 := Aside0.mk A80
          clear A80
          by_cases c9 : t103 = true
          · subst c9
            have H1 : (duetref20_Width.j0 k a0 true) = some r := by rw [if_pos rfl] at H; exact H
            clear H
            have H := H1
            clear H1
            have H' := Aside0.mk H
            clear H
            go_wp2_with (first | (go_at_call 17; (with_reducible refine (duetref20_in.calls a0 127 159 false _ A4.out).mono ?_); rintro e w' ⟨rfl, ⟨nd, rfl⟩⟩) | (go_at_call 17; (with_reducible refine (duetref20_in.calls a0 768 879 false _ A6.out).mono ?_); rintro e w' ⟨rfl, ⟨nd, rfl⟩⟩) | (go_at_call 17; (with_reducible refine (duetref20_in.calls a0 8203 8207 true _ A8.out).mono ?_); rintro e w' ⟨rfl, ⟨nd, rfl⟩⟩))
            go_meet
            case rel => exact ⟨_, (true), (by first | rfl | (simp; done) | (simp [*]; done)), H', ⟨by first | omega | exact Nat.le_refl _⟩, by repeat (first | exact Drawn0.refl _ | apply Drawn0.step)⟩
          · replace c9 := Bool.eq_false_iff.mpr c9
            subst c9
            have H1 : ((duetref20_in.f a0 8400 8447).bind fun t104 => (if t104 = true then (duetref20_Width.j0 k a0 true) else ((duetref20_in.f a0 55296 57343).bind fun t105 => (if t105 = true then (duetref20_Width.j0 k a0 true) else ((duetref20_in.f a0 65024 65039).bind fun t106 => (if t106 = true then (duetref20_Width.j0 k a0 true) else ((duetref20_in.f a0 65056 65071).bind fun t107 => (if t107 = true then (duetref20_Width.j0 k a0 true) else (duetref20_Width.j0 k a0 (decide (a0 > 1114111))))))))))) = some r := by rw [if_neg (show ¬ (false = true) by decide)] at H; exact H
            clear H
            have H := H1
            clear H1
            replace H := Option.bind_eq_some_iff.mp H
            obtain ⟨t104, A100, H⟩ := H
            replace H : (if t104 = true then (duetref20_Width.j0 k a0 true) else ((duetref20_in.f a0 55296 57343).bind fun t105 => (if t105 = true then (duetref20_Width.j0 k a0 true) else ((duetref20_in.f a0 65024 65039).bind fun t106 => (if t106 = true then (duetref20_Width.j0 k a0 true) else ((duetref20_in.f a0 65056 65071).bind fun t107 => (if t107 = true then (duetref20_Width.j0 k a0 true) else (duetref20_Width.j0 k a0 (decide (a0 > 1114111)))))))))) = some r := H
            have A10 := Aside0.mk A100
            clear A100
            by_cases c11 : t104 = true
            · subst c11
              have H1 : (duetref20_Width.j0 k a0 true) = some r := by rw [if_pos rfl] at H; exact H
              clear H
              have H := H1
              clear H1
              have H' := Aside0.mk H
              clear H
              go_wp2_with (first | (go_at_call 17; (with_reducible refine (duetref20_in.calls a0 127 159 false _ A4.out).mono ?_); rintro e w' ⟨rfl, ⟨nd, rfl⟩⟩) | (go_at_call 17; (with_reducible refine (duetref20_in.calls a0 768 879 false _ A6.out).mono ?_); rintro e w' ⟨rfl, ⟨nd, rfl⟩⟩) | (go_at_call 17; (with_reducible refine (duetref20_in.calls a0 8203 8207 false _ A8.out).mono ?_); rintro e w' ⟨rfl, ⟨nd, rfl⟩⟩) | (go_at_call 17; (with_reducible refine (duetref20_in.calls a0 8400 8447 true _ A10.out).mono ?_); rintro e w' ⟨rfl, ⟨nd, rfl⟩⟩))
              go_meet
              case rel => exact ⟨_, (true), (by first | rfl | (simp; done) | (simp [*]; done)), H', ⟨by first | omega | exact Nat.le_refl _⟩, by repeat (first | exact Drawn0.refl _ | apply Drawn0.step)⟩
            · replace c11 := Bool.eq_false_iff.mpr c11
              subst c11
              have H1 : ((duetref20_in.f a0 55296 57343).bind fun t105 => (if t105 = true then (duetref20_Width.j0 k a0 true) else ((duetref20_in.f a0 65024 65039).bind fun t106 => (if t106 = true then (duetref20_Width.j0 k a0 true) else ((duetref20_in.f a0 65056 65071).bind fun t107 => (if t107 = true then (duetref20_Width.j0 k a0 true) else (duetref20_Width.j0 k a0 (decide (a0 > 1114111))))))))) = some r := by rw [if_neg (show ¬ (false = true) by decide)] at H; exact H
              clear H
              have H := H1
              clear H1
              replace H := Option.bind_eq_some_iff.mp H
              obtain ⟨t105, A120, H⟩ := H
              replace H : (if t105 = true then (duetref20_Width.j0 k a0 true) else ((duetref20_in.f a0 65024 65039).bind fun t106 => (if t106 = true then (duetref20_Width.j0 k a0 true) else ((duetref20_in.f a0 65056 65071).bind fun t107 => (if t107 = true then (duetref20_Width.j0 k a0 true) else (duetref20_Width.j0 k a0 (decide (a0 > 1114111)))))))) = some r := H
              have A12 := Aside0.mk A120
              clear A120
              by_cases c13 : t105 = true
              · subst c13
                have H1 : (duetref20_Width.j0 k a0 true) = some r := by rw [if_pos rfl] at H; exact H
                clear H
                have H := H1
                clear H1
                have H' := Aside0.mk H
                clear H
                go_wp2_with (first | (go_at_call 17; (with_reducible refine (duetref20_in.calls a0 127 159 false _ A4.out).mono ?_); rintro e w' ⟨rfl, ⟨nd, rfl⟩⟩) | (go_at_call 17; (with_reducible refine (duetref20_in.calls a0 768 879 false _ A6.out).mono ?_); rintro e w' ⟨rfl, ⟨nd, rfl⟩⟩) | (go_at_call 17; (with_reducible refine (duetref20_in.calls a0 8203 8207 false _ A8.out).mono ?_); rintro e w' ⟨rfl, ⟨nd, rfl⟩⟩) | (go_at_call 17; (with_reducible refine (duetref20_in.calls a0 8400 8447 false _ A10.out).mono ?_); rintro e w' ⟨rfl, ⟨nd, rfl⟩⟩) | (go_at_call 17; (with_reducible refine (duetref20_in.calls a0 55296 57343 true _ A12.out).mono ?_); rintro e w' ⟨rfl, ⟨nd, rfl⟩⟩))
                go_meet
                case rel => exact ⟨_, (true), (by first | rfl | (simp; done) | (simp [*]; done)), H', ⟨by first | omega | exact Nat.le_refl _⟩, by repeat (first | exact Drawn0.refl _ | apply Drawn0.step)⟩
              · replace c13 := Bool.eq_false_iff.mpr c13
                subst c13
                have H1 : ((duetref20_in.f a0 65024 65039).bind fun t106 => (if t106 = true then (duetref20_Width.j0 k a0 true) else ((duetref20_in.f a0 65056 65071).bind fun t107 => (if t107 = true then (duetref20_Width.j0 k a0 true) else (duetref20_Width.j0 k a0 (decide (a0 > 1114111))))))) = some r := by rw [if_neg (show ¬ (false = true) by decide)] at H; exact H
                clear H
                have H := H1
                clear H1
                replace H := Option.bind_eq_some_iff.mp H
                obtain ⟨t106, A140, H⟩ := H
                replace H : (if t106 = true then (duetref20_Width.j0 k a0 true) else ((duetref20_in.f a0 65056 65071).bind fun t107 => (if t107 = true then (duetref20_Width.j0 k a0 true) else (duetref20_Width.j0 k a0 (decide (a0 > 1114111)))))) = some r := H
                have A14 := Aside0.mk A140
                clear A140
                by_cases c15 : t106 = true
                · subst c15
                  have H1 : (duetref20_Width.j0 k a0 true) = some r := by rw [if_pos rfl] at H; exact H
                  clear H
                  have H := H1
                  clear H1
                  have H' := Aside0.mk H
                  clear H
                  go_wp2_with (first | (go_at_call 17; (with_reducible refine (duetref20_in.calls a0 127 159 false _ A4.out).mono ?_); rintro e w' ⟨rfl, ⟨nd, rfl⟩⟩) | (go_at_call 17; (with_reducible refine (duetref20_in.calls a0 768 879 false _ A6.out).mono ?_); rintro e w' ⟨rfl, ⟨nd, rfl⟩⟩) | (go_at_call 17; (with_reducible refine (duetref20_in.calls a0 8203 8207 false _ A8.out).mono ?_); rintro e w' ⟨rfl, ⟨nd, rfl⟩⟩) | (go_at_call 17; (with_reducible refine (duetref20_in.calls a0 8400 8447 false _ A10.out).mono ?_); rintro e w' ⟨rfl, ⟨nd, rfl⟩⟩) | (go_at_call 17; (with_reducible refine (duetref20_in.calls a0 55296 57343 false _ A12.out).mono ?_); rintro e w' ⟨rfl, ⟨nd, rfl⟩⟩) | (go_at_call 17; (with_reducible refine (duetref20_in.calls a0 65024 65039 true _ A14.out).mono ?_); rintro e w' ⟨rfl, ⟨nd, rfl⟩⟩))
                  go_meet
                  case rel => exact ⟨_, (true), (by first | rfl | (simp; done) | (simp [*]; done)), H', ⟨by first | omega | exact Nat.le_refl _⟩, by repeat (first | exact Drawn0.refl _ | apply Drawn0.step)⟩
                · replace c15 := Bool.eq_false_iff.mpr c15
                  subst c15
                  have H1 : ((duetref20_in.f a0 65056 65071).bind fun t107 => (if t107 = true then (duetref20_Width.j0 k a0 true) else (duetref20_Width.j0 k a0 (decide (a0 > 1114111))))) = some r := by rw [if_neg (show ¬ (false = true) by decide)] at H; exact H
                  clear H
                  have H := H1
                  clear H1
                  replace H := Option.bind_eq_some_iff.mp H
                  obtain ⟨t107, A160, H⟩ := H
                  replace H : (if t107 = true then (duetref20_Width.j0 k a0 true) else (duetref20_Width.j0 k a0 (decide (a0 > 1114111)))) = some r := H
                  have A16 := Aside0.mk A160
                  clear A160
                  by_cases c17 : t107 = true
                  · subst c17
                    have H1 : (duetref20_Width.j0 k a0 true) = some r := by rw [if_pos rfl] at H; exact H
                    clear H
                    have H := H1
                    clear H1
                    have H' := Aside0.mk H
                    clear H
                    go_wp2_with (first | (go_at_call 17; (with_reducible refine (duetref20_in.calls a0 127 159 false _ A4.out).mono ?_); rintro e w' ⟨rfl, ⟨nd, rfl⟩⟩) | (go_at_call 17; (with_reducible refine (duetref20_in.calls a0 768 879 false _ A6.out).mono ?_); rintro e w' ⟨rfl, ⟨nd, rfl⟩⟩) | (go_at_call 17; (with_reducible refine (duetref20_in.calls a0 8203 8207 false _ A8.out).mono ?_); rintro e w' ⟨rfl, ⟨nd, rfl⟩⟩) | (go_at_call 17; (with_reducible refine (duetref20_in.calls a0 8400 8447 false _ A10.out).mono ?_); rintro e w' ⟨rfl, ⟨nd, rfl⟩⟩) | (go_at_call 17; (with_reducible refine (duetref20_in.calls a0 55296 57343 false _ A12.out).mono ?_); rintro e w' ⟨rfl, ⟨nd, rfl⟩⟩) | (go_at_call 17; (with_reducible refine (duetref20_in.calls a0 65024 65039 false _ A14.out).mono ?_); rintro e w' ⟨rfl, ⟨nd, rfl⟩⟩) | (go_at_call 17; (with_reducible refine (duetref20_in.calls a0 65056 65071 true _ A16.out).mono ?_); rintro e w' ⟨rfl, ⟨nd, rfl⟩⟩))
                    go_meet
                    case rel => exact ⟨_, (true), (by first | rfl | (simp; done) | (simp [*]; done)), H', ⟨by first | omega | exact Nat.le_refl _⟩, by repeat (first | exact Drawn0.refl _ | apply Drawn0.step)⟩
                  · replace c17 := Bool.eq_false_iff.mpr c17
                    subst c17
                    have H1 : (duetref20_Width.j0 k a0 (decide (a0 > 1114111))) = some r := by rw [if_neg (show ¬ (false = true) by decide)] at H; exact H
                    clear H
                    have H := H1
                    clear H1
                    have H' := Aside0.mk H
                    clear H
                    go_wp2_with (first | (go_at_call 17; (with_reducible refine (duetref20_in.calls a0 127 159 false _ A4.out).mono ?_); rintro e w' ⟨rfl, ⟨nd, rfl⟩⟩) | (go_at_call 17; (with_reducible refine (duetref20_in.calls a0 768 879 false _ A6.out).mono ?_); rintro e w' ⟨rfl, ⟨nd, rfl⟩⟩) | (go_at_call 17; (with_reducible refine (duetref20_in.calls a0 8203 8207 false _ A8.out).mono ?_); rintro e w' ⟨rfl, ⟨nd, rfl⟩⟩) | (go_at_call 17; (with_reducible refine (duetref20_in.calls a0 8400 8447 false _ A10.out).mono ?_); rintro e w' ⟨rfl, ⟨nd, rfl⟩⟩) | (go_at_call 17; (with_reducible refine (duetref20_in.calls a0 55296 57343 false _ A12.out).mono ?_); rintro e w' ⟨rfl, ⟨nd, rfl⟩⟩) | (go_at_call 17; (with_reducible refine (duetref20_in.calls a0 65024 65039 false _ A14.out).mono ?_); rintro e w' ⟨rfl, ⟨nd, rfl⟩⟩) | (go_at_call 17; (with_reducible refine (duetref20_in.calls a0 65056 65071 false _ A16.out).mono ?_); rintro e w' ⟨rfl, ⟨nd, rfl⟩⟩))
                    go_meet
                    case rel => exact ⟨_, (decide (a0 > 1114111)), (by first | rfl | (simp; done) | (simp [*]; done)), H', ⟨by first | omega | exact Nat.le_refl _⟩, by repeat (first | exact Drawn0.refl _ | apply Drawn0.step)⟩
  case rest =>
    clear HC2
    try clear c1
    try clear p2
    try clear c3
    try clear c3b0
    try clear c5
    try clear c7
    try clear c9
    try clear c10
    try clear c11
    try clear c13
    try clear c15
    try clear c17
    obtain ⟨kq, x36_1, rfl, HA, HJ1, ⟨mc1, rfl⟩⟩ := hcut
    cases kq with
    | zero => exact absurd HA.out (by simp [duetref20_Width.j0])
    | succ kj1 =>
      have H := HA.out
      clear HA
      simp only [duetref20_Width.j0] at H
      by_cases c18 : x36_1 = true
      · subst c18
        have H1 : (some 0) = some r := by rw [if_pos rfl] at H; exact H
        clear H
        have H := H1
        clear H1
        obtain rfl := Option.some.inj H
        go_wp2
        go_ret
        exact ⟨by first | rfl | (simp; done) | (simp [*]; done), by repeat (first | exact Drawn0.refl _ | apply Drawn0.step)⟩
      · replace c18 := Bool.eq_false_iff.mpr c18
        subst c18
        have H1 : ((duetref20_in.f a0 4352 4447).bind fun t108 => (if t108 = true then (some 2) else ((duetref20_in.f a0 11904 12350).bind fun t109 => (if t109 = true then (some 2) else ((duetref20_in.f a0 12353 42191).bind fun t110 => (if t110 = true then (some 2) else ((duetref20_in.f a0 44032 55203).bind fun t111 => (if t111 = true then (some 2) else ((duetref20_in.f a0 63744 64255).bind fun t112 => (if t112 = true then (some 2) else ((duetref20_in.f a0 65072 65135).bind fun t113 => (if t113 = true then (some 2) else ((duetref20_in.f a0 65281 65376).bind fun t114 => (if t114 = true then (some 2) else ((duetref20_in.f a0 65504 65510).bind fun t115 => (if t115 = true then (some 2) else ((duetref20_in.f a0 127744 128591).bind fun t116 => (if t116 = true then (some 2) else ((duetref20_in.f a0 128640 128767).bind fun t117 => (if t117 = true then (some 2) else ((duetref20_in.f a0 129280 129535).bind fun t118 => (if t118 = true then (some 2) else ((duetref20_in.f a0 131072 262141).bind fun t119 => (if t119 = true then (some 2) else (some 1))))))))))))))))))))))))) = some r := by rw [if_neg (show ¬ (false = true) by decide)] at H; exact H
        clear H
        have H := H1
        clear H1
        replace H := Option.bind_eq_some_iff.mp H
        obtain ⟨t108, A190, H⟩ := H
        replace H : (if t108 = true then (some 2) else ((duetref20_in.f a0 11904 12350).bind fun t109 => (if t109 = true then (some 2) else ((duetref20_in.f a0 12353 42191).bind fun t110 => (if t110 = true then (some 2) else ((duetref20_in.f a0 44032 55203).bind fun t111 => (if t111 = true then (some 2) else ((duetref20_in.f a0 63744 64255).bind fun t112 => (if t112 = true then (some 2) else ((duetref20_in.f a0 65072 65135).bind fun t113 => (if t113 = true then (some 2) else ((duetref20_in.f a0 65281 65376).bind fun t114 => (if t114 = true then (some 2) else ((duetref20_in.f a0 65504 65510).bind fun t115 => (if t115 = true then (some 2) else ((duetref20_in.f a0 127744 128591).bind fun t116 => (if t116 = true then (some 2) else ((duetref20_in.f a0 128640 128767).bind fun t117 => (if t117 = true then (some 2) else ((duetref20_in.f a0 129280 129535).bind fun t118 => (if t118 = true then (some 2) else ((duetref20_in.f a0 131072 262141).bind fun t119 => (if t119 = true then (some 2) else (some 1)))))))))))))))))))))))) = some r := H
        have A19 := Aside0.mk A190
        clear A190
        by_cases c20 : t108 = true
        · subst c20
          have H1 : (some 2) = some r := by rw [if_pos rfl] at H; exact H
          clear H
          have H := H1
          clear H1
          obtain rfl := Option.some.inj H
          go_wp2_with (first | ((with_reducible refine gate_callee (f := 17) rfl ?_); refine goesL_ (some 38) rfl rfl Tryd.func17 (by kernel_rfl) rfl #[.int .i64 a0, .int .i64 4352, .int .i64 4447] rfl (by (try simp only [List.map_toArray, List.map_cons, List.map_nil]); first | done | rfl | (simp only [List.length_drop, List.length_take]; rfl)) ?_; (with_reducible refine (duetref20_in.calls a0 4352 4447 true _ A19.out).mono ?_); rintro e w' ⟨rfl, ⟨nd, rfl⟩⟩; refine ⟨_, rfl, ?_⟩))
          go_ret
          exact ⟨by first | rfl | (simp; done) | (simp [*]; done), by repeat (first | exact Drawn0.refl _ | apply Drawn0.step)⟩
        · replace c20 := Bool.eq_false_iff.mpr c20
          subst c20
          have H1 : ((duetref20_in.f a0 11904 12350).bind fun t109 => (if t109 = true then (some 2) else ((duetref20_in.f a0 12353 42191).bind fun t110 => (if t110 = true then (some 2) else ((duetref20_in.f a0 44032 55203).bind fun t111 => (if t111 = true then (some 2) else ((duetref20_in.f a0 63744 64255).bind fun t112 => (if t112 = true then (some 2) else ((duetref20_in.f a0 65072 65135).bind fun t113 => (if t113 = true then (some 2) else ((duetref20_in.f a0 65281 65376).bind fun t114 => (if t114 = true then (some 2) else ((duetref20_in.f a0 65504 65510).bind fun t115 => (if t115 = true then (some 2) else ((duetref20_in.f a0 127744 128591).bind fun t116 => (if t116 = true then (some 2) else ((duetref20_in.f a0 128640 128767).bind fun t117 => (if t117 = true then (some 2) else ((duetref20_in.f a0 129280 129535).bind fun t118 => (if t118 = true then (some 2) else ((duetref20_in.f a0 131072 262141).bind fun t119 => (if t119 = true then (some 2) else (some 1))))))))))))))))))))))) = some r := by rw [if_neg (show ¬ (false = true) by decide)] at H; exact H
          clear H
          have H := H1
          clear H1
          replace H := Option.bind_eq_some_iff.mp H
          obtain ⟨t109, A210, H⟩ := H
          replace H : (if t109 = true then (some 2) else ((duetref20_in.f a0 12353 42191).bind fun t110 => (if t110 = true then (some 2) else ((duetref20_in.f a0 44032 55203).bind fun t111 => (if t111 = true then (some 2) else ((duetref20_in.f a0 63744 64255).bind fun t112 => (if t112 = true then (some 2) else ((duetref20_in.f a0 65072 65135).bind fun t113 => (if t113 = true then (some 2) else ((duetref20_in.f a0 65281 65376).bind fun t114 => (if t114 = true then (some 2) else ((duetref20_in.f a0 65504 65510).bind fun t115 => (if t115 = true then (some 2) else ((duetref20_in.f a0 127744 128591).bind fun t116 => (if t116 = true then (some 2) else ((duetref20_in.f a0 128640 128767).bind fun t117 => (if t117 = true then (some 2) else ((duetref20_in.f a0 129280 129535).bind fun t118 => (if t118 = true then (some 2) else ((duetref20_in.f a0 131072 262141).bind fun t119 => (if t119 = true then (some 2) else (some 1)))))))))))))))))))))) = some r := H
          have A21 := Aside0.mk A210
          clear A210
          by_cases c22 : t109 = true
          · subst c22
            have H1 : (some 2) = some r := by rw [if_pos rfl] at H; exact H
            clear H
            have H := H1
            clear H1
            obtain rfl := Option.some.inj H
            go_wp2_with (first | ((with_reducible refine gate_callee (f := 17) rfl ?_); refine goesL_ (some 38) rfl rfl Tryd.func17 (by kernel_rfl) rfl #[.int .i64 a0, .int .i64 4352, .int .i64 4447] rfl (by (try simp only [List.map_toArray, List.map_cons, List.map_nil]); first | done | rfl | (simp only [List.length_drop, List.length_take]; rfl)) ?_; (with_reducible refine (duetref20_in.calls a0 4352 4447 false _ A19.out).mono ?_); rintro e w' ⟨rfl, ⟨nd, rfl⟩⟩; refine ⟨_, rfl, ?_⟩) | (go_at_call 17; (with_reducible refine (duetref20_in.calls a0 11904 12350 true _ A21.out).mono ?_); rintro e w' ⟨rfl, ⟨nd, rfl⟩⟩))
            go_ret
            exact ⟨by first | rfl | (simp; done) | (simp [*]; done), by repeat (first | exact Drawn0.refl _ | apply Drawn0.step)⟩
          · replace c22 := Bool.eq_false_iff.mpr c22
            subst c22
            have H1 : ((duetref20_in.f a0 12353 42191).bind fun t110 => (if t110 = true then (some 2) else ((duetref20_in.f a0 44032 55203).bind fun t111 => (if t111 = true then (some 2) else ((duetref20_in.f a0 63744 64255).bind fun t112 => (if t112 = true then (some 2) else ((duetref20_in.f a0 65072 65135).bind fun t113 => (if t113 = true then (some 2) else ((duetref20_in.f a0 65281 65376).bind fun t114 => (if t114 = true then (some 2) else ((duetref20_in.f a0 65504 65510).bind fun t115 => (if t115 = true then (some 2) else ((duetref20_in.f a0 127744 128591).bind fun t116 => (if t116 = true then (some 2) else ((duetref20_in.f a0 128640 128767).bind fun t117 => (if t117 = true then (some 2) else ((duetref20_in.f a0 129280 129535).bind fun t118 => (if t118 = true then (some 2) else ((duetref20_in.f a0 131072 262141).bind fun t119 => (if t119 = true then (some 2) else (some 1))))))))))))))))))))) = some r := by rw [if_neg (show ¬ (false = true) by decide)] at H; exact H
            clear H
            have H := H1
            clear H1
            replace H := Option.bind_eq_some_iff.mp H
            obtain ⟨t110, A230, H⟩ := H
            replace H : (if t110 = true then (some 2) else ((duetref20_in.f a0 44032 55203).bind fun t111 => (if t111 = true then (some 2) else ((duetref20_in.f a0 63744 64255).bind fun t112 => (if t112 = true then (some 2) else ((duetref20_in.f a0 65072 65135).bind fun t113 => (if t113 = true then (some 2) else ((duetref20_in.f a0 65281 65376).bind fun t114 => (if t114 = true then (some 2) else ((duetref20_in.f a0 65504 65510).bind fun t115 => (if t115 = true then (some 2) else ((duetref20_in.f a0 127744 128591).bind fun t116 => (if t116 = true then (some 2) else ((duetref20_in.f a0 128640 128767).bind fun t117 => (if t117 = true then (some 2) else ((duetref20_in.f a0 129280 129535).bind fun t118 => (if t118 = true then (some 2) else ((duetref20_in.f a0 131072 262141).bind fun t119 => (if t119 = true then (some 2) else (some 1)))))))))))))))))))) = some r := H
            have A23 := Aside0.mk A230
            clear A230
            by_cases c24 : t110 = true
            · subst c24
              have H1 : (some 2) = some r := by rw [if_pos rfl] at H; exact H
              clear H
              have H := H1
              clear H1
              obtain rfl := Option.some.inj H
              go_wp2_with (first | ((with_reducible refine gate_callee (f := 17) rfl ?_); refine goesL_ (some 38) rfl rfl Tryd.func17 (by kernel_rfl) rfl #[.int .i64 a0, .int .i64 4352, .int .i64 4447] rfl (by (try simp only [List.map_toArray, List.map_cons, List.map_nil]); first | done | rfl | (simp only [List.length_drop, List.length_take]; rfl)) ?_; (with_reducible refine (duetref20_in.calls a0 4352 4447 false _ A19.out).mono ?_); rintro e w' ⟨rfl, ⟨nd, rfl⟩⟩; refine ⟨_, rfl, ?_⟩) | (go_at_call 17; (with_reducible refine (duetref20_in.calls a0 11904 12350 false _ A21.out).mono ?_); rintro e w' ⟨rfl, ⟨nd, rfl⟩⟩) | (go_at_call 17; (with_reducible refine (duetref20_in.calls a0 12353 42191 true _ A23.out).mono ?_); rintro e w' ⟨rfl, ⟨nd, rfl⟩⟩))
              go_ret
              exact ⟨by first | rfl | (simp; done) | (simp [*]; done), by repeat (first | exact Drawn0.refl _ | apply Drawn0.step)⟩
            · replace c24 := Bool.eq_false_iff.mpr c24
              subst c24
              have H1 : ((duetref20_in.f a0 44032 55203).bind fun t111 => (if t111 = true then (some 2) else ((duetref20_in.f a0 63744 64255).bind fun t112 => (if t112 = true then (some 2) else ((duetref20_in.f a0 65072 65135).bind fun t113 => (if t113 = true then (some 2) else ((duetref20_in.f a0 65281 65376).bind fun t114 => (if t114 = true then (some 2) else ((duetref20_in.f a0 65504 65510).bind fun t115 => (if t115 = true then (some 2) else ((duetref20_in.f a0 127744 128591).bind fun t116 => (if t116 = true then (some 2) else ((duetref20_in.f a0 128640 128767).bind fun t117 => (if t117 = true then (some 2) else ((duetref20_in.f a0 129280 129535).bind fun t118 => (if t118 = true then (some 2) else ((duetref20_in.f a0 131072 262141).bind fun t119 => (if t119 = true then (some 2) else (some 1))))))))))))))))))) = some r := by rw [if_neg (show ¬ (false = true) by decide)] at H; exact H
              clear H
              have H := H1
              clear H1
              replace H := Option.bind_eq_some_iff.mp H
              obtain ⟨t111, A250, H⟩ := H
              replace H : (if t111 = true then (some 2) else ((duetref20_in.f a0 63744 64255).bind fun t112 => (if t112 = true then (some 2) else ((duetref20_in.f a0 65072 65135).bind fun t113 => (if t113 = true then (some 2) else ((duetref20_in.f a0 65281 65376).bind fun t114 => (if t114 = true then (some 2) else ((duetref20_in.f a0 65504 65510).bind fun t115 => (if t115 = true then (some 2) else ((duetref20_in.f a0 127744 128591).bind fun t116 => (if t116 = true then (some 2) else ((duetref20_in.f a0 128640 128767).bind fun t117 => (if t117 = true then (some 2) else ((duetref20_in.f a0 129280 129535).bind fun t118 => (if t118 = true then (some 2) else ((duetref20_in.f a0 131072 262141).bind fun t119 => (if t119 = true then (some 2) else (some 1)))))))))))))))))) = some r := H
              have A25 := Aside0.mk A250
              clear A250
              by_cases c26 : t111 = true
              · subst c26
                have H1 : (some 2) = some r := by rw [if_pos rfl] at H; exact H
                clear H
                have H := H1
                clear H1
                obtain rfl := Option.some.inj H
                go_wp2_with (first | ((with_reducible refine gate_callee (f := 17) rfl ?_); refine goesL_ (some 38) rfl rfl Tryd.func17 (by kernel_rfl) rfl #[.int .i64 a0, .int .i64 4352, .int .i64 4447] rfl (by (try simp only [List.map_toArray, List.map_cons, List.map_nil]); first | done | rfl | (simp only [List.length_drop, List.length_take]; rfl)) ?_; (with_reducible refine (duetref20_in.calls a0 4352 4447 false _ A19.out).mono ?_); rintro e w' ⟨rfl, ⟨nd, rfl⟩⟩; refine ⟨_, rfl, ?_⟩) | (go_at_call 17; (with_reducible refine (duetref20_in.calls a0 11904 12350 false _ A21.out).mono ?_); rintro e w' ⟨rfl, ⟨nd, rfl⟩⟩) | (go_at_call 17; (with_reducible refine (duetref20_in.calls a0 12353 42191 false _ A23.out).mono ?_); rintro e w' ⟨rfl, ⟨nd, rfl⟩⟩) | (go_at_call 17; (with_reducible refine (duetref20_in.calls a0 44032 55203 true _ A25.out).mono ?_); rintro e w' ⟨rfl, ⟨nd, rfl⟩⟩))
                go_ret
                exact ⟨by first | rfl | (simp; done) | (simp [*]; done), by repeat (first | exact Drawn0.refl _ | apply Drawn0.step)⟩
              · replace c26 := Bool.eq_false_iff.mpr c26
                subst c26
                have H1 : ((duetref20_in.f a0 63744 64255).bind fun t112 => (if t112 = true then (some 2) else ((duetref20_in.f a0 65072 65135).bind fun t113 => (if t113 = true then (some 2) else ((duetref20_in.f a0 65281 65376).bind fun t114 => (if t114 = true then (some 2) else ((duetref20_in.f a0 65504 65510).bind fun t115 => (if t115 = true then (some 2) else ((duetref20_in.f a0 127744 128591).bind fun t116 => (if t116 = true then (some 2) else ((duetref20_in.f a0 128640 128767).bind fun t117 => (if t117 = true then (some 2) else ((duetref20_in.f a0 129280 129535).bind fun t118 => (if t118 = true then (some 2) else ((duetref20_in.f a0 131072 262141).bind fun t119 => (if t119 = true then (some 2) else (some 1))))))))))))))))) = some r := by rw [if_neg (show ¬ (false = true) by decide)] at H; exact H
                clear H
                have H := H1
                clear H1
                replace H := Option.bind_eq_some_iff.mp H
                obtain ⟨t112, A270, H⟩ := H
                replace H : (if t112 = true then (some 2) else ((duetref20_in.f a0 65072 65135).bind fun t113 => (if t113 = true then (some 2) else ((duetref20_in.f a0 65281 65376).bind fun t114 => (if t114 = true then (some 2) else ((duetref20_in.f a0 65504 65510).bind fun t115 => (if t115 = true then (some 2) else ((duetref20_in.f a0 127744 128591).bind fun t116 => (if t116 = true then (some 2) else ((duetref20_in.f a0 128640 128767).bind fun t117 => (if t117 = true then (some 2) else ((duetref20_in.f a0 129280 129535).bind fun t118 => (if t118 = true then (some 2) else ((duetref20_in.f a0 131072 262141).bind fun t119 => (if t119 = true then (some 2) else (some 1)))))))))))))))) = some r := H
                have A27 := Aside0.mk A270
                clear A270
                by_cases c28 : t112 = true
                · subst c28
                  have H1 : (some 2) = some r := by rw [if_pos rfl] at H; exact H
                  clear H
                  have H := H1
                  clear H1
                  obtain rfl := Option.some.inj H
                  go_wp2_with (first | ((with_reducible refine gate_callee (f := 17) rfl ?_); refine goesL_ (some 38) rfl rfl Tryd.func17 (by kernel_rfl) rfl #[.int .i64 a0, .int .i64 4352, .int .i64 4447] rfl (by (try simp only [List.map_toArray, List.map_cons, List.map_nil]); first | done | rfl | (simp only [List.length_drop, List.length_take]; rfl)) ?_; (with_reducible refine (duetref20_in.calls a0 4352 4447 false _ A19.out).mono ?_); rintro e w' ⟨rfl, ⟨nd, rfl⟩⟩; refine ⟨_, rfl, ?_⟩) | (go_at_call 17; (with_reducible refine (duetref20_in.calls a0 11904 12350 false _ A21.out).mono ?_); rintro e w' ⟨rfl, ⟨nd, rfl⟩⟩) | (go_at_call 17; (with_reducible refine (duetref20_in.calls a0 12353 42191 false _ A23.out).mono ?_); rintro e w' ⟨rfl, ⟨nd, rfl⟩⟩) | (go_at_call 17; (with_reducible refine (duetref20_in.calls a0 44032 55203 false _ A25.out).mono ?_); rintro e w' ⟨rfl, ⟨nd, rfl⟩⟩) | (go_at_call 17; (with_reducible refine (duetref20_in.calls a0 63744 64255 true _ A27.out).mono ?_); rintro e w' ⟨rfl, ⟨nd, rfl⟩⟩))
                  go_ret
                  exact ⟨by first | rfl | (simp; done) | (simp [*]; done), by repeat (first | exact Drawn0.refl _ | apply Drawn0.step)⟩
                · replace c28 := Bool.eq_false_iff.mpr c28
                  subst c28
                  have H1 : ((duetref20_in.f a0 65072 65135).bind fun t113 => (if t113 = true then (some 2) else ((duetref20_in.f a0 65281 65376).bind fun t114 => (if t114 = true then (some 2) else ((duetref20_in.f a0 65504 65510).bind fun t115 => (if t115 = true then (some 2) else ((duetref20_in.f a0 127744 128591).bind fun t116 => (if t116 = true then (some 2) else ((duetref20_in.f a0 128640 128767).bind fun t117 => (if t117 = true then (some 2) else ((duetref20_in.f a0 129280 129535).bind fun t118 => (if t118 = true then (some 2) else ((duetref20_in.f a0 131072 262141).bind fun t119 => (if t119 = true then (some 2) else (some 1))))))))))))))) = some r := by rw [if_neg (show ¬ (false = true) by decide)] at H; exact H
                  clear H
                  have H := H1
                  clear H1
                  replace H := Option.bind_eq_some_iff.mp H
                  obtain ⟨t113, A290, H⟩ := H
                  replace H : (if t113 = true then (some 2) else ((duetref20_in.f a0 65281 65376).bind fun t114 => (if t114 = true then (some 2) else ((duetref20_in.f a0 65504 65510).bind fun t115 => (if t115 = true then (some 2) else ((duetref20_in.f a0 127744 128591).bind fun t116 => (if t116 = true then (some 2) else ((duetref20_in.f a0 128640 128767).bind fun t117 => (if t117 = true then (some 2) else ((duetref20_in.f a0 129280 129535).bind fun t118 => (if t118 = true then (some 2) else ((duetref20_in.f a0 131072 262141).bind fun t119 => (if t119 = true then (some 2) else (some 1)))))))))))))) = some r := H
                  have A29 := Aside0.mk A290
                  clear A290
                  by_cases c30 : t113 = true
                  · subst c30
                    have H1 : (some 2) = some r := by rw [if_pos rfl] at H; exact H
                    clear H
                    have H := H1
                    clear H1
                    obtain rfl := Option.some.inj H
                    go_wp2_with (first | ((with_reducible refine gate_callee (f := 17) rfl ?_); refine goesL_ (some 38) rfl rfl Tryd.func17 (by kernel_rfl) rfl #[.int .i64 a0, .int .i64 4352, .int .i64 4447] rfl (by (try simp only [List.map_toArray, List.map_cons, List.map_nil]); first | done | rfl | (simp only [List.length_drop, List.length_take]; rfl)) ?_; (with_reducible refine (duetref20_in.calls a0 4352 4447 false _ A19.out).mono ?_); rintro e w' ⟨rfl, ⟨nd, rfl⟩⟩; refine ⟨_, rfl, ?_⟩) | (go_at_call 17; (with_reducible refine (duetref20_in.calls a0 11904 12350 false _ A21.out).mono ?_); rintro e w' ⟨rfl, ⟨nd, rfl⟩⟩) | (go_at_call 17; (with_reducible refine (duetref20_in.calls a0 12353 42191 false _ A23.out).mono ?_); rintro e w' ⟨rfl, ⟨nd, rfl⟩⟩) | (go_at_call 17; (with_reducible refine (duetref20_in.calls a0 44032 55203 false _ A25.out).mono ?_); rintro e w' ⟨rfl, ⟨nd, rfl⟩⟩) | (go_at_call 17; (with_reducible refine (duetref20_in.calls a0 63744 64255 false _ A27.out).mono ?_); rintro e w' ⟨rfl, ⟨nd, rfl⟩⟩) | (go_at_call 17; (with_reducible refine (duetref20_in.calls a0 65072 65135 true _ A29.out).mono ?_); rintro e w' ⟨rfl, ⟨nd, rfl⟩⟩))
                    go_ret
                    exact ⟨by first | rfl | (simp; done) | (simp [*]; done), by repeat (first | exact Drawn0.refl _ | apply Drawn0.step)⟩
                  · replace c30 := Bool.eq_false_iff.mpr c30
                    subst c30
                    have H1 : ((duetref20_in.f a0 65281 65376).bind fun t114 => (if t114 = true then (some 2) else ((duetref20_in.f a0 65504 65510).bind fun t115 => (if t115 = true then (some 2) else ((duetref20_in.f a0 127744 128591).bind fun t116 => (if t116 = true then (some 2) else ((duetref20_in.f a0 128640 128767).bind fun t117 => (if t117 = true then (some 2) else ((duetref20_in.f a0 129280 129535).bind fun t118 => (if t118 = true then (some 2) else ((duetref20_in.f a0 131072 262141).bind fun t119 => (if t119 = true then (some 2) else (some 1))))))))))))) = some r := by rw [if_neg (show ¬ (false = true) by decide)] at H; exact H
                    clear H
                    have H := H1
                    clear H1
                    replace H := Option.bind_eq_some_iff.mp H
                    obtain ⟨t114, A310, H⟩ := H
                    replace H : (if t114 = true then (some 2) else ((duetref20_in.f a0 65504 65510).bind fun t115 => (if t115 = true then (some 2) else ((duetref20_in.f a0 127744 128591).bind fun t116 => (if t116 = true then (some 2) else ((duetref20_in.f a0 128640 128767).bind fun t117 => (if t117 = true then (some 2) else ((duetref20_in.f a0 129280 129535).bind fun t118 => (if t118 = true then (some 2) else ((duetref20_in.f a0 131072 262141).bind fun t119 => (if t119 = true then (some 2) else (some 1)))))))))))) = some r := H
                    have A31 := Aside0.mk A310
                    clear A310
                    by_cases c32 : t114 = true
                    · subst c32
                      have H1 : (some 2) = some r := by rw [if_pos rfl] at H; exact H
                      clear H
                      have H := H1
                      clear H1
                      obtain rfl := Option.some.inj H
                      go_wp2_with (first | ((with_reducible refine gate_callee (f := 17) rfl ?_); refine goesL_ (some 38) rfl rfl Tryd.func17 (by kernel_rfl) rfl #[.int .i64 a0, .int .i64 4352, .int .i64 4447] rfl (by (try simp only [List.map_toArray, List.map_cons, List.map_nil]); first | done | rfl | (simp only [List.length_drop, List.length_take]; rfl)) ?_; (with_reducible refine (duetref20_in.calls a0 4352 4447 false _ A19.out).mono ?_); rintro e w' ⟨rfl, ⟨nd, rfl⟩⟩; refine ⟨_, rfl, ?_⟩) | (go_at_call 17; (with_reducible refine (duetref20_in.calls a0 11904 12350 false _ A21.out).mono ?_); rintro e w' ⟨rfl, ⟨nd, rfl⟩⟩) | (go_at_call 17; (with_reducible refine (duetref20_in.calls a0 12353 42191 false _ A23.out).mono ?_); rintro e w' ⟨rfl, ⟨nd, rfl⟩⟩) | (go_at_call 17; (with_reducible refine (duetref20_in.calls a0 44032 55203 false _ A25.out).mono ?_); rintro e w' ⟨rfl, ⟨nd, rfl⟩⟩) | (go_at_call 17; (with_reducible refine (duetref20_in.calls a0 63744 64255 false _ A27.out).mono ?_); rintro e w' ⟨rfl, ⟨nd, rfl⟩⟩) | (go_at_call 17; (with_reducible refine (duetref20_in.calls a0 65072 65135 false _ A29.out).mono ?_); rintro e w' ⟨rfl, ⟨nd, rfl⟩⟩) | (go_at_call 17; (with_reducible refine (duetref20_in.calls a0 65281 65376 true _ A31.out).mono ?_); rintro e w' ⟨rfl, ⟨nd, rfl⟩⟩))
                      go_ret
                      exact ⟨by first | rfl | (simp; done) | (simp [*]; done), by repeat (first | exact Drawn0.refl _ | apply Drawn0.step)⟩
                    · replace c32 := Bool.eq_false_iff.mpr c32
                      subst c32
                      have H1 : ((duetref20_in.f a0 65504 65510).bind fun t115 => (if t115 = true then (some 2) else ((duetref20_in.f a0 127744 128591).bind fun t116 => (if t116 = true then (some 2) else ((duetref20_in.f a0 128640 128767).bind fun t117 => (if t117 = true then (some 2) else ((duetref20_in.f a0 129280 129535).bind fun t118 => (if t118 = true then (some 2) else ((duetref20_in.f a0 131072 262141).bind fun t119 => (if t119 = true then (some 2) else (some 1))))))))))) = some r := by rw [if_neg (show ¬ (false = true) by decide)] at H; exact H
                      clear H
                      have H := H1
                      clear H1
                      replace H := Option.bind_eq_some_iff.mp H
                      obtain ⟨t115, A330, H⟩ := H
                      replace H : (if t115 = true then (some 2) else ((duetref20_in.f a0 127744 128591).bind fun t116 => (if t116 = true then (some 2) else ((duetref20_in.f a0 128640 128767).bind fun t117 => (if t117 = true then (some 2) else ((duetref20_in.f a0 129280 129535).bind fun t118 => (if t118 = true then (some 2) else ((duetref20_in.f a0 131072 262141).bind fun t119 => (if t119 = true then (some 2) else (some 1)))))))))) = some r := H
                      have A33 := Aside0.mk A330
                      clear A330
                      by_cases c34 : t115 = true
                      · subst c34
                        have H1 : (some 2) = some r := by rw [if_pos rfl] at H; exact H
                        clear H
                        have H := H1
                        clear H1
                        obtain rfl := Option.some.inj H
                        go_wp2_with (first | ((with_reducible refine gate_callee (f := 17) rfl ?_); refine goesL_ (some 38) rfl rfl Tryd.func17 (by kernel_rfl) rfl #[.int .i64 a0, .int .i64 4352, .int .i64 4447] rfl (by (try simp only [List.map_toArray, List.map_cons, List.map_nil]); first | done | rfl | (simp only [List.length_drop, List.length_take]; rfl)) ?_; (with_reducible refine (duetref20_in.calls a0 4352 4447 false _ A19.out).mono ?_); rintro e w' ⟨rfl, ⟨nd, rfl⟩⟩; refine ⟨_, rfl, ?_⟩) | (go_at_call 17; (with_reducible refine (duetref20_in.calls a0 11904 12350 false _ A21.out).mono ?_); rintro e w' ⟨rfl, ⟨nd, rfl⟩⟩) | (go_at_call 17; (with_reducible refine (duetref20_in.calls a0 12353 42191 false _ A23.out).mono ?_); rintro e w' ⟨rfl, ⟨nd, rfl⟩⟩) | (go_at_call 17; (with_reducible refine (duetref20_in.calls a0 44032 55203 false _ A25.out).mono ?_); rintro e w' ⟨rfl, ⟨nd, rfl⟩⟩) | (go_at_call 17; (with_reducible refine (duetref20_in.calls a0 63744 64255 false _ A27.out).mono ?_); rintro e w' ⟨rfl, ⟨nd, rfl⟩⟩) | (go_at_call 17; (with_reducible refine (duetref20_in.calls a0 65072 65135 false _ A29.out).mono ?_); rintro e w' ⟨rfl, ⟨nd, rfl⟩⟩) | (go_at_call 17; (with_reducible refine (duetref20_in.calls a0 65281 65376 false _ A31.out).mono ?_); rintro e w' ⟨rfl, ⟨nd, rfl⟩⟩) | (go_at_call 17; (with_reducible refine (duetref20_in.calls a0 65504 65510 true _ A33.out).mono ?_); rintro e w' ⟨rfl, ⟨nd, rfl⟩⟩))
                        go_ret
                        exact ⟨by first | rfl | (simp; done) | (simp [*]; done), by repeat (first | exact Drawn0.refl _ | apply Drawn0.step)⟩
                      · replace c34 := Bool.eq_false_iff.mpr c34
                        subst c34
                        have H1 : ((duetref20_in.f a0 127744 128591).bind fun t116 => (if t116 = true then (some 2) else ((duetref20_in.f a0 128640 128767).bind fun t117 => (if t117 = true then (some 2) else ((duetref20_in.f a0 129280 129535).bind fun t118 => (if t118 = true then (some 2) else ((duetref20_in.f a0 131072 262141).bind fun t119 => (if t119 = true then (some 2) else (some 1))))))))) = some r := by rw [if_neg (show ¬ (false = true) by decide)] at H; exact H
                        clear H
                        have H := H1
                        clear H1
                        replace H := Option.bind_eq_some_iff.mp H
                        obtain ⟨t116, A350, H⟩ := H
                        replace H : (if t116 = true then (some 2) else ((duetref20_in.f a0 128640 128767).bind fun t117 => (if t117 = true then (some 2) else ((duetref20_in.f a0 129280 129535).bind fun t118 => (if t118 = true then (some 2) else ((duetref20_in.f a0 131072 262141).bind fun t119 => (if t119 = true then (some 2) else (some 1)))))))) = some r := H
                        have A35 := Aside0.mk A350
                        clear A350
                        by_cases c36 : t116 = true
                        · subst c36
                          have H1 : (some 2) = some r := by rw [if_pos rfl] at H; exact H
                          clear H
                          have H := H1
                          clear H1
                          obtain rfl := Option.some.inj H
                          go_wp2_with (first | ((with_reducible refine gate_callee (f := 17) rfl ?_); refine goesL_ (some 38) rfl rfl Tryd.func17 (by kernel_rfl) rfl #[.int .i64 a0, .int .i64 4352, .int .i64 4447] rfl (by (try simp only [List.map_toArray, List.map_cons, List.map_nil]); first | done | rfl | (simp only [List.length_drop, List.length_take]; rfl)) ?_; (with_reducible refine (duetref20_in.calls a0 4352 4447 false _ A19.out).mono ?_); rintro e w' ⟨rfl, ⟨nd, rfl⟩⟩; refine ⟨_, rfl, ?_⟩) | (go_at_call 17; (with_reducible refine (duetref20_in.calls a0 11904 12350 false _ A21.out).mono ?_); rintro e w' ⟨rfl, ⟨nd, rfl⟩⟩) | (go_at_call 17; (with_reducible refine (duetref20_in.calls a0 12353 42191 false _ A23.out).mono ?_); rintro e w' ⟨rfl, ⟨nd, rfl⟩⟩) | (go_at_call 17; (with_reducible refine (duetref20_in.calls a0 44032 55203 false _ A25.out).mono ?_); rintro e w' ⟨rfl, ⟨nd, rfl⟩⟩) | (go_at_call 17; (with_reducible refine (duetref20_in.calls a0 63744 64255 false _ A27.out).mono ?_); rintro e w' ⟨rfl, ⟨nd, rfl⟩⟩) | (go_at_call 17; (with_reducible refine (duetref20_in.calls a0 65072 65135 false _ A29.out).mono ?_); rintro e w' ⟨rfl, ⟨nd, rfl⟩⟩) | (go_at_call 17; (with_reducible refine (duetref20_in.calls a0 65281 65376 false _ A31.out).mono ?_); rintro e w' ⟨rfl, ⟨nd, rfl⟩⟩) | (go_at_call 17; (with_reducible refine (duetref20_in.calls a0 65504 65510 false _ A33.out).mono ?_); rintro e w' ⟨rfl, ⟨nd, rfl⟩⟩) | (go_at_call 17; (with_reducible refine (duetref20_in.calls a0 127744 128591 true _ A35.out).mono ?_); rintro e w' ⟨rfl, ⟨nd, rfl⟩⟩))
                          go_ret
                          exact ⟨by first | rfl | (simp; done) | (simp [*]; done), by repeat (first | exact Drawn0.refl _ | apply Drawn0.step)⟩
                        · replace c36 := Bool.eq_false_iff.mpr c36
                          subst c36
                          have H1 : ((duetref20_in.f a0 128640 128767).bind fun t117 => (if t117 = true then (some 2) else ((duetref20_in.f a0 129280 129535).bind fun t118 => (if t118 = true then (some 2) else ((duetref20_in.f a0 131072 262141).bind fun t119 => (if t119 = true then (some 2) else (some 1))))))) = some r := by rw [if_neg (show ¬ (false = true) by decide)] at H; exact H
                          clear H
                          have H := H1
                          clear H1
                          replace H := Option.bind_eq_some_iff.mp H
                          obtain ⟨t117, A370, H⟩ := H
                          replace H : (if t117 = true then (some 2) else ((duetref20_in.f a0 129280 129535).bind fun t118 => (if t118 = true then (some 2) else ((duetref20_in.f a0 131072 262141).bind fun t119 => (if t119 = true then (some 2) else (some 1)))))) = some r := H
                          have A37 := Aside0.mk A370
                          clear A370
                          by_cases c38 : t117 = true
                          · subst c38
                            have H1 : (some 2) = some r := by rw [if_pos rfl] at H; exact H
                            clear H
                            have H := H1
                            clear H1
                            obtain rfl := Option.some.inj H
                            go_wp2_with (first | ((with_reducible refine gate_callee (f := 17) rfl ?_); refine goesL_ (some 38) rfl rfl Tryd.func17 (by kernel_rfl) rfl #[.int .i64 a0, .int .i64 4352, .int .i64 4447] rfl (by (try simp only [List.map_toArray, List.map_cons, List.map_nil]); first | done | rfl | (simp only [List.length_drop, List.length_take]; rfl)) ?_; (with_reducible refine (duetref20_in.calls a0 4352 4447 false _ A19.out).mono ?_); rintro e w' ⟨rfl, ⟨nd, rfl⟩⟩; refine ⟨_, rfl, ?_⟩) | (go_at_call 17; (with_reducible refine (duetref20_in.calls a0 11904 12350 false _ A21.out).mono ?_); rintro e w' ⟨rfl, ⟨nd, rfl⟩⟩) | (go_at_call 17; (with_reducible refine (duetref20_in.calls a0 12353 42191 false _ A23.out).mono ?_); rintro e w' ⟨rfl, ⟨nd, rfl⟩⟩) | (go_at_call 17; (with_reducible refine (duetref20_in.calls a0 44032 55203 false _ A25.out).mono ?_); rintro e w' ⟨rfl, ⟨nd, rfl⟩⟩) | (go_at_call 17; (with_reducible refine (duetref20_in.calls a0 63744 64255 false _ A27.out).mono ?_); rintro e w' ⟨rfl, ⟨nd, rfl⟩⟩) | (go_at_call 17; (with_reducible refine (duetref20_in.calls a0 65072 65135 false _ A29.out).mono ?_); rintro e w' ⟨rfl, ⟨nd, rfl⟩⟩) | (go_at_call 17; (with_reducible refine (duetref20_in.calls a0 65281 65376 false _ A31.out).mono ?_); rintro e w' ⟨rfl, ⟨nd, rfl⟩⟩) | (go_at_call 17; (with_reducible refine (duetref20_in.calls a0 65504 65510 false _ A33.out).mono ?_); rintro e w' ⟨rfl, ⟨nd, rfl⟩⟩) | (go_at_call 17; (with_reducible refine (duetref20_in.calls a0 127744 128591 false _ A35.out).mono ?_); rintro e w' ⟨rfl, ⟨nd, rfl⟩⟩) | (go_at_call 17; (with_reducible refine (duetref20_in.calls a0 128640 128767 true _ A37.out).mono ?_); rintro e w' ⟨rfl, ⟨nd, rfl⟩⟩))
                            go_ret
                            exact ⟨by first | rfl | (simp; done) | (simp [*]; done), by repeat (first | exact Drawn0.refl _ | apply Drawn0.step)⟩
                          · replace c38 := Bool.eq_false_iff.mpr c38
                            subst c38
                            have H1 : ((duetref20_in.f a0 129280 129535).bind fun t118 => (if t118 = true then (some 2) else ((duetref20_in.f a0 131072 262141).bind fun t119 => (if t119 = true then (some 2) else (some 1))))) = some r := by rw [if_neg (show ¬ (false = true) by decide)] at H; exact H
                            clear H
                            have H := H1
                            clear H1
                            replace H := Option.bind_eq_some_iff.mp H
                            obtain ⟨t118, A390, H⟩ := H
                            replace H : (if t118 = true then (some 2) else ((duetref20_in.f a0 131072 262141).bind fun t119 => (if t119 = true then (some 2) else (some 1)))) = some r := H
                            have A39 := Aside0.mk A390
                            clear A390
                            by_cases c40 : t118 = true
                            · subst c40
                              have H1 : (some 2) = some r := by rw [if_pos rfl] at H; exact H
                              clear H
                              have H := H1
                              clear H1
                              obtain rfl := Option.some.inj H
                              go_wp2_with (first | ((with_reducible refine gate_callee (f := 17) rfl ?_); refine goesL_ (some 38) rfl rfl Tryd.func17 (by kernel_rfl) rfl #[.int .i64 a0, .int .i64 4352, .int .i64 4447] rfl (by (try simp only [List.map_toArray, List.map_cons, List.map_nil]); first | done | rfl | (simp only [List.length_drop, List.length_take]; rfl)) ?_; (with_reducible refine (duetref20_in.calls a0 4352 4447 false _ A19.out).mono ?_); rintro e w' ⟨rfl, ⟨nd, rfl⟩⟩; refine ⟨_, rfl, ?_⟩) | (go_at_call 17; (with_reducible refine (duetref20_in.calls a0 11904 12350 false _ A21.out).mono ?_); rintro e w' ⟨rfl, ⟨nd, rfl⟩⟩) | (go_at_call 17; (with_reducible refine (duetref20_in.calls a0 12353 42191 false _ A23.out).mono ?_); rintro e w' ⟨rfl, ⟨nd, rfl⟩⟩) | (go_at_call 17; (with_reducible refine (duetref20_in.calls a0 44032 55203 false _ A25.out).mono ?_); rintro e w' ⟨rfl, ⟨nd, rfl⟩⟩) | (go_at_call 17; (with_reducible refine (duetref20_in.calls a0 63744 64255 false _ A27.out).mono ?_); rintro e w' ⟨rfl, ⟨nd, rfl⟩⟩) | (go_at_call 17; (with_reducible refine (duetref20_in.calls a0 65072 65135 false _ A29.out).mono ?_); rintro e w' ⟨rfl, ⟨nd, rfl⟩⟩) | (go_at_call 17; (with_reducible refine (duetref20_in.calls a0 65281 65376 false _ A31.out).mono ?_); rintro e w' ⟨rfl, ⟨nd, rfl⟩⟩) | (go_at_call 17; (with_reducible refine (duetref20_in.calls a0 65504 65510 false _ A33.out).mono ?_); rintro e w' ⟨rfl, ⟨nd, rfl⟩⟩) | (go_at_call 17; (with_reducible refine (duetref20_in.calls a0 127744 128591 false _ A35.out).mono ?_); rintro e w' ⟨rfl, ⟨nd, rfl⟩⟩) | (go_at_call 17; (with_reducible refine (duetref20_in.calls a0 128640 128767 false _ A37.out).mono ?_); rintro e w' ⟨rfl, ⟨nd, rfl⟩⟩) | (go_at_call 17; (with_reducible refine (duetref20_in.calls a0 129280 129535 true _ A39.out).mono ?_); rintro e w' ⟨rfl, ⟨nd, rfl⟩⟩))
                              go_ret
                              exact ⟨by first | rfl | (simp; done) | (simp [*]; done), by repeat (first | exact Drawn0.refl _ | apply Drawn0.step)⟩
                            · replace c40 := Bool.eq_false_iff.mpr c40
                              subst c40
                              have H1 : ((duetref20_in.f a0 131072 262141).bind fun t119 => (if t119 = true then (some 2) else (some 1))) = some r := by rw [if_neg (show ¬ (false = true) by decide)] at H; exact H
                              clear H
                              have H := H1
                              clear H1
                              replace H := Option.bind_eq_some_iff.mp H
                              obtain ⟨t119, A410, H⟩ := H
                              replace H : (if t119 = true then (some 2) else (some 1)) = some r := H
                              have A41 := Aside0.mk A410
                              clear A410
                              by_cases c42 : t119 = true
                              · subst c42
                                have H1 : (some 2) = some r := by rw [if_pos rfl] at H; exact H
                                clear H
                                have H := H1
                                clear H1
                                obtain rfl := Option.some.inj H
                                go_wp2_with (first | ((with_reducible refine gate_callee (f := 17) rfl ?_); refine goesL_ (some 38) rfl rfl Tryd.func17 (by kernel_rfl) rfl #[.int .i64 a0, .int .i64 4352, .int .i64 4447] rfl (by (try simp only [List.map_toArray, List.map_cons, List.map_nil]); first | done | rfl | (simp only [List.length_drop, List.length_take]; rfl)) ?_; (with_reducible refine (duetref20_in.calls a0 4352 4447 false _ A19.out).mono ?_); rintro e w' ⟨rfl, ⟨nd, rfl⟩⟩; refine ⟨_, rfl, ?_⟩) | (go_at_call 17; (with_reducible refine (duetref20_in.calls a0 11904 12350 false _ A21.out).mono ?_); rintro e w' ⟨rfl, ⟨nd, rfl⟩⟩) | (go_at_call 17; (with_reducible refine (duetref20_in.calls a0 12353 42191 false _ A23.out).mono ?_); rintro e w' ⟨rfl, ⟨nd, rfl⟩⟩) | (go_at_call 17; (with_reducible refine (duetref20_in.calls a0 44032 55203 false _ A25.out).mono ?_); rintro e w' ⟨rfl, ⟨nd, rfl⟩⟩) | (go_at_call 17; (with_reducible refine (duetref20_in.calls a0 63744 64255 false _ A27.out).mono ?_); rintro e w' ⟨rfl, ⟨nd, rfl⟩⟩) | (go_at_call 17; (with_reducible refine (duetref20_in.calls a0 65072 65135 false _ A29.out).mono ?_); rintro e w' ⟨rfl, ⟨nd, rfl⟩⟩) | (go_at_call 17; (with_reducible refine (duetref20_in.calls a0 65281 65376 false _ A31.out).mono ?_); rintro e w' ⟨rfl, ⟨nd, rfl⟩⟩) | (go_at_call 17; (with_reducible refine (duetref20_in.calls a0 65504 65510 false _ A33.out).mono ?_); rintro e w' ⟨rfl, ⟨nd, rfl⟩⟩) | (go_at_call 17; (with_reducible refine (duetref20_in.calls a0 127744 128591 false _ A35.out).mono ?_); rintro e w' ⟨rfl, ⟨nd, rfl⟩⟩) | (go_at_call 17; (with_reducible refine (duetref20_in.calls a0 128640 128767 false _ A37.out).mono ?_); rintro e w' ⟨rfl, ⟨nd, rfl⟩⟩) | (go_at_call 17; (with_reducible refine (duetref20_in.calls a0 129280 129535 false _ A39.out).mono ?_); rintro e w' ⟨rfl, ⟨nd, rfl⟩⟩) | (go_at_call 17; (with_reducible refine (duetref20_in.calls a0 131072 262141 true _ A41.out).mono ?_); rintro e w' ⟨rfl, ⟨nd, rfl⟩⟩))
                                go_ret
                                exact ⟨by first | rfl | (simp; done) | (simp [*]; done), by repeat (first | exact Drawn0.refl _ | apply Drawn0.step)⟩
                              · replace c42 := Bool.eq_false_iff.mpr c42
                                subst c42
                                have H1 : (some 1) = some r := by rw [if_neg (show ¬ (false = true) by decide)] at H; exact H
                                clear H
                                have H := H1
                                clear H1
                                obtain rfl := Option.some.inj H
                                go_wp2_with (first | ((with_reducible refine gate_callee (f := 17) rfl ?_); refine goesL_ (some 38) rfl rfl Tryd.func17 (by kernel_rfl) rfl #[.int .i64 a0, .int .i64 4352, .int .i64 4447] rfl (by (try simp only [List.map_toArray, List.map_cons, List.map_nil]); first | done | rfl | (simp only [List.length_drop, List.length_take]; rfl)) ?_; (with_reducible refine (duetref20_in.calls a0 4352 4447 false _ A19.out).mono ?_); rintro e w' ⟨rfl, ⟨nd, rfl⟩⟩; refine ⟨_, rfl, ?_⟩) | (go_at_call 17; (with_reducible refine (duetref20_in.calls a0 11904 12350 false _ A21.out).mono ?_); rintro e w' ⟨rfl, ⟨nd, rfl⟩⟩) | (go_at_call 17; (with_reducible refine (duetref20_in.calls a0 12353 42191 false _ A23.out).mono ?_); rintro e w' ⟨rfl, ⟨nd, rfl⟩⟩) | (go_at_call 17; (with_reducible refine (duetref20_in.calls a0 44032 55203 false _ A25.out).mono ?_); rintro e w' ⟨rfl, ⟨nd, rfl⟩⟩) | (go_at_call 17; (with_reducible refine (duetref20_in.calls a0 63744 64255 false _ A27.out).mono ?_); rintro e w' ⟨rfl, ⟨nd, rfl⟩⟩) | (go_at_call 17; (with_reducible refine (duetref20_in.calls a0 65072 65135 false _ A29.out).mono ?_); rintro e w' ⟨rfl, ⟨nd, rfl⟩⟩) | (go_at_call 17; (with_reducible refine (duetref20_in.calls a0 65281 65376 false _ A31.out).mono ?_); rintro e w' ⟨rfl, ⟨nd, rfl⟩⟩) | (go_at_call 17; (with_reducible refine (duetref20_in.calls a0 65504 65510 false _ A33.out).mono ?_); rintro e w' ⟨rfl, ⟨nd, rfl⟩⟩) | (go_at_call 17; (with_reducible refine (duetref20_in.calls a0 127744 128591 false _ A35.out).mono ?_); rintro e w' ⟨rfl, ⟨nd, rfl⟩⟩) | (go_at_call 17; (with_reducible refine (duetref20_in.calls a0 128640 128767 false _ A37.out).mono ?_); rintro e w' ⟨rfl, ⟨nd, rfl⟩⟩) | (go_at_call 17; (with_reducible refine (duetref20_in.calls a0 129280 129535 false _ A39.out).mono ?_); rintro e w' ⟨rfl, ⟨nd, rfl⟩⟩) | (go_at_call 17; (with_reducible refine (duetref20_in.calls a0 131072 262141 false _ A41.out).mono ?_); rintro e w' ⟨rfl, ⟨nd, rfl⟩⟩))
                                go_ret
                                exact ⟨by first | rfl | (simp; done) | (simp [*]; done), by repeat (first | exact Drawn0.refl _ | apply Drawn0.step)⟩

/-! ### cells_Fit: function 12 -/
def cells_Fit.l0 : Nat → List Int → Int → Int → List Int → Int → Int → Option (Int × Int)
  | 0, _, _, _, _, _, _ => none
  | k + 1, x0, x1, x6, x12, x13, x14 => if x14 < x13 then (if 0 ≤ x14 then (if x14 < (x12.length : Int) then ((cells_Width.f (rd x12 x14)).bind fun t121 => (if (wrap64 (x6 + t121)) > x1 then (some (x14, x6)) else (cells_Fit.l0 k x0 x1 (wrap64 (x6 + t121)) x12 x13 (wrap64 (x14 + 1))))) else (none)) else (none)) else (some ((x0.length : Int), x6))
def cells_Fit.f (k : Nat) (l0 : List Int) (a1 : Int) : Option (Int × Int) := if a1 < 0 then (some (0, 0)) else (cells_Fit.l0 k l0 a1 0 l0 (l0.length : Int) 0)
theorem cells_Fit.mono_l : ∀ k, (∀ y0 y1 y2 y3 y4 y5, LeO (cells_Fit.l0 k y0 y1 y2 y3 y4 y5) (cells_Fit.l0 (k + 1) y0 y1 y2 y3 y4 y5))
  | 0 => fun _ _ _ _ _ _ r h => by simp [cells_Fit.l0] at h
  | k + 1 => by
    have ih0 := cells_Fit.mono_l k
    · intro y0 y1 y2 y3 y4 y5
      unfold cells_Fit.l0
      repeat' first
      | (with_reducible exact ih0 _ _ _ _ _ _)
      | (with_reducible exact LeO.refl _)
      | (with_reducible exact LeO.none _)
      | (with_reducible refine LeO.ite ?_ ?_)
      | (with_reducible refine LeO.bind ?_ (fun _ => ?_))
      | exact ih0 _ _ _ _ _ _
      | exact LeO.none _
      | refine LeO.ite ?_ ?_
      | refine LeO.bind ?_ (fun _ => ?_)
theorem cells_Fit.mono : ∀ a0 a1 k, LeO (cells_Fit.f k a0 a1) (cells_Fit.f (k + 1) a0 a1) := by
  intro a0 a1 k
  have ih0 := cells_Fit.mono_l k
  unfold cells_Fit.f
  repeat' first
      | (with_reducible exact ih0 _ _ _ _ _ _)
      | (with_reducible exact LeO.refl _)
      | (with_reducible exact LeO.none _)
      | (with_reducible refine LeO.ite ?_ ?_)
      | (with_reducible refine LeO.bind ?_ (fun _ => ?_))
      | exact ih0 _ _ _ _ _ _
      | exact LeO.none _
      | refine LeO.ite ?_ ?_
      | refine LeO.bind ?_ (fun _ => ?_)
set_option maxHeartbeats 8000000 in
set_option maxRecDepth 100000 in
theorem cells_Fit.calls (k : Nat) (A0 : Option Addr) (c0 : Nat) (l0 : List Int) (a1 : Int) (r1 : Int) (r2 : Int) (w : World) (hL : Go.Proofs.YtmhnldlfknbocaaDoor.Giv.Laid w) (hr0 : Kd.C (Kd.int .i64) w A0 l0.length l0) (hc0 : l0.length ≤ c0) (h : cells_Fit.f k l0 a1 = some (r1, r2)) :
    Calls Tryd.prog 12 #[.slice A0 l0.length c0, .int .i64 a1] w fun e w' => e = .returned (.tuple #[.int .i64 r1, .int .i64 r2]) ∧ Below w.heap.size w w' := by
  have HR0 := Aside0.mk hr0
  have HC0 := Aside0.mk hc0
  clear hr0 hc0
  have HB := Aside0.mk (Below.refl w.heap.size w)
  have H : (if a1 < 0 then (some (0, 0)) else (cells_Fit.l0 k l0 a1 0 l0 (l0.length : Int) 0)) = some (r1, r2) := h
  clear h
  by_cases c3 : a1 < 0
  · rw [if_pos c3] at H
    have c3b0 : decide (a1 < 0) = true := decide_eq_true c3
    clear c3
    simp only [Option.some.injEq, Prod.mk.injEq] at H
    obtain ⟨rfl, rfl⟩ := H
    go_enter Tryd.func12, Tryd.ntmps12
    go_wp2
    go_ret2
    exact ⟨by first | rfl | (simp [errW_none, errW_some] <;> rfl) | (simp [*, errW_none, errW_some] <;> rfl), by repeat (first | (with_reducible first | exact HB.out | apply below_alloc | apply pw_below_drewN | apply below_drew1) | exact HB.out)⟩
  · rw [if_neg c3] at H
    have c3b0 : decide (a1 < 0) = false := decide_eq_false c3
    clear c3
    have H' := Aside0.mk H
    clear H
    go_enter Tryd.func12, Tryd.ntmps12
    go_wp2
    go_loopg [6, 14] k (fun kq v6 v14 w' => ∃ (x6_1 : Int) (x14_1 : Int), v6 = .int .i64 x6_1 ∧ v14 = .int .i64 x14_1 ∧ Aside0 (cells_Fit.l0 kq l0 a1 x6_1 l0 (l0.length : Int) x14_1 = some (r1, r2)) ∧ Aside0 (kq ≤ k) ∧ Aside0 (Below w.heap.size w w'))
    case atStart => exact ⟨(0), (0), (by first | rfl | (simp; done) | (simp [*]; done)), (by first | rfl | (simp; done) | (simp [*]; done)), H', ⟨Nat.le_refl _⟩, ⟨by repeat (first | (with_reducible first | exact HB.out | apply below_alloc | apply pw_below_drewN | apply below_drew1) | exact HB.out)⟩⟩
    case round =>
      clear H'
      try clear c1
      try clear p2
      try clear c3
      try clear c3b0
      obtain ⟨x6_1, x14_1, rfl, rfl, HA, HK1, HB⟩ := hrel
      cases gk with
      | zero => exact absurd HA.out (by simp [cells_Fit.l0])
      | succ k1 =>
        have H := HA.out
        clear HA
        simp only [cells_Fit.l0] at H
        by_cases c4 : x14_1 < (l0.length : Int)
        · rw [if_pos c4] at H
          have c4b0 : decide (x14_1 < (l0.length : Int)) = true := decide_eq_true c4
          clear c4
          by_cases c5 : 0 ≤ x14_1
          · rw [if_pos c5] at H
            have c5b0 : decide (0 ≤ x14_1) = true := decide_eq_true c5
            clear c5
            by_cases c6 : x14_1 < (l0.length : Int)
            · rw [if_pos c6] at H
              have c6b0 : decide (x14_1 < (l0.length : Int)) = true := decide_eq_true c6
              clear c6
              replace H := Option.bind_eq_some_iff.mp H
              obtain ⟨t121, A70, H⟩ := H
              replace H : (if (wrap64 (x6_1 + t121)) > a1 then (some (x14_1, x6_1)) else (cells_Fit.l0 k1 l0 a1 (wrap64 (x6_1 + t121)) l0 (l0.length : Int) (wrap64 (x14_1 + 1)))) = some (r1, r2) := H
              have A7 := Aside0.mk A70
              clear A70
              by_cases c8 : (wrap64 (x6_1 + t121)) > a1
              · rw [if_pos c8] at H
                have c8b0 : decide (a1 < (wrap64 (x6_1 + t121))) = true := decide_eq_true c8
                clear c8
                simp only [Option.some.injEq, Prod.mk.injEq] at H
                obtain ⟨rfl, rfl⟩ := H
                have p120 : 0 ≤ (x14_1 : Int) := of_decide_eq_true (by first | (with_reducible assumption) | assumption)
                have q120 : x14_1 < (l0.length : Int) := of_decide_eq_true (by first | (with_reducible assumption) | assumption)
                obtain ⟨ad120, e120, hx120_0⟩ := Kd.at_int HR0.out x14_1 p120 q120
                cases e120
                replace hx120_0 := (HB.out.cell (World.block_lt_of_cell? w _ hx120_0)).trans hx120_0
                replace p120 := eq_true p120
                replace q120 := eq_true q120
                go_wp2_with (first | ((with_reducible refine gate_callee (f := 9) rfl ?_); refine goesL_ (some 20) rfl rfl Tryd.func9 (by kernel_rfl) rfl #[.int .i64 (rd l0 x14_1)] rfl (by (try simp only [List.map_toArray, List.map_cons, List.map_nil]); first | done | rfl | (simp only [List.length_drop, List.length_take]; rfl)) ?_; (with_reducible refine (cells_Width.calls (rd l0 x14_1) t121 _ ?side1 A7.out).mono ?_); (case side1 => exact hL.below (by repeat (first | (with_reducible first | exact HB.out | apply below_alloc | apply pw_below_drewN | apply below_drew1) | exact HB.out))); rintro e w9 ⟨rfl, hb⟩; refine ⟨_, rfl, ?_⟩; have n0_ := Aside0.mk (below_step (by repeat (first | (with_reducible first | exact HB.out | apply below_alloc | apply pw_below_drewN | apply below_drew1) | exact HB.out)) hb); clear HB; have HB := n0_; clear n0_; (try clear hb); (try clear hb2); (try clear hk); (try clear hi)))
                go_ret2
                exact ⟨by first | rfl | (simp [errW_none, errW_some] <;> rfl) | (simp [*, errW_none, errW_some] <;> rfl), by repeat (first | (with_reducible first | exact HB.out | apply below_alloc | apply pw_below_drewN | apply below_drew1) | exact HB.out)⟩
              · rw [if_neg c8] at H
                have c8b0 : decide (a1 < (wrap64 (x6_1 + t121))) = false := decide_eq_false c8
                clear c8
                have H' := Aside0.mk H
                clear H
                have p120 : 0 ≤ (x14_1 : Int) := of_decide_eq_true (by first | (with_reducible assumption) | assumption)
                have q120 : x14_1 < (l0.length : Int) := of_decide_eq_true (by first | (with_reducible assumption) | assumption)
                obtain ⟨ad120, e120, hx120_0⟩ := Kd.at_int HR0.out x14_1 p120 q120
                cases e120
                replace hx120_0 := (HB.out.cell (World.block_lt_of_cell? w _ hx120_0)).trans hx120_0
                replace p120 := eq_true p120
                replace q120 := eq_true q120
                go_wp2_with (first | ((with_reducible refine gate_callee (f := 9) rfl ?_); refine goesL_ (some 20) rfl rfl Tryd.func9 (by kernel_rfl) rfl #[.int .i64 (rd l0 x14_1)] rfl (by (try simp only [List.map_toArray, List.map_cons, List.map_nil]); first | done | rfl | (simp only [List.length_drop, List.length_take]; rfl)) ?_; (with_reducible refine (cells_Width.calls (rd l0 x14_1) t121 _ ?side1 A7.out).mono ?_); (case side1 => exact hL.below (by repeat (first | (with_reducible first | exact HB.out | apply below_alloc | apply pw_below_drewN | apply below_drew1) | exact HB.out))); rintro e w10 ⟨rfl, hb⟩; refine ⟨_, rfl, ?_⟩; have n0_ := Aside0.mk (below_step (by repeat (first | (with_reducible first | exact HB.out | apply below_alloc | apply pw_below_drewN | apply below_drew1) | exact HB.out)) hb); clear HB; have HB := n0_; clear n0_; (try clear hb); (try clear hb2); (try clear hk); (try clear hi)))
                go_roundg k1
                case measure => have := HK1.out; omega
                case rel => exact ⟨(wrap64 (x6_1 + t121)), (wrap64 (x14_1 + 1)), (by first | rfl | (simp; done) | (simp [*]; done)), (by first | rfl | (simp; done) | (simp [*]; done)), H', ⟨by have := HK1.out; omega⟩, ⟨by repeat (first | (with_reducible first | exact HB.out | apply below_alloc | apply pw_below_drewN | apply below_drew1) | exact HB.out)⟩⟩
            · rw [if_neg c6] at H
              exact absurd H (by simp)
          · rw [if_neg c5] at H
            exact absurd H (by simp)
        · rw [if_neg c4] at H
          have c4b0 : decide (x14_1 < (l0.length : Int)) = false := decide_eq_false c4
          clear c4
          simp only [Option.some.injEq, Prod.mk.injEq] at H
          obtain ⟨rfl, rfl⟩ := H
          go_wp2
          go_ret2
          exact ⟨by first | rfl | (simp [errW_none, errW_some] <;> rfl) | (simp [*, errW_none, errW_some] <;> rfl), by repeat (first | (with_reducible first | exact HB.out | apply below_alloc | apply pw_below_drewN | apply below_drew1) | exact HB.out)⟩

/-! ### cells_Total: function 14 -/
def cells_Total.l0 : Nat → Int → List Int → Int → Int → Option (Int)
  | 0, _, _, _, _ => none
  | k + 1, x3, x6, x7, x8 => if x8 < x7 then (if 0 ≤ x8 then (if x8 < (x6.length : Int) then ((cells_Width.f (rd x6 x8)).bind fun t123 => (cells_Total.l0 k (wrap64 (x3 + t123)) x6 x7 (wrap64 (x8 + 1)))) else (none)) else (none)) else (some x3)
def cells_Total.f (k : Nat) (l0 : List Int) : Option (Int) := cells_Total.l0 k 0 l0 (l0.length : Int) 0
theorem cells_Total.mono_l : ∀ k, (∀ y0 y1 y2 y3, LeO (cells_Total.l0 k y0 y1 y2 y3) (cells_Total.l0 (k + 1) y0 y1 y2 y3))
  | 0 => fun _ _ _ _ r h => by simp [cells_Total.l0] at h
  | k + 1 => by
    have ih0 := cells_Total.mono_l k
    · intro y0 y1 y2 y3
      unfold cells_Total.l0
      repeat' first
      | (with_reducible exact ih0 _ _ _ _)
      | (with_reducible exact LeO.refl _)
      | (with_reducible exact LeO.none _)
      | (with_reducible refine LeO.ite ?_ ?_)
      | (with_reducible refine LeO.bind ?_ (fun _ => ?_))
      | exact ih0 _ _ _ _
      | exact LeO.none _
      | refine LeO.ite ?_ ?_
      | refine LeO.bind ?_ (fun _ => ?_)
theorem cells_Total.mono : ∀ a0 k, LeO (cells_Total.f k a0) (cells_Total.f (k + 1) a0) := by
  intro a0 k
  have ih0 := cells_Total.mono_l k
  unfold cells_Total.f
  repeat' first
      | (with_reducible exact ih0 _ _ _ _)
      | (with_reducible exact LeO.refl _)
      | (with_reducible exact LeO.none _)
      | (with_reducible refine LeO.ite ?_ ?_)
      | (with_reducible refine LeO.bind ?_ (fun _ => ?_))
      | exact ih0 _ _ _ _
      | exact LeO.none _
      | refine LeO.ite ?_ ?_
      | refine LeO.bind ?_ (fun _ => ?_)
set_option maxHeartbeats 8000000 in
set_option maxRecDepth 100000 in
theorem cells_Total.calls (k : Nat) (A0 : Option Addr) (c0 : Nat) (l0 : List Int) (r : Int) (w : World) (hL : Go.Proofs.YtmhnldlfknbocaaDoor.Giv.Laid w) (hr0 : Kd.C (Kd.int .i64) w A0 l0.length l0) (hc0 : l0.length ≤ c0) (h : cells_Total.f k l0 = some r) :
    Calls Tryd.prog 14 #[.slice A0 l0.length c0] w fun e w' => e = .returned (.int .i64 r) ∧ Below w.heap.size w w' := by
  have HR0 := Aside0.mk hr0
  have HC0 := Aside0.mk hc0
  clear hr0 hc0
  have HB := Aside0.mk (Below.refl w.heap.size w)
  have H : (cells_Total.l0 k 0 l0 (l0.length : Int) 0) = some r := h
  clear h
  have H' := Aside0.mk H
  clear H
  go_enter Tryd.func14, Tryd.ntmps14
  go_wp2
  go_loopg [3, 8] k (fun kq v3 v8 w' => ∃ (x3_1 : Int) (x8_1 : Int), v3 = .int .i64 x3_1 ∧ v8 = .int .i64 x8_1 ∧ Aside0 (cells_Total.l0 kq x3_1 l0 (l0.length : Int) x8_1 = some r) ∧ Aside0 (kq ≤ k) ∧ Aside0 (Below w.heap.size w w'))
  case atStart => exact ⟨(0), (0), (by first | rfl | (simp; done) | (simp [*]; done)), (by first | rfl | (simp; done) | (simp [*]; done)), H', ⟨Nat.le_refl _⟩, ⟨by repeat (first | (with_reducible first | exact HB.out | apply below_alloc | apply pw_below_drewN | apply below_drew1) | exact HB.out)⟩⟩
  case round =>
    clear H'
    try clear c1
    obtain ⟨x3_1, x8_1, rfl, rfl, HA, HK1, HB⟩ := hrel
    cases gk with
    | zero => exact absurd HA.out (by simp [cells_Total.l0])
    | succ k1 =>
      have H := HA.out
      clear HA
      simp only [cells_Total.l0] at H
      by_cases c2 : x8_1 < (l0.length : Int)
      · rw [if_pos c2] at H
        have c2b0 : decide (x8_1 < (l0.length : Int)) = true := decide_eq_true c2
        clear c2
        by_cases c3 : 0 ≤ x8_1
        · rw [if_pos c3] at H
          have c3b0 : decide (0 ≤ x8_1) = true := decide_eq_true c3
          clear c3
          by_cases c4 : x8_1 < (l0.length : Int)
          · rw [if_pos c4] at H
            have c4b0 : decide (x8_1 < (l0.length : Int)) = true := decide_eq_true c4
            clear c4
            replace H := Option.bind_eq_some_iff.mp H
            obtain ⟨t123, A50, H⟩ := H
            replace H : (cells_Total.l0 k1 (wrap64 (x3_1 + t123)) l0 (l0.length : Int) (wrap64 (x8_1 + 1))) = some r := H
            have A5 := Aside0.mk A50
            clear A50
            have H' := Aside0.mk H
            clear H
            have p122 : 0 ≤ (x8_1 : Int) := of_decide_eq_true (by first | (with_reducible assumption) | assumption)
            have q122 : x8_1 < (l0.length : Int) := of_decide_eq_true (by first | (with_reducible assumption) | assumption)
            obtain ⟨ad122, e122, hx122_0⟩ := Kd.at_int HR0.out x8_1 p122 q122
            cases e122
            replace hx122_0 := (HB.out.cell (World.block_lt_of_cell? w _ hx122_0)).trans hx122_0
            replace p122 := eq_true p122
            replace q122 := eq_true q122
            go_wp2_with (first | ((with_reducible refine gate_callee (f := 9) rfl ?_); refine goesL_ (some 14) rfl rfl Tryd.func9 (by kernel_rfl) rfl #[.int .i64 (rd l0 x8_1)] rfl (by (try simp only [List.map_toArray, List.map_cons, List.map_nil]); first | done | rfl | (simp only [List.length_drop, List.length_take]; rfl)) ?_; (with_reducible refine (cells_Width.calls (rd l0 x8_1) t123 _ ?side1 A5.out).mono ?_); (case side1 => exact hL.below (by repeat (first | (with_reducible first | exact HB.out | apply below_alloc | apply pw_below_drewN | apply below_drew1) | exact HB.out))); rintro e w6 ⟨rfl, hb⟩; refine ⟨_, rfl, ?_⟩; have n0_ := Aside0.mk (below_step (by repeat (first | (with_reducible first | exact HB.out | apply below_alloc | apply pw_below_drewN | apply below_drew1) | exact HB.out)) hb); clear HB; have HB := n0_; clear n0_; (try clear hb); (try clear hb2); (try clear hk); (try clear hi)))
            go_roundg k1
            case measure => have := HK1.out; omega
            case rel => exact ⟨(wrap64 (x3_1 + t123)), (wrap64 (x8_1 + 1)), (by first | rfl | (simp; done) | (simp [*]; done)), (by first | rfl | (simp; done) | (simp [*]; done)), H', ⟨by have := HK1.out; omega⟩, ⟨by repeat (first | (with_reducible first | exact HB.out | apply below_alloc | apply pw_below_drewN | apply below_drew1) | exact HB.out)⟩⟩
          · rw [if_neg c4] at H
            exact absurd H (by simp)
        · rw [if_neg c3] at H
          exact absurd H (by simp)
      · rw [if_neg c2] at H
        have c2b0 : decide (x8_1 < (l0.length : Int)) = false := decide_eq_false c2
        clear c2
        obtain rfl := Option.some.inj H
        go_wp2
        go_ret
        exact ⟨by first | rfl | (simp [errW_none, errW_some] <;> rfl) | (simp [*, errW_none, errW_some] <;> rfl), by repeat (first | (with_reducible first | exact HB.out | apply below_alloc | apply pw_below_drewN | apply below_drew1) | exact HB.out)⟩

end Go.Proofs.YtmhnldlfknbocaaDoor.P

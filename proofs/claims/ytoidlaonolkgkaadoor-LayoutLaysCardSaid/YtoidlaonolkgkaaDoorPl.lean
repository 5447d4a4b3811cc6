-- Written by a program of this session (wip/tools/pp.py) out of the translation. Not trusted: Lean checks it.
import Derived.Test.YtoidlaonolkgkaaDoorPx0
import Derived.Test.YtoidlaonolkgkaaDoorPx1
import Derived.Test.YtoidlaonolkgkaaDoorPx2
import Derived.Test.YtoidlaonolkgkaaDoorGiv
import Derived.Test.YtoidlaonolkgkaaDoorGv
namespace Go.Proofs.YtoidlaonolkgkaaDoor.P
open Go.RowKit Go.Proofs.YtoidlaonolkgkaaDoorW.PrintWords Go.Proofs.YtoidlaonolkgkaaDoorW.PrintLast Go.Proofs.YtoidlaonolkgkaaDoorW.PrintMore
open Go.Proofs.YtoidlaonolkgkaaDoor.Giv
attribute [local go_sem] max2_int min2_int max_two min_two max_three min_three max_four min_four   -- for this text's walks alone
set_option linter.unusedVariables false
set_option linter.unusedSimpArgs false

attribute [local go_sem high] eqA47
theorem lit2_R (w : World) (s u : ByteArray) : Kd.R Kd.string 9 (w.alloc (Obj.cells #[.string s, .string u] 9)) w.heap.size (fun _ => True) (.slice (some ⟨w.heap.size, 0, none⟩) 2 2) [s, u] := by
  refine ⟨fun _ _ => trivial, [.string s, .string u], ⟨rfl, .inr ⟨w.heap.size, 2, #[.string s, .string u], rfl, Nat.le_refl _, heap_alloc_new _ _, Nat.le_refl _, by unfold maxLen; omega, rfl, rfl⟩⟩, rfl, fun j p hj => ?_⟩
  match j, hj with
  | 0, hj => obtain rfl := Option.some.inj hj; rfl
  | 1, hj => obtain rfl := Option.some.inj hj; rfl
  | j + 2, hj => simp at hj
/-! ### duetlaw21_liveK: function 9 -/
def duetlaw21_liveK.j0 : Nat → Int → Int → Int → Bool → List (List (S47)) → Int → Int → List (List (S47)) → Int → Int → Option (Bool)
  | 0, _, _, _, _, _, _, _, _, _, _ => none
  | k + 1, x2, x4, x6, x48, x133000, x133001, x133002, x150000, x150001, x150002 => if x48 = true then (some false) else (if x2 = 0 then (if x4 = 1 then (if x6 = 0 then (if x133001 = 1 then (if x133002 = 1 then (if 0 < (x133000.length : Int) then (if 1 < ((rd_L6 x133000 0).length : Int) then (if (((rd_T47 (rd_L6 x133000 0) 1).f0) == 97 && (((rd_T47 (rd_L6 x133000 0) 1).f1))) = true then ((layout_Text.f x133000 x133001 x133002).bind fun t154 => ((duetref03_Texts.f k t154 (([(⟨#[62, 97, 98]⟩ : ByteArray), (⟨#[99]⟩ : ByteArray)] : List ByteArray))).bind fun t160 => (if t160 = true then (if x150001 = 1 then (if x150002 = 0 then (if 0 < (x150000.length : Int) then (if 2 < ((rd_L6 x150000 0).length : Int) then (if ((rd_T47 (rd_L6 x150000 0) 2).f0) = (-1) then ((layout_Check.f x150000 x150001 x150002 3).bind fun t163 => (if t163 = 0 then ((layout_Check.f x150000 x150001 x150002 4).bind fun t164 => (some (t164 == 1))) else (some false))) else (some false)) else (none)) else (none)) else (some false)) else (some false)) else (some false)))) else (some false)) else (none)) else (none)) else (some false)) else (some false)) else (some false)) else (some false)) else (some false))
def duetlaw21_liveK.f (k : Nat)  : Option (Bool) := (layout_Lay.f 3 (([62] : List Int)) (([97, 98, 99] : List Int)) 3 (([0, 9] : List Int))).bind fun bt126 => ((layout_Lay.f 1 ([] : List Int) ([] : List Int) 0 ([] : List Int)).bind fun bt133 => ((layout_Lay.f 3 ([] : List Int) (([97, 19968, 19968] : List Int)) 2 ([] : List Int)).bind fun bt143 => (if (bt126.1.length : Int) = 2 then (if (bt143.1.length : Int) = 2 then (if 0 < (bt126.1.length : Int) then (if ((rd_L6 bt126.1 0).length : Int) = 3 then (if 0 < (bt143.1.length : Int) then (duetlaw21_liveK.j0 k bt126.2.2.2 bt133.2.2.2 bt143.2.2.2 (((rd_L6 bt143.1 0).length : Int) != 3) bt126.1 bt126.2.1 bt126.2.2.1 bt143.1 bt143.2.1 bt143.2.2.1) else (none)) else (duetlaw21_liveK.j0 k bt126.2.2.2 bt133.2.2.2 bt143.2.2.2 true bt126.1 bt126.2.1 bt126.2.2.1 bt143.1 bt143.2.1 bt143.2.2.1)) else (none)) else (duetlaw21_liveK.j0 k bt126.2.2.2 bt133.2.2.2 bt143.2.2.2 true bt126.1 bt126.2.1 bt126.2.2.1 bt143.1 bt143.2.1 bt143.2.2.1)) else (duetlaw21_liveK.j0 k bt126.2.2.2 bt133.2.2.2 bt143.2.2.2 true bt126.1 bt126.2.1 bt126.2.2.1 bt143.1 bt143.2.1 bt143.2.2.1))))
theorem duetlaw21_liveK.mono_l : ∀ k, (∀ y0 y1 y2 y3 y4 y5 y6 y7 y8 y9, LeO (duetlaw21_liveK.j0 k y0 y1 y2 y3 y4 y5 y6 y7 y8 y9) (duetlaw21_liveK.j0 (k + 1) y0 y1 y2 y3 y4 y5 y6 y7 y8 y9))
  | 0 => fun _ _ _ _ _ _ _ _ _ _ r h => by simp [duetlaw21_liveK.j0] at h
  | k + 1 => by
    have ih0 := duetlaw21_liveK.mono_l k
    · intro y0 y1 y2 y3 y4 y5 y6 y7 y8 y9
      unfold duetlaw21_liveK.j0
      repeat' first
      | (with_reducible exact ih0 _ _ _ _ _ _ _ _ _ _)
      | (with_reducible exact duetref03_Texts.mono _ _ _)
      | (with_reducible exact LeO.refl _)
      | (with_reducible exact LeO.none _)
      | (with_reducible refine LeO.ite ?_ ?_)
      | (with_reducible refine LeO.bind ?_ (fun _ => ?_))
      | exact ih0 _ _ _ _ _ _ _ _ _ _
      | exact duetref03_Texts.mono _ _ _
      | exact LeO.none _
      | refine LeO.ite ?_ ?_
      | refine LeO.bind ?_ (fun _ => ?_)
theorem duetlaw21_liveK.mono : ∀ k, LeO (duetlaw21_liveK.f k ) (duetlaw21_liveK.f (k + 1) ) := by
  intro  k
  have ih0 := duetlaw21_liveK.mono_l k
  unfold duetlaw21_liveK.f
  repeat' first
      | (with_reducible exact ih0 _ _ _ _ _ _ _ _ _ _)
      | (with_reducible exact duetref03_Texts.mono _ _ _)
      | (with_reducible exact LeO.refl _)
      | (with_reducible exact LeO.none _)
      | (with_reducible refine LeO.ite ?_ ?_)
      | (with_reducible refine LeO.bind ?_ (fun _ => ?_))
      | exact ih0 _ _ _ _ _ _ _ _ _ _
      | exact duetref03_Texts.mono _ _ _
      | exact LeO.none _
      | refine LeO.ite ?_ ?_
      | refine LeO.bind ?_ (fun _ => ?_)
set_option maxHeartbeats 8000000 in
set_option maxRecDepth 100000 in
theorem duetlaw21_liveK.calls (k : Nat)  (r : Bool) (w : World) (hL : Go.Proofs.YtoidlaonolkgkaaDoor.Giv.Laid w) (hr_ : Aside0 (r = true)) (h : duetlaw21_liveK.f k  = some r) :
    Calls Tryd.prog 9 #[] w fun e w' => e = .returned (.bool r) ∧ Below w.heap.size w w' := by
  have hu28 := Tryd.underlying28
  have hu47 := Tryd.underlying47
  have HB := Aside0.mk (Below.refl w.heap.size w)
  have H : ((layout_Lay.f 3 (([62] : List Int)) (([97, 98, 99] : List Int)) 3 (([0, 9] : List Int))).bind fun bt126 => ((layout_Lay.f 1 ([] : List Int) ([] : List Int) 0 ([] : List Int)).bind fun bt133 => ((layout_Lay.f 3 ([] : List Int) (([97, 19968, 19968] : List Int)) 2 ([] : List Int)).bind fun bt143 => (if (bt126.1.length : Int) = 2 then (if (bt143.1.length : Int) = 2 then (if 0 < (bt126.1.length : Int) then (if ((rd_L6 bt126.1 0).length : Int) = 3 then (if 0 < (bt143.1.length : Int) then (duetlaw21_liveK.j0 k bt126.2.2.2 bt133.2.2.2 bt143.2.2.2 (((rd_L6 bt143.1 0).length : Int) != 3) bt126.1 bt126.2.1 bt126.2.2.1 bt143.1 bt143.2.1 bt143.2.2.1) else (none)) else (duetlaw21_liveK.j0 k bt126.2.2.2 bt133.2.2.2 bt143.2.2.2 true bt126.1 bt126.2.1 bt126.2.2.1 bt143.1 bt143.2.1 bt143.2.2.1)) else (none)) else (duetlaw21_liveK.j0 k bt126.2.2.2 bt133.2.2.2 bt143.2.2.2 true bt126.1 bt126.2.1 bt126.2.2.1 bt143.1 bt143.2.1 bt143.2.2.1)) else (duetlaw21_liveK.j0 k bt126.2.2.2 bt133.2.2.2 bt143.2.2.2 true bt126.1 bt126.2.1 bt126.2.2.1 bt143.1 bt143.2.1 bt143.2.2.1))))) = some r := h
  clear h
  obtain ⟨y117, hy117⟩ : ∃ y_ : List Int, y_ = (([62] : List Int)) := ⟨_, rfl⟩
  replace H : ((layout_Lay.f 3 y117 (([97, 98, 99] : List Int)) 3 (([0, 9] : List Int))).bind fun bt126 => ((layout_Lay.f 1 ([] : List Int) ([] : List Int) 0 ([] : List Int)).bind fun bt133 => ((layout_Lay.f 3 ([] : List Int) (([97, 19968, 19968] : List Int)) 2 ([] : List Int)).bind fun bt143 => (if (bt126.1.length : Int) = 2 then (if (bt143.1.length : Int) = 2 then (if 0 < (bt126.1.length : Int) then (if ((rd_L6 bt126.1 0).length : Int) = 3 then (if 0 < (bt143.1.length : Int) then (duetlaw21_liveK.j0 k bt126.2.2.2 bt133.2.2.2 bt143.2.2.2 (((rd_L6 bt143.1 0).length : Int) != 3) bt126.1 bt126.2.1 bt126.2.2.1 bt143.1 bt143.2.1 bt143.2.2.1) else (none)) else (duetlaw21_liveK.j0 k bt126.2.2.2 bt133.2.2.2 bt143.2.2.2 true bt126.1 bt126.2.1 bt126.2.2.1 bt143.1 bt143.2.1 bt143.2.2.1)) else (none)) else (duetlaw21_liveK.j0 k bt126.2.2.2 bt133.2.2.2 bt143.2.2.2 true bt126.1 bt126.2.1 bt126.2.2.1 bt143.1 bt143.2.1 bt143.2.2.1)) else (duetlaw21_liveK.j0 k bt126.2.2.2 bt133.2.2.2 bt143.2.2.2 true bt126.1 bt126.2.1 bt126.2.2.1 bt143.1 bt143.2.1 bt143.2.2.1))))) = some r := by first | (rw [hy117]; with_reducible exact H) | (have H2_ := (Option.bind_some _ _).symm.trans H; rw [hy117]; with_reducible exact H2_) | (have H2_ := (Option.bind_some _ _).symm.trans H; with_reducible exact H2_) | with_reducible exact H | (rw [hy117]; exact H) | exact H
  have Ny117 := Aside0.mk hy117
  clear hy117
  obtain ⟨y120, hy120⟩ : ∃ y_ : List Int, y_ = (([97, 98, 99] : List Int)) := ⟨_, rfl⟩
  replace H : ((layout_Lay.f 3 y117 y120 3 (([0, 9] : List Int))).bind fun bt126 => ((layout_Lay.f 1 ([] : List Int) ([] : List Int) 0 ([] : List Int)).bind fun bt133 => ((layout_Lay.f 3 ([] : List Int) (([97, 19968, 19968] : List Int)) 2 ([] : List Int)).bind fun bt143 => (if (bt126.1.length : Int) = 2 then (if (bt143.1.length : Int) = 2 then (if 0 < (bt126.1.length : Int) then (if ((rd_L6 bt126.1 0).length : Int) = 3 then (if 0 < (bt143.1.length : Int) then (duetlaw21_liveK.j0 k bt126.2.2.2 bt133.2.2.2 bt143.2.2.2 (((rd_L6 bt143.1 0).length : Int) != 3) bt126.1 bt126.2.1 bt126.2.2.1 bt143.1 bt143.2.1 bt143.2.2.1) else (none)) else (duetlaw21_liveK.j0 k bt126.2.2.2 bt133.2.2.2 bt143.2.2.2 true bt126.1 bt126.2.1 bt126.2.2.1 bt143.1 bt143.2.1 bt143.2.2.1)) else (none)) else (duetlaw21_liveK.j0 k bt126.2.2.2 bt133.2.2.2 bt143.2.2.2 true bt126.1 bt126.2.1 bt126.2.2.1 bt143.1 bt143.2.1 bt143.2.2.1)) else (duetlaw21_liveK.j0 k bt126.2.2.2 bt133.2.2.2 bt143.2.2.2 true bt126.1 bt126.2.1 bt126.2.2.1 bt143.1 bt143.2.1 bt143.2.2.1))))) = some r := by first | (rw [hy120]; with_reducible exact H) | (have H2_ := (Option.bind_some _ _).symm.trans H; rw [hy120]; with_reducible exact H2_) | (have H2_ := (Option.bind_some _ _).symm.trans H; with_reducible exact H2_) | with_reducible exact H | (rw [hy120]; exact H) | exact H
  have Ny120 := Aside0.mk hy120
  clear hy120
  obtain ⟨y123, hy123⟩ : ∃ y_ : List Int, y_ = (([0, 9] : List Int)) := ⟨_, rfl⟩
  replace H : ((layout_Lay.f 3 y117 y120 3 y123).bind fun bt126 => ((layout_Lay.f 1 ([] : List Int) ([] : List Int) 0 ([] : List Int)).bind fun bt133 => ((layout_Lay.f 3 ([] : List Int) (([97, 19968, 19968] : List Int)) 2 ([] : List Int)).bind fun bt143 => (if (bt126.1.length : Int) = 2 then (if (bt143.1.length : Int) = 2 then (if 0 < (bt126.1.length : Int) then (if ((rd_L6 bt126.1 0).length : Int) = 3 then (if 0 < (bt143.1.length : Int) then (duetlaw21_liveK.j0 k bt126.2.2.2 bt133.2.2.2 bt143.2.2.2 (((rd_L6 bt143.1 0).length : Int) != 3) bt126.1 bt126.2.1 bt126.2.2.1 bt143.1 bt143.2.1 bt143.2.2.1) else (none)) else (duetlaw21_liveK.j0 k bt126.2.2.2 bt133.2.2.2 bt143.2.2.2 true bt126.1 bt126.2.1 bt126.2.2.1 bt143.1 bt143.2.1 bt143.2.2.1)) else (none)) else (duetlaw21_liveK.j0 k bt126.2.2.2 bt133.2.2.2 bt143.2.2.2 true bt126.1 bt126.2.1 bt126.2.2.1 bt143.1 bt143.2.1 bt143.2.2.1)) else (duetlaw21_liveK.j0 k bt126.2.2.2 bt133.2.2.2 bt143.2.2.2 true bt126.1 bt126.2.1 bt126.2.2.1 bt143.1 bt143.2.1 bt143.2.2.1))))) = some r := by first | (rw [hy123]; with_reducible exact H) | (have H2_ := (Option.bind_some _ _).symm.trans H; rw [hy123]; with_reducible exact H2_) | (have H2_ := (Option.bind_some _ _).symm.trans H; with_reducible exact H2_) | with_reducible exact H | (rw [hy123]; exact H) | exact H
  have Ny123 := Aside0.mk hy123
  clear hy123
  replace H := Option.bind_eq_some_iff.mp H
  obtain ⟨⟨t126, t129, t130, t131⟩, A10, H⟩ := H
  replace H : ((layout_Lay.f 1 ([] : List Int) ([] : List Int) 0 ([] : List Int)).bind fun bt133 => ((layout_Lay.f 3 ([] : List Int) (([97, 19968, 19968] : List Int)) 2 ([] : List Int)).bind fun bt143 => (if (t126.length : Int) = 2 then (if (bt143.1.length : Int) = 2 then (if 0 < (t126.length : Int) then (if ((rd_L6 t126 0).length : Int) = 3 then (if 0 < (bt143.1.length : Int) then (duetlaw21_liveK.j0 k t131 bt133.2.2.2 bt143.2.2.2 (((rd_L6 bt143.1 0).length : Int) != 3) t126 t129 t130 bt143.1 bt143.2.1 bt143.2.2.1) else (none)) else (duetlaw21_liveK.j0 k t131 bt133.2.2.2 bt143.2.2.2 true t126 t129 t130 bt143.1 bt143.2.1 bt143.2.2.1)) else (none)) else (duetlaw21_liveK.j0 k t131 bt133.2.2.2 bt143.2.2.2 true t126 t129 t130 bt143.1 bt143.2.1 bt143.2.2.1)) else (duetlaw21_liveK.j0 k t131 bt133.2.2.2 bt143.2.2.2 true t126 t129 t130 bt143.1 bt143.2.1 bt143.2.2.1)))) = some r := H
  have A1 := Aside0.mk A10
  clear A10
  replace H := Option.bind_eq_some_iff.mp H
  obtain ⟨⟨t133, t136, t137, t138⟩, A20, H⟩ := H
  replace H : ((layout_Lay.f 3 ([] : List Int) (([97, 19968, 19968] : List Int)) 2 ([] : List Int)).bind fun bt143 => (if (t126.length : Int) = 2 then (if (bt143.1.length : Int) = 2 then (if 0 < (t126.length : Int) then (if ((rd_L6 t126 0).length : Int) = 3 then (if 0 < (bt143.1.length : Int) then (duetlaw21_liveK.j0 k t131 t138 bt143.2.2.2 (((rd_L6 bt143.1 0).length : Int) != 3) t126 t129 t130 bt143.1 bt143.2.1 bt143.2.2.1) else (none)) else (duetlaw21_liveK.j0 k t131 t138 bt143.2.2.2 true t126 t129 t130 bt143.1 bt143.2.1 bt143.2.2.1)) else (none)) else (duetlaw21_liveK.j0 k t131 t138 bt143.2.2.2 true t126 t129 t130 bt143.1 bt143.2.1 bt143.2.2.1)) else (duetlaw21_liveK.j0 k t131 t138 bt143.2.2.2 true t126 t129 t130 bt143.1 bt143.2.1 bt143.2.2.1))) = some r := H
  have A2 := Aside0.mk A20
  clear A20
  obtain ⟨y140, hy140⟩ : ∃ y_ : List Int, y_ = (([97, 19968, 19968] : List Int)) := ⟨_, rfl⟩
  replace H : ((layout_Lay.f 3 ([] : List Int) y140 2 ([] : List Int)).bind fun bt143 => (if (t126.length : Int) = 2 then (if (bt143.1.length : Int) = 2 then (if 0 < (t126.length : Int) then (if ((rd_L6 t126 0).length : Int) = 3 then (if 0 < (bt143.1.length : Int) then (duetlaw21_liveK.j0 k t131 t138 bt143.2.2.2 (((rd_L6 bt143.1 0).length : Int) != 3) t126 t129 t130 bt143.1 bt143.2.1 bt143.2.2.1) else (none)) else (duetlaw21_liveK.j0 k t131 t138 bt143.2.2.2 true t126 t129 t130 bt143.1 bt143.2.1 bt143.2.2.1)) else (none)) else (duetlaw21_liveK.j0 k t131 t138 bt143.2.2.2 true t126 t129 t130 bt143.1 bt143.2.1 bt143.2.2.1)) else (duetlaw21_liveK.j0 k t131 t138 bt143.2.2.2 true t126 t129 t130 bt143.1 bt143.2.1 bt143.2.2.1))) = some r := by first | (rw [hy140]; with_reducible exact H) | (have H2_ := (Option.bind_some _ _).symm.trans H; rw [hy140]; with_reducible exact H2_) | (have H2_ := (Option.bind_some _ _).symm.trans H; with_reducible exact H2_) | with_reducible exact H | (rw [hy140]; exact H) | exact H
  have Ny140 := Aside0.mk hy140
  clear hy140
  replace H := Option.bind_eq_some_iff.mp H
  obtain ⟨⟨t143, t146, t147, t148⟩, A30, H⟩ := H
  replace H : (if (t126.length : Int) = 2 then (if (t143.length : Int) = 2 then (if 0 < (t126.length : Int) then (if ((rd_L6 t126 0).length : Int) = 3 then (if 0 < (t143.length : Int) then (duetlaw21_liveK.j0 k t131 t138 t148 (((rd_L6 t143 0).length : Int) != 3) t126 t129 t130 t143 t146 t147) else (none)) else (duetlaw21_liveK.j0 k t131 t138 t148 true t126 t129 t130 t143 t146 t147)) else (none)) else (duetlaw21_liveK.j0 k t131 t138 t148 true t126 t129 t130 t143 t146 t147)) else (duetlaw21_liveK.j0 k t131 t138 t148 true t126 t129 t130 t143 t146 t147)) = some r := H
  have A3 := Aside0.mk A30
  clear A30
  have HC4 := Aside0.mk H
  clear H
  go_enter Tryd.func9, Tryd.ntmps9
  go_upto_region 4 with (first | ((with_reducible refine gate_dst (N := 8) rfl ?_); (try (refine gate_guard (by rfl) ?_; dsimp only)); refine Kd.R_lit (Kd.int .i64) _ 3 ?hg (N := 8) ?hd (xs := ([62] : List Int)) (inner := [.int .i64 62]) (ok := fun _ => True) (okp := fun _ => True) ?hr ?hp (fun _ hk => hk) trivial (Below.refl _ _) (Nat.le_refl _) (by simp) ?_; (case hd => rfl); (case hg => rfl); (case hr => first | (go_simp; done) | (go_simp; rfl)); (case hp => exact (Reps.one (show Kd.M (Kd.int .i64) _ _ _ 62 [.int .i64 62] from rfl) (Reps.none _ _))); intro v118 w5 ho6 hb hg_ hnew_; clear hg_ hnew_; (first | rw [← Ny117.out] at ho6 | (simp only [Int.reduceToNat] at ho6; rw [← Ny117.out] at ho6)); have n0_ := Aside0.mk (Kd.R_lower ho6 (below_size (by repeat (first | (with_reducible first | exact HB.out | apply below_alloc | apply pw_below_drewN | apply below_drew1) | exact HB.out)))); have n1_ := Aside0.mk (below_step (by repeat (first | (with_reducible first | exact HB.out | apply below_alloc | apply pw_below_drewN | apply below_drew1) | exact HB.out)) hb); clear HB; have HO119 := n0_; have HB := n1_; clear n0_ n1_; clear hb ho6) | ((with_reducible refine gate_dst (N := 9) rfl ?_); (try (refine gate_guard (by rfl) ?_; dsimp only)); refine Kd.R_lit (Kd.int .i64) _ 3 ?hg (N := 9) ?hd (xs := ([97, 98, 99] : List Int)) (inner := [.int .i64 97, .int .i64 98, .int .i64 99]) (ok := fun _ => True) (okp := fun _ => True) ?hr ?hp (fun _ hk => hk) trivial (Below.refl _ _) (Nat.le_refl _) (by simp) ?_; (case hd => rfl); (case hg => rfl); (case hr => first | (go_simp; done) | (go_simp; rfl)); (case hp => exact (Reps.one (show Kd.M (Kd.int .i64) _ _ _ 97 [.int .i64 97] from rfl) (Reps.one (show Kd.M (Kd.int .i64) _ _ _ 98 [.int .i64 98] from rfl) (Reps.one (show Kd.M (Kd.int .i64) _ _ _ 99 [.int .i64 99] from rfl) (Reps.none _ _))))); intro v121 w7 ho8 hb hg_ hnew_; clear hg_ hnew_; (first | rw [← Ny120.out] at ho8 | (simp only [Int.reduceToNat] at ho8; rw [← Ny120.out] at ho8)); have n0_ := Aside0.mk (Kd.R_elder' (by (with_reducible repeat (first | apply Kd.R_alloc | apply Kd.R_drewN | apply Kd.R_drew)); exact HO119.out) (Kd.R_base ho8) hb); have n1_ := Aside0.mk (Kd.R_lower (Kd.R_new' ho8 (Kd.R_lt (by (with_reducible repeat (first | apply Kd.R_alloc | apply Kd.R_drewN | apply Kd.R_drew)); exact HO119.out))) (below_size (by repeat (first | (with_reducible first | exact HB.out | apply below_alloc | apply pw_below_drewN | apply below_drew1) | exact HB.out)))); have n2_ := Aside0.mk (below_step (by repeat (first | (with_reducible first | exact HB.out | apply below_alloc | apply pw_below_drewN | apply below_drew1) | exact HB.out)) hb); clear HO119; clear HB; have HO119 := n0_; have HO122 := n1_; have HB := n2_; clear n0_ n1_ n2_; clear hb ho8) | ((with_reducible refine gate_dst (N := 10) rfl ?_); (try (refine gate_guard (by rfl) ?_; dsimp only)); refine Kd.R_lit (Kd.int .i64) _ 3 ?hg (N := 10) ?hd (xs := ([0, 9] : List Int)) (inner := [.int .i64 0, .int .i64 9]) (ok := fun _ => True) (okp := fun _ => True) ?hr ?hp (fun _ hk => hk) trivial (Below.refl _ _) (Nat.le_refl _) (by simp) ?_; (case hd => rfl); (case hg => rfl); (case hr => first | (go_simp; done) | (go_simp; rfl)); (case hp => exact (Reps.one (show Kd.M (Kd.int .i64) _ _ _ 0 [.int .i64 0] from rfl) (Reps.one (show Kd.M (Kd.int .i64) _ _ _ 9 [.int .i64 9] from rfl) (Reps.none _ _)))); intro v124 w9 ho10 hb hg_ hnew_; clear hg_ hnew_; (first | rw [← Ny123.out] at ho10 | (simp only [Int.reduceToNat] at ho10; rw [← Ny123.out] at ho10)); have n0_ := Aside0.mk (Kd.R_elder' (by (with_reducible repeat (first | apply Kd.R_alloc | apply Kd.R_drewN | apply Kd.R_drew)); exact HO119.out) (Kd.R_base ho10) hb); have n1_ := Aside0.mk (Kd.R_elder' (by (with_reducible repeat (first | apply Kd.R_alloc | apply Kd.R_drewN | apply Kd.R_drew)); exact HO122.out) (Kd.R_base ho10) hb); have n2_ := Aside0.mk (Kd.R_lower (Kd.R_new' (Kd.R_new' ho10 (Kd.R_lt (by (with_reducible repeat (first | apply Kd.R_alloc | apply Kd.R_drewN | apply Kd.R_drew)); exact HO119.out))) (Kd.R_lt (by (with_reducible repeat (first | apply Kd.R_alloc | apply Kd.R_drewN | apply Kd.R_drew)); exact HO122.out))) (below_size (by repeat (first | (with_reducible first | exact HB.out | apply below_alloc | apply pw_below_drewN | apply below_drew1) | exact HB.out)))); have n3_ := Aside0.mk (below_step (by repeat (first | (with_reducible first | exact HB.out | apply below_alloc | apply pw_below_drewN | apply below_drew1) | exact HB.out)) hb); clear HO119; clear HO122; clear HB; have HO119 := n0_; have HO122 := n1_; have HO125 := n2_; have HB := n3_; clear n0_ n1_ n2_ n3_; clear hb ho10; obtain ⟨Ao11, co11, eo11⟩ := Kd.R_slice HO119.out; subst eo11; obtain ⟨Ao12, co12, eo12⟩ := Kd.R_slice HO122.out; subst eo12; obtain ⟨Ao13, co13, eo13⟩ := Kd.R_slice HO125.out; subst eo13) | ((with_reducible refine gate_callee (f := 10) rfl ?_); refine goesL_ (some 11) rfl rfl Tryd.func10 (by kernel_rfl) rfl #[.int .i64 3, .slice Ao11 y117.length co11, .slice Ao12 y120.length co12, .int .i64 3, .slice Ao13 y123.length co13] rfl (by (try simp only [List.map_toArray, List.map_cons, List.map_nil]); first | done | rfl | (simp only [List.length_drop, List.length_take]; rfl)) ?_; (with_reducible refine (layout_Lay.calls 3 _ _ y117 _ _ y120 3 _ _ y123 t126 t129 t130 t131 _ ?side7 ?side1 ?side2 ?side3 ?side4 ?side5 ?side6 A1.out).mono ?_); (case side1 => repeat (first | exact (Kd.R_reads' HO119.out).2.2 | (with_reducible refine Kd.C_alloc ?_ _) | (with_reducible refine Kd.C_drewN ?_ _) | (with_reducible refine Kd.C_drew ?_))); (case side2 => exact (Kd.R_reads' HO119.out).2.1); (case side3 => repeat (first | exact (Kd.R_reads' HO122.out).2.2 | (with_reducible refine Kd.C_alloc ?_ _) | (with_reducible refine Kd.C_drewN ?_ _) | (with_reducible refine Kd.C_drew ?_))); (case side4 => exact (Kd.R_reads' HO122.out).2.1); (case side5 => repeat (first | exact (Kd.R_reads' HO125.out).2.2 | (with_reducible refine Kd.C_alloc ?_ _) | (with_reducible refine Kd.C_drewN ?_ _) | (with_reducible refine Kd.C_drew ?_))); (case side6 => exact (Kd.R_reads' HO125.out).2.1); (case side7 => exact hL.below (by repeat (first | (with_reducible first | exact HB.out | apply below_alloc | apply pw_below_drewN | apply below_drew1) | exact HB.out))); rintro e w14 ⟨v127, rfl, ho0, hb⟩; refine ⟨_, rfl, ?_⟩; have n0_ := Aside0.mk (Kd.R_below (by (with_reducible repeat (first | apply Kd.R_alloc | apply Kd.R_drewN | apply Kd.R_drew)); exact HO119.out) hb); have n1_ := Aside0.mk (Kd.R_below (by (with_reducible repeat (first | apply Kd.R_alloc | apply Kd.R_drewN | apply Kd.R_drew)); exact HO122.out) hb); have n2_ := Aside0.mk (Kd.R_below (by (with_reducible repeat (first | apply Kd.R_alloc | apply Kd.R_drewN | apply Kd.R_drew)); exact HO125.out) hb); have n3_ := Aside0.mk (Kd.S_lower ho0 (below_size (by repeat (first | (with_reducible first | exact HB.out | apply below_alloc | apply pw_below_drewN | apply below_drew1) | exact HB.out)))); have n4_ := Aside0.mk (below_step (by repeat (first | (with_reducible first | exact HB.out | apply below_alloc | apply pw_below_drewN | apply below_drew1) | exact HB.out)) hb); clear HO119; clear HO122; clear HO125; clear HB; have HO119 := n0_; have HO122 := n1_; have HO125 := n2_; have HO128 := n3_; have HB := n4_; clear n0_ n1_ n2_ n3_ n4_; (try clear hb); (try clear hb2); (try clear hk); (try clear hi); (try clear ho0)) | ((with_reducible refine gate_dst (N := 1) rfl ?_); (try (refine gate_guard (by rfl) ?_; dsimp only)); refine box_event ?hg (N := 1) ?hd (cs := #[.slice none 0 0, .int .i64 0, .int .i64 0]) (t := 28) ?hr ?_; (case hd => rfl); (case hg => rfl); (case hr => first | (go_simp; done) | (go_simp; rfl)); intro gb132 hg w15 hbox hb; have n0_ := Aside0.mk (Kd.R_below (by (with_reducible repeat (first | apply Kd.R_alloc | apply Kd.R_drewN | apply Kd.R_drew)); exact HO119.out) hb); have n1_ := Aside0.mk (Kd.R_below (by (with_reducible repeat (first | apply Kd.R_alloc | apply Kd.R_drewN | apply Kd.R_drew)); exact HO122.out) hb); have n2_ := Aside0.mk (Kd.R_below (by (with_reducible repeat (first | apply Kd.R_alloc | apply Kd.R_drewN | apply Kd.R_drew)); exact HO125.out) hb); have n3_ := Aside0.mk (Kd.S_below (by (with_reducible repeat (first | apply Kd.S_alloc | apply Kd.S_drewN | apply Kd.S_drew)); exact HO128.out) hb); have n4_ := Aside0.mk (below_step (by repeat (first | (with_reducible first | exact HB.out | apply below_alloc | apply pw_below_drewN | apply below_drew1) | exact HB.out)) hb); have n5_ := Aside0.mk (hbox); have n6_ := Aside0.mk ((by rw [hg]; exact (below_size (by repeat (first | (with_reducible first | exact HB.out | apply below_alloc | apply pw_below_drewN | apply below_drew1) | exact HB.out))) : w.heap.size ≤ gb132)); have n7_ := Aside0.mk ((by rw [hg]; exact (below_size (by repeat (first | (with_reducible first | exact HB.out | apply below_alloc | apply pw_below_drewN | apply below_drew1) | exact HB.out))) : w.heap.size ≤ gb132)); clear HO119; clear HO122; clear HO125; clear HO128; clear HB; have HO119 := n0_; have HO122 := n1_; have HO125 := n2_; have HO128 := n3_; have HB := n4_; have BK132 := n5_; have GW132 := n6_; have GE132 := n7_; clear n0_ n1_ n2_ n3_ n4_ n5_ n6_ n7_; clear hb hbox hg; obtain ⟨Ao16, co16, eo16⟩ := Kd.S_slice HO128.out; subst eo16; have hcz17_0 : w15.cell? ⟨gb132, 0, none⟩ = some (.slice none 0 0) := (blk_cell BK132.out 0).trans rfl; have hcz17_1 : w15.cell? ⟨gb132, 1, none⟩ = some (.int .i64 0) := (blk_cell BK132.out 1).trans rfl; have hcz17_2 : w15.cell? ⟨gb132, 2, none⟩ = some (.int .i64 0) := (blk_cell BK132.out 2).trans rfl; have hfz17_0 := blk_frozen BK132.out 0; have hfz17_1 := blk_frozen BK132.out 1; have hfz17_2 := blk_frozen BK132.out 2) | ((with_reducible refine gate_callee (f := 10) rfl ?_); refine goesL_ (some 15) rfl rfl Tryd.func10 (by kernel_rfl) rfl #[.int .i64 1, .slice none 0 0, .slice none 0 0, .int .i64 0, .slice none 0 0] rfl (by (try simp only [List.map_toArray, List.map_cons, List.map_nil]); first | done | rfl | (simp only [List.length_drop, List.length_take]; rfl)) ?_; (refine (layout_Lay.calls 1 _ _ ([] : List Int) _ _ ([] : List Int) 0 _ _ ([] : List Int) t133 t136 t137 t138 _ ?side7 ?side1 ?side2 ?side3 ?side4 ?side5 ?side6 A2.out).mono ?_); (case side1 => exact Kd.C_nil _ _); (case side2 => exact Nat.le_refl _); (case side3 => exact Kd.C_nil _ _); (case side4 => exact Nat.le_refl _); (case side5 => exact Kd.C_nil _ _); (case side6 => exact Nat.le_refl _); (case side7 => exact hL.below (by repeat (first | (with_reducible first | exact HB.out | apply below_alloc | apply pw_below_drewN | apply below_drew1 | refine below_set ?_ GE132.out) | exact HB.out))); rintro e w18 ⟨v134, rfl, ho0, hb⟩; refine ⟨_, rfl, ?_⟩; have n0_ := Aside0.mk (Kd.R_below (by (with_reducible repeat (first | apply Kd.R_alloc | apply Kd.R_drewN | apply Kd.R_drew)); exact (Kd.R_mono (Kd.R_far (p := ⟨gb132, 2, none⟩) (Kd.R_far (p := ⟨gb132, 1, none⟩) (Kd.R_far (p := ⟨gb132, 0, none⟩) (Kd.R_types HO119.out BK132.out (by decide)) (fun _ hk => hk.2) (.slice Ao16 t126.length co16)) (fun _ hk => hk.2) (.int .i64 t129)) (fun _ hk => hk.2) (.int .i64 t130)) (fun _ h_ => h_.1))) hb); have n1_ := Aside0.mk (Kd.R_below (by (with_reducible repeat (first | apply Kd.R_alloc | apply Kd.R_drewN | apply Kd.R_drew)); exact (Kd.R_mono (Kd.R_far (p := ⟨gb132, 2, none⟩) (Kd.R_far (p := ⟨gb132, 1, none⟩) (Kd.R_far (p := ⟨gb132, 0, none⟩) (Kd.R_types HO122.out BK132.out (by decide)) (fun _ hk => hk.2) (.slice Ao16 t126.length co16)) (fun _ hk => hk.2) (.int .i64 t129)) (fun _ hk => hk.2) (.int .i64 t130)) (fun _ h_ => h_.1))) hb); have n2_ := Aside0.mk (Kd.R_below (by (with_reducible repeat (first | apply Kd.R_alloc | apply Kd.R_drewN | apply Kd.R_drew)); exact (Kd.R_mono (Kd.R_far (p := ⟨gb132, 2, none⟩) (Kd.R_far (p := ⟨gb132, 1, none⟩) (Kd.R_far (p := ⟨gb132, 0, none⟩) (Kd.R_types HO125.out BK132.out (by decide)) (fun _ hk => hk.2) (.slice Ao16 t126.length co16)) (fun _ hk => hk.2) (.int .i64 t129)) (fun _ hk => hk.2) (.int .i64 t130)) (fun _ h_ => h_.1))) hb); have n3_ := Aside0.mk (Kd.S_elder' (by (with_reducible repeat (first | apply Kd.S_alloc | apply Kd.S_drewN | apply Kd.S_drew)); exact (Kd.S_mono (Kd.S_far (p := ⟨gb132, 2, none⟩) (Kd.S_far (p := ⟨gb132, 1, none⟩) (Kd.S_far (p := ⟨gb132, 0, none⟩) (Kd.S_types HO128.out BK132.out (by decide)) (fun _ hk => hk.2) (.slice Ao16 t126.length co16)) (fun _ hk => hk.2) (.int .i64 t129)) (fun _ hk => hk.2) (.int .i64 t130)) (fun _ h_ => h_.1))) (Kd.S_base ho0) hb); have n4_ := Aside0.mk (Kd.S_lower (Kd.S_new' ho0 (Kd.S_lt (by (with_reducible repeat (first | apply Kd.S_alloc | apply Kd.S_drewN | apply Kd.S_drew)); exact (Kd.S_mono (Kd.S_far (p := ⟨gb132, 2, none⟩) (Kd.S_far (p := ⟨gb132, 1, none⟩) (Kd.S_far (p := ⟨gb132, 0, none⟩) (Kd.S_types HO128.out BK132.out (by decide)) (fun _ hk => hk.2) (.slice Ao16 t126.length co16)) (fun _ hk => hk.2) (.int .i64 t129)) (fun _ hk => hk.2) (.int .i64 t130)) (fun _ h_ => h_.1))))) (below_size (by repeat (first | (with_reducible first | exact HB.out | apply below_alloc | apply pw_below_drewN | apply below_drew1 | refine below_set ?_ GE132.out) | exact HB.out)))); have n5_ := Aside0.mk (blk_below (g := gb132) (o := .cells #[.slice Ao16 t126.length co16, .int .i64 t129, .int .i64 t130] 28 (0, 0)) (by (with_reducible repeat (first | refine blk_drewN ?_ _ | refine blk_drew ?_ | refine blk_alloc ?_ _)); refine blk_put (cs := #[.slice Ao16 t126.length co16, .int .i64 t129, .int .i64 0]) ?_ 2 _ rfl; (with_reducible repeat (first | refine blk_drewN ?_ _ | refine blk_drew ?_ | refine blk_alloc ?_ _)); refine blk_put (cs := #[.slice Ao16 t126.length co16, .int .i64 0, .int .i64 0]) ?_ 1 _ rfl; (with_reducible repeat (first | refine blk_drewN ?_ _ | refine blk_drew ?_ | refine blk_alloc ?_ _)); refine blk_put (cs := #[.slice none 0 0, .int .i64 0, .int .i64 0]) ?_ 0 _ rfl; (with_reducible repeat (first | refine blk_drewN ?_ _ | refine blk_drew ?_ | refine blk_alloc ?_ _)); exact BK132.out) hb); have n6_ := Aside0.mk (below_step (by repeat (first | (with_reducible first | exact HB.out | apply below_alloc | apply pw_below_drewN | apply below_drew1 | refine below_set ?_ GE132.out) | exact HB.out)) hb); clear HO119; clear HO122; clear HO125; clear HO128; clear BK132; clear HB; have HO119 := n0_; have HO122 := n1_; have HO125 := n2_; have HO128 := n3_; have HO135 := n4_; have BK132 := n5_; have HB := n6_; clear n0_ n1_ n2_ n3_ n4_ n5_ n6_; (try clear hb); (try clear hb2); (try clear hk); (try clear hi); (try clear ho0)) | ((with_reducible refine gate_dst (N := 3) rfl ?_); (try (refine gate_guard (by rfl) ?_; dsimp only)); refine box_event ?hg (N := 3) ?hd (cs := #[.slice none 0 0, .int .i64 0, .int .i64 0]) (t := 28) ?hr ?_; (case hd => rfl); (case hg => rfl); (case hr => first | (go_simp; done) | (go_simp; rfl)); intro gb139 hg w19 hbox hb; have n0_ := Aside0.mk (Kd.R_below (by (with_reducible repeat (first | apply Kd.R_alloc | apply Kd.R_drewN | apply Kd.R_drew)); exact HO119.out) hb); have n1_ := Aside0.mk (Kd.R_below (by (with_reducible repeat (first | apply Kd.R_alloc | apply Kd.R_drewN | apply Kd.R_drew)); exact HO122.out) hb); have n2_ := Aside0.mk (Kd.R_below (by (with_reducible repeat (first | apply Kd.R_alloc | apply Kd.R_drewN | apply Kd.R_drew)); exact HO125.out) hb); have n3_ := Aside0.mk (Kd.S_below (by (with_reducible repeat (first | apply Kd.S_alloc | apply Kd.S_drewN | apply Kd.S_drew)); exact HO128.out) hb); have n4_ := Aside0.mk (Kd.S_below (by (with_reducible repeat (first | apply Kd.S_alloc | apply Kd.S_drewN | apply Kd.S_drew)); exact HO135.out) hb); have n5_ := Aside0.mk (blk_below (g := gb132) (o := .cells #[.slice Ao16 t126.length co16, .int .i64 t129, .int .i64 t130] 28 (0, 0)) (by (with_reducible repeat (first | refine blk_drewN ?_ _ | refine blk_drew ?_ | refine blk_alloc ?_ _)); exact BK132.out) hb); have n6_ := Aside0.mk (below_step (by repeat (first | (with_reducible first | exact HB.out | apply below_alloc | apply pw_below_drewN | apply below_drew1 | refine below_set ?_ GE132.out) | exact HB.out)) hb); have n7_ := Aside0.mk (hbox); have n8_ := Aside0.mk ((by rw [hg]; exact (below_size (by repeat (first | (with_reducible first | exact HB.out | apply below_alloc | apply pw_below_drewN | apply below_drew1 | refine below_set ?_ GE132.out) | exact HB.out))) : w.heap.size ≤ gb139)); have n9_ := Aside0.mk ((by rw [hg]; exact (below_size (by repeat (first | (with_reducible first | exact HB.out | apply below_alloc | apply pw_below_drewN | apply below_drew1 | refine below_set ?_ GE132.out) | exact HB.out))) : w.heap.size ≤ gb139)); have n10_ := Aside0.mk ((by rw [hg]; exact Nat.ne_of_lt (blk_lt (g := gb132) (o := .cells #[.slice Ao16 t126.length co16, .int .i64 t129, .int .i64 t130] 28 (0, 0)) (by (with_reducible repeat (first | refine blk_drewN ?_ _ | refine blk_drew ?_ | refine blk_alloc ?_ _)); exact BK132.out)) : gb132 ≠ gb139)); have n11_ := Aside0.mk ((by rw [hg]; exact Nat.ne_of_gt (blk_lt (g := gb132) (o := .cells #[.slice Ao16 t126.length co16, .int .i64 t129, .int .i64 t130] 28 (0, 0)) (by (with_reducible repeat (first | refine blk_drewN ?_ _ | refine blk_drew ?_ | refine blk_alloc ?_ _)); exact BK132.out)) : gb139 ≠ gb132)); clear HO119; clear HO122; clear HO125; clear HO128; clear HO135; clear BK132; clear HB; have HO119 := n0_; have HO122 := n1_; have HO125 := n2_; have HO128 := n3_; have HO135 := n4_; have BK132 := n5_; have HB := n6_; have BK139 := n7_; have GW139 := n8_; have GE139 := n9_; have NB132_139 := n10_; have NB139_132 := n11_; clear n0_ n1_ n2_ n3_ n4_ n5_ n6_ n7_ n8_ n9_ n10_ n11_; clear hb hbox hg; obtain ⟨Ao20, co20, eo20⟩ := Kd.S_slice HO135.out; subst eo20; have hnb21 := NB139_132.out; have hnc21 := NB132_139.out; have hcz22_0 : w19.cell? ⟨gb139, 0, none⟩ = some (.slice none 0 0) := (blk_cell BK139.out 0).trans rfl; have hcz22_1 : w19.cell? ⟨gb139, 1, none⟩ = some (.int .i64 0) := (blk_cell BK139.out 1).trans rfl; have hcz22_2 : w19.cell? ⟨gb139, 2, none⟩ = some (.int .i64 0) := (blk_cell BK139.out 2).trans rfl; have hfz22_0 := blk_frozen BK139.out 0; have hfz22_1 := blk_frozen BK139.out 1; have hfz22_2 := blk_frozen BK139.out 2) | ((with_reducible refine gate_dst (N := 19) rfl ?_); (try (refine gate_guard (by rfl) ?_; dsimp only)); refine Kd.R_lit (Kd.int .i64) _ 3 ?hg (N := 19) ?hd (xs := ([97, 19968, 19968] : List Int)) (inner := [.int .i64 97, .int .i64 19968, .int .i64 19968]) (ok := fun _ => True) (okp := fun _ => True) ?hr ?hp (fun _ hk => hk) trivial (Below.refl _ _) (Nat.le_refl _) (by simp) ?_; (case hd => rfl); (case hg => rfl); (case hr => first | (go_simp; done) | (go_simp; rfl)); (case hp => exact (Reps.one (show Kd.M (Kd.int .i64) _ _ _ 97 [.int .i64 97] from rfl) (Reps.one (show Kd.M (Kd.int .i64) _ _ _ 19968 [.int .i64 19968] from rfl) (Reps.one (show Kd.M (Kd.int .i64) _ _ _ 19968 [.int .i64 19968] from rfl) (Reps.none _ _))))); intro v141 w23 ho24 hb hg_ hnew_; clear hg_ hnew_; (first | rw [← Ny140.out] at ho24 | (simp only [Int.reduceToNat] at ho24; rw [← Ny140.out] at ho24)); have n0_ := Aside0.mk (Kd.R_elder' (by (with_reducible repeat (first | apply Kd.R_alloc | apply Kd.R_drewN | apply Kd.R_drew)); exact (Kd.R_mono (Kd.R_far (p := ⟨gb139, 2, none⟩) (Kd.R_far (p := ⟨gb139, 1, none⟩) (Kd.R_far (p := ⟨gb139, 0, none⟩) (Kd.R_types HO119.out BK139.out (by decide)) (fun _ hk => hk.2) (.slice Ao20 t133.length co20)) (fun _ hk => hk.2) (.int .i64 t136)) (fun _ hk => hk.2) (.int .i64 t137)) (fun _ h_ => h_.1))) (Kd.R_base ho24) hb); have n1_ := Aside0.mk (Kd.R_elder' (by (with_reducible repeat (first | apply Kd.R_alloc | apply Kd.R_drewN | apply Kd.R_drew)); exact (Kd.R_mono (Kd.R_far (p := ⟨gb139, 2, none⟩) (Kd.R_far (p := ⟨gb139, 1, none⟩) (Kd.R_far (p := ⟨gb139, 0, none⟩) (Kd.R_types HO122.out BK139.out (by decide)) (fun _ hk => hk.2) (.slice Ao20 t133.length co20)) (fun _ hk => hk.2) (.int .i64 t136)) (fun _ hk => hk.2) (.int .i64 t137)) (fun _ h_ => h_.1))) (Kd.R_base ho24) hb); have n2_ := Aside0.mk (Kd.R_elder' (by (with_reducible repeat (first | apply Kd.R_alloc | apply Kd.R_drewN | apply Kd.R_drew)); exact (Kd.R_mono (Kd.R_far (p := ⟨gb139, 2, none⟩) (Kd.R_far (p := ⟨gb139, 1, none⟩) (Kd.R_far (p := ⟨gb139, 0, none⟩) (Kd.R_types HO125.out BK139.out (by decide)) (fun _ hk => hk.2) (.slice Ao20 t133.length co20)) (fun _ hk => hk.2) (.int .i64 t136)) (fun _ hk => hk.2) (.int .i64 t137)) (fun _ h_ => h_.1))) (Kd.R_base ho24) hb); have n3_ := Aside0.mk (Kd.S_below (by (with_reducible repeat (first | apply Kd.S_alloc | apply Kd.S_drewN | apply Kd.S_drew)); exact (Kd.S_mono (Kd.S_far (p := ⟨gb139, 2, none⟩) (Kd.S_far (p := ⟨gb139, 1, none⟩) (Kd.S_far (p := ⟨gb139, 0, none⟩) (Kd.S_types HO128.out BK139.out (by decide)) (fun _ hk => hk.2) (.slice Ao20 t133.length co20)) (fun _ hk => hk.2) (.int .i64 t136)) (fun _ hk => hk.2) (.int .i64 t137)) (fun _ h_ => h_.1))) hb); have n4_ := Aside0.mk (Kd.S_below (by (with_reducible repeat (first | apply Kd.S_alloc | apply Kd.S_drewN | apply Kd.S_drew)); exact (Kd.S_mono (Kd.S_far (p := ⟨gb139, 2, none⟩) (Kd.S_far (p := ⟨gb139, 1, none⟩) (Kd.S_far (p := ⟨gb139, 0, none⟩) (Kd.S_types HO135.out BK139.out (by decide)) (fun _ hk => hk.2) (.slice Ao20 t133.length co20)) (fun _ hk => hk.2) (.int .i64 t136)) (fun _ hk => hk.2) (.int .i64 t137)) (fun _ h_ => h_.1))) hb); have n5_ := Aside0.mk (Kd.R_lower (Kd.R_new' (Kd.R_new' (Kd.R_new' ho24 (Kd.R_lt (by (with_reducible repeat (first | apply Kd.R_alloc | apply Kd.R_drewN | apply Kd.R_drew)); exact (Kd.R_mono (Kd.R_far (p := ⟨gb139, 2, none⟩) (Kd.R_far (p := ⟨gb139, 1, none⟩) (Kd.R_far (p := ⟨gb139, 0, none⟩) (Kd.R_types HO119.out BK139.out (by decide)) (fun _ hk => hk.2) (.slice Ao20 t133.length co20)) (fun _ hk => hk.2) (.int .i64 t136)) (fun _ hk => hk.2) (.int .i64 t137)) (fun _ h_ => h_.1))))) (Kd.R_lt (by (with_reducible repeat (first | apply Kd.R_alloc | apply Kd.R_drewN | apply Kd.R_drew)); exact (Kd.R_mono (Kd.R_far (p := ⟨gb139, 2, none⟩) (Kd.R_far (p := ⟨gb139, 1, none⟩) (Kd.R_far (p := ⟨gb139, 0, none⟩) (Kd.R_types HO122.out BK139.out (by decide)) (fun _ hk => hk.2) (.slice Ao20 t133.length co20)) (fun _ hk => hk.2) (.int .i64 t136)) (fun _ hk => hk.2) (.int .i64 t137)) (fun _ h_ => h_.1))))) (Kd.R_lt (by (with_reducible repeat (first | apply Kd.R_alloc | apply Kd.R_drewN | apply Kd.R_drew)); exact (Kd.R_mono (Kd.R_far (p := ⟨gb139, 2, none⟩) (Kd.R_far (p := ⟨gb139, 1, none⟩) (Kd.R_far (p := ⟨gb139, 0, none⟩) (Kd.R_types HO125.out BK139.out (by decide)) (fun _ hk => hk.2) (.slice Ao20 t133.length co20)) (fun _ hk => hk.2) (.int .i64 t136)) (fun _ hk => hk.2) (.int .i64 t137)) (fun _ h_ => h_.1))))) (below_size (by repeat (first | (with_reducible first | exact HB.out | apply below_alloc | apply pw_below_drewN | apply below_drew1 | refine below_set ?_ GE132.out | refine below_set ?_ GE139.out) | exact HB.out)))); have n6_ := Aside0.mk (blk_below (g := gb132) (o := .cells #[.slice Ao16 t126.length co16, .int .i64 t129, .int .i64 t130] 28 (0, 0)) (by (with_reducible repeat (first | refine blk_drewN ?_ _ | refine blk_drew ?_ | refine blk_alloc ?_ _)); refine blk_far ?_ NB132_139.out _; (with_reducible repeat (first | refine blk_drewN ?_ _ | refine blk_drew ?_ | refine blk_alloc ?_ _)); refine blk_far ?_ NB132_139.out _; (with_reducible repeat (first | refine blk_drewN ?_ _ | refine blk_drew ?_ | refine blk_alloc ?_ _)); refine blk_far ?_ NB132_139.out _; (with_reducible repeat (first | refine blk_drewN ?_ _ | refine blk_drew ?_ | refine blk_alloc ?_ _)); exact BK132.out) hb); have n7_ := Aside0.mk (blk_below (g := gb139) (o := .cells #[.slice Ao20 t133.length co20, .int .i64 t136, .int .i64 t137] 28 (0, 0)) (by (with_reducible repeat (first | refine blk_drewN ?_ _ | refine blk_drew ?_ | refine blk_alloc ?_ _)); refine blk_put (cs := #[.slice Ao20 t133.length co20, .int .i64 t136, .int .i64 0]) ?_ 2 _ rfl; (with_reducible repeat (first | refine blk_drewN ?_ _ | refine blk_drew ?_ | refine blk_alloc ?_ _)); refine blk_put (cs := #[.slice Ao20 t133.length co20, .int .i64 0, .int .i64 0]) ?_ 1 _ rfl; (with_reducible repeat (first | refine blk_drewN ?_ _ | refine blk_drew ?_ | refine blk_alloc ?_ _)); refine blk_put (cs := #[.slice none 0 0, .int .i64 0, .int .i64 0]) ?_ 0 _ rfl; (with_reducible repeat (first | refine blk_drewN ?_ _ | refine blk_drew ?_ | refine blk_alloc ?_ _)); exact BK139.out) hb); have n8_ := Aside0.mk (below_step (by repeat (first | (with_reducible first | exact HB.out | apply below_alloc | apply pw_below_drewN | apply below_drew1 | refine below_set ?_ GE132.out | refine below_set ?_ GE139.out) | exact HB.out)) hb); clear HO119; clear HO122; clear HO125; clear HO128; clear HO135; clear BK132; clear BK139; clear HB; have HO119 := n0_; have HO122 := n1_; have HO125 := n2_; have HO128 := n3_; have HO135 := n4_; have HO142 := n5_; have BK132 := n6_; have BK139 := n7_; have HB := n8_; clear n0_ n1_ n2_ n3_ n4_ n5_ n6_ n7_ n8_; clear hb ho24; obtain ⟨Ao25, co25, eo25⟩ := Kd.R_slice HO142.out; subst eo25) | ((with_reducible refine gate_callee (f := 10) rfl ?_); refine goesL_ (some 20) rfl rfl Tryd.func10 (by kernel_rfl) rfl #[.int .i64 3, .slice none 0 0, .slice Ao25 y140.length co25, .int .i64 2, .slice none 0 0] rfl (by (try simp only [List.map_toArray, List.map_cons, List.map_nil]); first | done | rfl | (simp only [List.length_drop, List.length_take]; rfl)) ?_; (refine (layout_Lay.calls 3 _ _ ([] : List Int) _ _ y140 2 _ _ ([] : List Int) t143 t146 t147 t148 _ ?side7 ?side1 ?side2 ?side3 ?side4 ?side5 ?side6 A3.out).mono ?_); (case side1 => exact Kd.C_nil _ _); (case side2 => exact Nat.le_refl _); (case side3 => repeat (first | exact (Kd.R_reads' HO142.out).2.2 | (with_reducible refine Kd.C_alloc ?_ _) | (with_reducible refine Kd.C_drewN ?_ _) | (with_reducible refine Kd.C_drew ?_))); (case side4 => exact (Kd.R_reads' HO142.out).2.1); (case side5 => exact Kd.C_nil _ _); (case side6 => exact Nat.le_refl _); (case side7 => exact hL.below (by repeat (first | (with_reducible first | exact HB.out | apply below_alloc | apply pw_below_drewN | apply below_drew1 | refine below_set ?_ GE132.out | refine below_set ?_ GE139.out) | exact HB.out))); rintro e w26 ⟨v144, rfl, ho0, hb⟩; refine ⟨_, rfl, ?_⟩; have n0_ := Aside0.mk (Kd.R_below (by (with_reducible repeat (first | apply Kd.R_alloc | apply Kd.R_drewN | apply Kd.R_drew)); exact HO119.out) hb); have n1_ := Aside0.mk (Kd.R_below (by (with_reducible repeat (first | apply Kd.R_alloc | apply Kd.R_drewN | apply Kd.R_drew)); exact HO122.out) hb); have n2_ := Aside0.mk (Kd.R_below (by (with_reducible repeat (first | apply Kd.R_alloc | apply Kd.R_drewN | apply Kd.R_drew)); exact HO125.out) hb); have n3_ := Aside0.mk (Kd.S_elder' (by (with_reducible repeat (first | apply Kd.S_alloc | apply Kd.S_drewN | apply Kd.S_drew)); exact HO128.out) (Kd.S_base ho0) hb); have n4_ := Aside0.mk (Kd.S_elder' (by (with_reducible repeat (first | apply Kd.S_alloc | apply Kd.S_drewN | apply Kd.S_drew)); exact HO135.out) (Kd.S_base ho0) hb); have n5_ := Aside0.mk (Kd.R_below (by (with_reducible repeat (first | apply Kd.R_alloc | apply Kd.R_drewN | apply Kd.R_drew)); exact HO142.out) hb); have n6_ := Aside0.mk (Kd.S_lower (Kd.S_new' (Kd.S_new' ho0 (Kd.S_lt (by (with_reducible repeat (first | apply Kd.S_alloc | apply Kd.S_drewN | apply Kd.S_drew)); exact HO128.out))) (Kd.S_lt (by (with_reducible repeat (first | apply Kd.S_alloc | apply Kd.S_drewN | apply Kd.S_drew)); exact HO135.out))) (below_size (by repeat (first | (with_reducible first | exact HB.out | apply below_alloc | apply pw_below_drewN | apply below_drew1 | refine below_set ?_ GE132.out | refine below_set ?_ GE139.out) | exact HB.out)))); have n7_ := Aside0.mk (blk_below (g := gb132) (o := .cells #[.slice Ao16 t126.length co16, .int .i64 t129, .int .i64 t130] 28 (0, 0)) (by (with_reducible repeat (first | refine blk_drewN ?_ _ | refine blk_drew ?_ | refine blk_alloc ?_ _)); exact BK132.out) hb); have n8_ := Aside0.mk (blk_below (g := gb139) (o := .cells #[.slice Ao20 t133.length co20, .int .i64 t136, .int .i64 t137] 28 (0, 0)) (by (with_reducible repeat (first | refine blk_drewN ?_ _ | refine blk_drew ?_ | refine blk_alloc ?_ _)); exact BK139.out) hb); have n9_ := Aside0.mk (below_step (by repeat (first | (with_reducible first | exact HB.out | apply below_alloc | apply pw_below_drewN | apply below_drew1 | refine below_set ?_ GE132.out | refine below_set ?_ GE139.out) | exact HB.out)) hb); clear HO119; clear HO122; clear HO125; clear HO128; clear HO135; clear HO142; clear BK132; clear BK139; clear HB; have HO119 := n0_; have HO122 := n1_; have HO125 := n2_; have HO128 := n3_; have HO135 := n4_; have HO142 := n5_; have HO145 := n6_; have BK132 := n7_; have BK139 := n8_; have HB := n9_; clear n0_ n1_ n2_ n3_ n4_ n5_ n6_ n7_ n8_ n9_; (try clear hb); (try clear hb2); (try clear hk); (try clear hi); (try clear ho0)) | ((with_reducible refine gate_dst (N := 5) rfl ?_); (try (refine gate_guard (by rfl) ?_; dsimp only)); refine box_event ?hg (N := 5) ?hd (cs := #[.slice none 0 0, .int .i64 0, .int .i64 0]) (t := 28) ?hr ?_; (case hd => rfl); (case hg => rfl); (case hr => first | (go_simp; done) | (go_simp; rfl)); intro gb149 hg w27 hbox hb; have n0_ := Aside0.mk (Kd.R_below (by (with_reducible repeat (first | apply Kd.R_alloc | apply Kd.R_drewN | apply Kd.R_drew)); exact HO119.out) hb); have n1_ := Aside0.mk (Kd.R_below (by (with_reducible repeat (first | apply Kd.R_alloc | apply Kd.R_drewN | apply Kd.R_drew)); exact HO122.out) hb); have n2_ := Aside0.mk (Kd.R_below (by (with_reducible repeat (first | apply Kd.R_alloc | apply Kd.R_drewN | apply Kd.R_drew)); exact HO125.out) hb); have n3_ := Aside0.mk (Kd.S_below (by (with_reducible repeat (first | apply Kd.S_alloc | apply Kd.S_drewN | apply Kd.S_drew)); exact HO128.out) hb); have n4_ := Aside0.mk (Kd.S_below (by (with_reducible repeat (first | apply Kd.S_alloc | apply Kd.S_drewN | apply Kd.S_drew)); exact HO135.out) hb); have n5_ := Aside0.mk (Kd.R_below (by (with_reducible repeat (first | apply Kd.R_alloc | apply Kd.R_drewN | apply Kd.R_drew)); exact HO142.out) hb); have n6_ := Aside0.mk (Kd.S_below (by (with_reducible repeat (first | apply Kd.S_alloc | apply Kd.S_drewN | apply Kd.S_drew)); exact HO145.out) hb); have n7_ := Aside0.mk (blk_below (g := gb132) (o := .cells #[.slice Ao16 t126.length co16, .int .i64 t129, .int .i64 t130] 28 (0, 0)) (by (with_reducible repeat (first | refine blk_drewN ?_ _ | refine blk_drew ?_ | refine blk_alloc ?_ _)); exact BK132.out) hb); have n8_ := Aside0.mk (blk_below (g := gb139) (o := .cells #[.slice Ao20 t133.length co20, .int .i64 t136, .int .i64 t137] 28 (0, 0)) (by (with_reducible repeat (first | refine blk_drewN ?_ _ | refine blk_drew ?_ | refine blk_alloc ?_ _)); exact BK139.out) hb); have n9_ := Aside0.mk (below_step (by repeat (first | (with_reducible first | exact HB.out | apply below_alloc | apply pw_below_drewN | apply below_drew1 | refine below_set ?_ GE132.out | refine below_set ?_ GE139.out) | exact HB.out)) hb); have n10_ := Aside0.mk (hbox); have n11_ := Aside0.mk ((by rw [hg]; exact (below_size (by repeat (first | (with_reducible first | exact HB.out | apply below_alloc | apply pw_below_drewN | apply below_drew1 | refine below_set ?_ GE132.out | refine below_set ?_ GE139.out) | exact HB.out))) : w.heap.size ≤ gb149)); have n12_ := Aside0.mk ((by rw [hg]; exact (below_size (by repeat (first | (with_reducible first | exact HB.out | apply below_alloc | apply pw_below_drewN | apply below_drew1 | refine below_set ?_ GE132.out | refine below_set ?_ GE139.out) | exact HB.out))) : w.heap.size ≤ gb149)); have n13_ := Aside0.mk ((by rw [hg]; exact Nat.ne_of_lt (blk_lt (g := gb132) (o := .cells #[.slice Ao16 t126.length co16, .int .i64 t129, .int .i64 t130] 28 (0, 0)) (by (with_reducible repeat (first | refine blk_drewN ?_ _ | refine blk_drew ?_ | refine blk_alloc ?_ _)); exact BK132.out)) : gb132 ≠ gb149)); have n14_ := Aside0.mk ((by rw [hg]; exact Nat.ne_of_gt (blk_lt (g := gb132) (o := .cells #[.slice Ao16 t126.length co16, .int .i64 t129, .int .i64 t130] 28 (0, 0)) (by (with_reducible repeat (first | refine blk_drewN ?_ _ | refine blk_drew ?_ | refine blk_alloc ?_ _)); exact BK132.out)) : gb149 ≠ gb132)); have n15_ := Aside0.mk ((by rw [hg]; exact Nat.ne_of_lt (blk_lt (g := gb139) (o := .cells #[.slice Ao20 t133.length co20, .int .i64 t136, .int .i64 t137] 28 (0, 0)) (by (with_reducible repeat (first | refine blk_drewN ?_ _ | refine blk_drew ?_ | refine blk_alloc ?_ _)); exact BK139.out)) : gb139 ≠ gb149)); have n16_ := Aside0.mk ((by rw [hg]; exact Nat.ne_of_gt (blk_lt (g := gb139) (o := .cells #[.slice Ao20 t133.length co20, .int .i64 t136, .int .i64 t137] 28 (0, 0)) (by (with_reducible repeat (first | refine blk_drewN ?_ _ | refine blk_drew ?_ | refine blk_alloc ?_ _)); exact BK139.out)) : gb149 ≠ gb139)); clear HO119; clear HO122; clear HO125; clear HO128; clear HO135; clear HO142; clear HO145; clear BK132; clear BK139; clear HB; have HO119 := n0_; have HO122 := n1_; have HO125 := n2_; have HO128 := n3_; have HO135 := n4_; have HO142 := n5_; have HO145 := n6_; have BK132 := n7_; have BK139 := n8_; have HB := n9_; have BK149 := n10_; have GW149 := n11_; have GE149 := n12_; have NB132_149 := n13_; have NB149_132 := n14_; have NB139_149 := n15_; have NB149_139 := n16_; clear n0_ n1_ n2_ n3_ n4_ n5_ n6_ n7_ n8_ n9_ n10_ n11_ n12_ n13_ n14_ n15_ n16_; clear hb hbox hg; obtain ⟨Ao28, co28, eo28⟩ := Kd.S_slice HO145.out; subst eo28; have hnb29 := NB149_132.out; have hnc29 := NB132_149.out; have hnb30 := NB149_139.out; have hnc30 := NB139_149.out; have hcz31_0 : w27.cell? ⟨gb149, 0, none⟩ = some (.slice none 0 0) := (blk_cell BK149.out 0).trans rfl; have hcz31_1 : w27.cell? ⟨gb149, 1, none⟩ = some (.int .i64 0) := (blk_cell BK149.out 1).trans rfl; have hcz31_2 : w27.cell? ⟨gb149, 2, none⟩ = some (.int .i64 0) := (blk_cell BK149.out 2).trans rfl; have hfz31_0 := blk_frozen BK149.out 0; have hfz31_1 := blk_frozen BK149.out 1; have hfz31_2 := blk_frozen BK149.out 2))
  (try simp only [Act.put, List.setIfInBounds_toArray, List.set_cons_zero, List.set_cons_succ])
  go_cut [48] (fun v48 wc => ∃ (kq : Nat) (x48_3 : Bool), v48 = .bool x48_3 ∧ Aside0 (duetlaw21_liveK.j0 kq t131 t138 t148 x48_3 t126 t129 t130 t143 t146 t147 = some r) ∧ Aside0 (kq ≤ k) ∧ Aside0 (Kd.S (Kd.slice 47 k47) 45 wc w.heap.size (fun k_ => some k_ ≠ ((.slice Ao20 t133.length co20) : Value).ownBlock ∧ some k_ ≠ ((.slice Ao28 t143.length co28) : Value).ownBlock) (.slice Ao16 t126.length co16) t126) ∧ Aside0 (Kd.S (Kd.slice 47 k47) 45 wc w.heap.size (fun k_ => some k_ ≠ ((.slice Ao16 t126.length co16) : Value).ownBlock ∧ some k_ ≠ ((.slice Ao28 t143.length co28) : Value).ownBlock) (.slice Ao20 t133.length co20) t133) ∧ Aside0 (Kd.S (Kd.slice 47 k47) 45 wc w.heap.size (fun k_ => some k_ ≠ ((.slice Ao16 t126.length co16) : Value).ownBlock ∧ some k_ ≠ ((.slice Ao20 t133.length co20) : Value).ownBlock) (.slice Ao28 t143.length co28) t143) ∧ Aside0 (wc.heap[gb132]? = some (.cells #[(.slice Ao16 t126.length co16), .int .i64 t129, .int .i64 t130] 28 (0, 0))) ∧ Aside0 (wc.heap[gb139]? = some (.cells #[(.slice Ao20 t133.length co20), .int .i64 t136, .int .i64 t137] 28 (0, 0))) ∧ Aside0 (wc.heap[gb149]? = some (.cells #[(.slice Ao28 t143.length co28), .int .i64 t146, .int .i64 t147] 28 (0, 0))) ∧ Aside0 (Below w.heap.size w wc))
  case first =>
    have H := HC4.out
    clear HC4
    by_cases c32 : (t126.length : Int) = 2
    · rw [if_pos c32] at H
      have c32b0 : ((t126.length : Int) == 2) = true := beq_iff_eq.mpr c32
      have c32b1 : ((t126.length : Int) != 2) = false := bne_eq_false_iff_eq.mpr c32
      clear c32
      (first | rw [c32b0] | (simp only [i64_w, i32_w]; rw [c32b0]) | skip)
      by_cases c33 : (t143.length : Int) = 2
      · rw [if_pos c33] at H
        have c33b0 : ((t143.length : Int) == 2) = true := beq_iff_eq.mpr c33
        have c33b1 : ((t143.length : Int) != 2) = false := bne_eq_false_iff_eq.mpr c33
        clear c33
        by_cases c34 : 0 < (t126.length : Int)
        · rw [if_pos c34] at H
          have c34b0 : decide (0 < (t126.length : Int)) = true := decide_eq_true c34
          have c34b1 : decide (0 < t126.length) = true := decide_eq_true (by omega)
          clear c34
          by_cases c35 : ((rd_L6 t126 0).length : Int) = 3
          · rw [if_pos c35] at H
            have c35b0 : (((rd_L6 t126 0).length : Int) == 3) = true := beq_iff_eq.mpr c35
            have c35b1 : (((rd_L6 t126 0).length : Int) != 3) = false := bne_eq_false_iff_eq.mpr c35
            clear c35
            by_cases c36 : 0 < (t143.length : Int)
            · rw [if_pos c36] at H
              have c36b0 : decide (0 < (t143.length : Int)) = true := decide_eq_true c36
              have c36b1 : decide (0 < t143.length) = true := decide_eq_true (by omega)
              clear c36
              have H' := Aside0.mk H
              clear H
              have hnb37 := NB132_139.out
              have hnc37 := NB139_132.out
              have hnb38 := NB132_149.out
              have hnc38 := NB149_132.out
              have hcz39_0 : w27.cell? ⟨gb132, 0, none⟩ = some (.slice Ao16 t126.length co16) := (blk_cell BK132.out 0).trans rfl
              have hcz39_1 : w27.cell? ⟨gb132, 1, none⟩ = some (.int .i64 t129) := (blk_cell BK132.out 1).trans rfl
              have hcz39_2 : w27.cell? ⟨gb132, 2, none⟩ = some (.int .i64 t130) := (blk_cell BK132.out 2).trans rfl
              have hfz39_0 := blk_frozen BK132.out 0
              have hfz39_1 := blk_frozen BK132.out 1
              have hfz39_2 := blk_frozen BK132.out 2
              have hnb40 := NB149_139.out
              have hnc40 := NB139_149.out
              have hcz41_0 : w27.cell? ⟨gb149, 0, none⟩ = some (.slice none 0 0) := (blk_cell BK149.out 0).trans rfl
              have hcz41_1 : w27.cell? ⟨gb149, 1, none⟩ = some (.int .i64 0) := (blk_cell BK149.out 1).trans rfl
              have hcz41_2 : w27.cell? ⟨gb149, 2, none⟩ = some (.int .i64 0) := (blk_cell BK149.out 2).trans rfl
              have hfz41_0 := blk_frozen BK149.out 0
              have hfz41_1 := blk_frozen BK149.out 1
              have hfz41_2 := blk_frozen BK149.out 2
              have p150 : 0 ≤ (0 : Int) := (by omega)
              have q150 : 0 < (t126.length : Int) := of_decide_eq_true (by first | (with_reducible assumption) | assumption)
              obtain ⟨ad150, A150_0, c150_0, e150, hx150_0, hl150_0, hi150_0⟩ := at_L6 (Kd.S_reads' HO128.out).2.2 0 p150 q150
              cases e150
              have qi150 : (0 < t126.length) = True := eq_true (by omega)
              (try rw [show ((0 : Int)).toNat = 0 from rfl] at hx150_0)
              (try rw [Addr.add_zero'] at hx150_0)
              have hn150_0 : ad150.block ≠ gb149 := Kd.own_blk (Kd.S_ne HO128.out BK149.out (by decide))
              have hn150_1 : ad150.block ≠ gb149 := Kd.own_blk (Kd.S_ne HO128.out BK149.out (by decide))
              have hn150_2 : ad150.block ≠ gb149 := Kd.own_blk (Kd.S_ne HO128.out BK149.out (by decide))
              have HR150_0 := Aside0.mk hi150_0
              have HC150_0 := Aside0.mk hl150_0
              clear hi150_0 hl150_0
              replace hx150_0 := (cell_far (p := ⟨gb149, 0, none⟩) (by first | (rw [add_block]; exact hn150_0) | (show (Addr.add _ _).block ≠ _; rw [add_block]; exact hn150_0) | exact hn150_0) (.slice Ao28 t143.length co28)).trans hx150_0
              replace hx150_0 := (cell_far (p := ⟨gb149, 1, none⟩) (by first | (rw [add_block]; exact hn150_1) | (show (Addr.add _ _).block ≠ _; rw [add_block]; exact hn150_1) | exact hn150_1) (.int .i64 t146)).trans hx150_0
              replace hx150_0 := (cell_far (p := ⟨gb149, 2, none⟩) (by first | (rw [add_block]; exact hn150_2) | (show (Addr.add _ _).block ≠ _; rw [add_block]; exact hn150_2) | exact hn150_2) (.int .i64 t147)).trans hx150_0
              clear hn150_0
              clear hn150_1
              clear hn150_2
              replace p150 := eq_true p150
              replace q150 := eq_true q150
              have p151 : 0 ≤ (0 : Int) := (by omega)
              have q151 : 0 < (t143.length : Int) := of_decide_eq_true (by first | (with_reducible assumption) | assumption)
              obtain ⟨ad151, A151_0, c151_0, e151, hx151_0, hl151_0, hi151_0⟩ := at_L6 (Kd.S_reads' HO145.out).2.2 0 p151 q151
              cases e151
              have qi151 : (0 < t143.length) = True := eq_true (by omega)
              (try rw [show ((0 : Int)).toNat = 0 from rfl] at hx151_0)
              (try rw [Addr.add_zero'] at hx151_0)
              have hn151_0 : ad151.block ≠ gb149 := Kd.own_blk (Kd.S_ne HO145.out BK149.out (by decide))
              have hn151_1 : ad151.block ≠ gb149 := Kd.own_blk (Kd.S_ne HO145.out BK149.out (by decide))
              have hn151_2 : ad151.block ≠ gb149 := Kd.own_blk (Kd.S_ne HO145.out BK149.out (by decide))
              have HR151_0 := Aside0.mk hi151_0
              have HC151_0 := Aside0.mk hl151_0
              clear hi151_0 hl151_0
              replace hx151_0 := (cell_far (p := ⟨gb149, 0, none⟩) (by first | (rw [add_block]; exact hn151_0) | (show (Addr.add _ _).block ≠ _; rw [add_block]; exact hn151_0) | exact hn151_0) (.slice (some ad151) t143.length co28)).trans hx151_0
              replace hx151_0 := (cell_far (p := ⟨gb149, 1, none⟩) (by first | (rw [add_block]; exact hn151_1) | (show (Addr.add _ _).block ≠ _; rw [add_block]; exact hn151_1) | exact hn151_1) (.int .i64 t146)).trans hx151_0
              replace hx151_0 := (cell_far (p := ⟨gb149, 2, none⟩) (by first | (rw [add_block]; exact hn151_2) | (show (Addr.add _ _).block ≠ _; rw [add_block]; exact hn151_2) | exact hn151_2) (.int .i64 t147)).trans hx151_0
              clear hn151_0
              clear hn151_1
              clear hn151_2
              replace p151 := eq_true p151
              replace q151 := eq_true q151
              go_wp2
              go_meet
              case rel => exact ⟨_, ((((rd_L6 t143 0).length : Int) != 3)), (by first | rfl | (simp; done) | (simp [*]; done)), H', ⟨by first | omega | exact Nat.le_refl _⟩, ⟨by (with_reducible repeat (first | apply Kd.S_alloc | apply Kd.S_drewN | apply Kd.S_drew)); exact Kd.S_mono (Kd.S_far (p := ⟨gb149, 2, none⟩) (Kd.S_far (p := ⟨gb149, 1, none⟩) (Kd.S_far (p := ⟨gb149, 0, none⟩) (Kd.S_types HO128.out BK149.out (by decide)) (fun _ hk => hk.2) (.slice (some ad151) t143.length co28)) (fun _ hk => hk.2) (.int .i64 t146)) (fun _ hk => hk.2) (.int .i64 t147)) (fun _ hk => ⟨hk.1.1.2, hk.1.2⟩)⟩, ⟨by (with_reducible repeat (first | apply Kd.S_alloc | apply Kd.S_drewN | apply Kd.S_drew)); exact Kd.S_mono (Kd.S_far (p := ⟨gb149, 2, none⟩) (Kd.S_far (p := ⟨gb149, 1, none⟩) (Kd.S_far (p := ⟨gb149, 0, none⟩) (Kd.S_types HO135.out BK149.out (by decide)) (fun _ hk => hk.2) (.slice (some ad151) t143.length co28)) (fun _ hk => hk.2) (.int .i64 t146)) (fun _ hk => hk.2) (.int .i64 t147)) (fun _ hk => ⟨hk.1.1.2, hk.1.2⟩)⟩, ⟨by (with_reducible repeat (first | apply Kd.S_alloc | apply Kd.S_drewN | apply Kd.S_drew)); exact Kd.S_mono (Kd.S_far (p := ⟨gb149, 2, none⟩) (Kd.S_far (p := ⟨gb149, 1, none⟩) (Kd.S_far (p := ⟨gb149, 0, none⟩) (Kd.S_types HO145.out BK149.out (by decide)) (fun _ hk => hk.2) (.slice (some ad151) t143.length co28)) (fun _ hk => hk.2) (.int .i64 t146)) (fun _ hk => hk.2) (.int .i64 t147)) (fun _ hk => ⟨hk.1.1.2, hk.1.2⟩)⟩, ⟨by (with_reducible repeat (first | refine blk_drewN ?_ _ | refine blk_drew ?_ | refine blk_alloc ?_ _)); refine blk_far ?_ NB132_149.out _; (with_reducible repeat (first | refine blk_drewN ?_ _ | refine blk_drew ?_ | refine blk_alloc ?_ _)); refine blk_far ?_ NB132_149.out _; (with_reducible repeat (first | refine blk_drewN ?_ _ | refine blk_drew ?_ | refine blk_alloc ?_ _)); refine blk_far ?_ NB132_149.out _; (with_reducible repeat (first | refine blk_drewN ?_ _ | refine blk_drew ?_ | refine blk_alloc ?_ _)); exact BK132.out⟩, ⟨by (with_reducible repeat (first | refine blk_drewN ?_ _ | refine blk_drew ?_ | refine blk_alloc ?_ _)); refine blk_far ?_ NB139_149.out _; (with_reducible repeat (first | refine blk_drewN ?_ _ | refine blk_drew ?_ | refine blk_alloc ?_ _)); refine blk_far ?_ NB139_149.out _; (with_reducible repeat (first | refine blk_drewN ?_ _ | refine blk_drew ?_ | refine blk_alloc ?_ _)); refine blk_far ?_ NB139_149.out _; (with_reducible repeat (first | refine blk_drewN ?_ _ | refine blk_drew ?_ | refine blk_alloc ?_ _)); exact BK139.out⟩, ⟨by (with_reducible repeat (first | refine blk_drewN ?_ _ | refine blk_drew ?_ | refine blk_alloc ?_ _)); refine blk_put (cs := #[.slice (some ad151) t143.length co28, .int .i64 t146, .int .i64 0]) ?_ 2 _ rfl; (with_reducible repeat (first | refine blk_drewN ?_ _ | refine blk_drew ?_ | refine blk_alloc ?_ _)); refine blk_put (cs := #[.slice (some ad151) t143.length co28, .int .i64 0, .int .i64 0]) ?_ 1 _ rfl; (with_reducible repeat (first | refine blk_drewN ?_ _ | refine blk_drew ?_ | refine blk_alloc ?_ _)); refine blk_put (cs := #[.slice none 0 0, .int .i64 0, .int .i64 0]) ?_ 0 _ rfl; (with_reducible repeat (first | refine blk_drewN ?_ _ | refine blk_drew ?_ | refine blk_alloc ?_ _)); exact BK149.out⟩, ⟨by repeat (first | (with_reducible first | exact HB.out | apply below_alloc | apply pw_below_drewN | apply below_drew1 | refine below_set ?_ GE132.out | refine below_set ?_ GE139.out | refine below_set ?_ GE149.out) | exact HB.out)⟩⟩
            · rw [if_neg c36] at H
              exact absurd H (by simp)
          · rw [if_neg c35] at H
            have c35b0 : (((rd_L6 t126 0).length : Int) == 3) = false := beq_eq_false_iff_ne.mpr c35
            have c35b1 : (((rd_L6 t126 0).length : Int) != 3) = true := bne_iff_ne.mpr c35
            have H' := Aside0.mk H
            clear H
            have hnb42 := NB132_139.out
            have hnc42 := NB139_132.out
            have hnb43 := NB132_149.out
            have hnc43 := NB149_132.out
            have hcz44_0 : w27.cell? ⟨gb132, 0, none⟩ = some (.slice Ao16 t126.length co16) := (blk_cell BK132.out 0).trans rfl
            have hcz44_1 : w27.cell? ⟨gb132, 1, none⟩ = some (.int .i64 t129) := (blk_cell BK132.out 1).trans rfl
            have hcz44_2 : w27.cell? ⟨gb132, 2, none⟩ = some (.int .i64 t130) := (blk_cell BK132.out 2).trans rfl
            have hfz44_0 := blk_frozen BK132.out 0
            have hfz44_1 := blk_frozen BK132.out 1
            have hfz44_2 := blk_frozen BK132.out 2
            have hnb45 := NB149_139.out
            have hnc45 := NB139_149.out
            have hcz46_0 : w27.cell? ⟨gb149, 0, none⟩ = some (.slice none 0 0) := (blk_cell BK149.out 0).trans rfl
            have hcz46_1 : w27.cell? ⟨gb149, 1, none⟩ = some (.int .i64 0) := (blk_cell BK149.out 1).trans rfl
            have hcz46_2 : w27.cell? ⟨gb149, 2, none⟩ = some (.int .i64 0) := (blk_cell BK149.out 2).trans rfl
            have hfz46_0 := blk_frozen BK149.out 0
            have hfz46_1 := blk_frozen BK149.out 1
            have hfz46_2 := blk_frozen BK149.out 2
            have p150 : 0 ≤ (0 : Int) := (by omega)
            have q150 : 0 < (t126.length : Int) := of_decide_eq_true (by first | (with_reducible assumption) | assumption)
            obtain ⟨ad150, A150_0, c150_0, e150, hx150_0, hl150_0, hi150_0⟩ := at_L6 (Kd.S_reads' HO128.out).2.2 0 p150 q150
            cases e150
            have qi150 : (0 < t126.length) = True := eq_true (by omega)
            (try rw [show ((0 : Int)).toNat = 0 from rfl] at hx150_0)
            (try rw [Addr.add_zero'] at hx150_0)
            have hn150_0 : ad150.block ≠ gb149 := Kd.own_blk (Kd.S_ne HO128.out BK149.out (by decide))
            have hn150_1 : ad150.block ≠ gb149 := Kd.own_blk (Kd.S_ne HO128.out BK149.out (by decide))
            have hn150_2 : ad150.block ≠ gb149 := Kd.own_blk (Kd.S_ne HO128.out BK149.out (by decide))
            have HR150_0 := Aside0.mk hi150_0
            have HC150_0 := Aside0.mk hl150_0
            clear hi150_0 hl150_0
            replace hx150_0 := (cell_far (p := ⟨gb149, 0, none⟩) (by first | (rw [add_block]; exact hn150_0) | (show (Addr.add _ _).block ≠ _; rw [add_block]; exact hn150_0) | exact hn150_0) (.slice Ao28 t143.length co28)).trans hx150_0
            replace hx150_0 := (cell_far (p := ⟨gb149, 1, none⟩) (by first | (rw [add_block]; exact hn150_1) | (show (Addr.add _ _).block ≠ _; rw [add_block]; exact hn150_1) | exact hn150_1) (.int .i64 t146)).trans hx150_0
            replace hx150_0 := (cell_far (p := ⟨gb149, 2, none⟩) (by first | (rw [add_block]; exact hn150_2) | (show (Addr.add _ _).block ≠ _; rw [add_block]; exact hn150_2) | exact hn150_2) (.int .i64 t147)).trans hx150_0
            clear hn150_0
            clear hn150_1
            clear hn150_2
            replace p150 := eq_true p150
            replace q150 := eq_true q150
            go_wp2
            go_meet
            case rel => exact ⟨_, (true), (by first | rfl | (simp; done) | (simp [*]; done)), H', ⟨by first | omega | exact Nat.le_refl _⟩, ⟨by (with_reducible repeat (first | apply Kd.S_alloc | apply Kd.S_drewN | apply Kd.S_drew)); exact Kd.S_mono (Kd.S_far (p := ⟨gb149, 2, none⟩) (Kd.S_far (p := ⟨gb149, 1, none⟩) (Kd.S_far (p := ⟨gb149, 0, none⟩) (Kd.S_types HO128.out BK149.out (by decide)) (fun _ hk => hk.2) (.slice Ao28 t143.length co28)) (fun _ hk => hk.2) (.int .i64 t146)) (fun _ hk => hk.2) (.int .i64 t147)) (fun _ hk => ⟨hk.1.1.2, hk.1.2⟩)⟩, ⟨by (with_reducible repeat (first | apply Kd.S_alloc | apply Kd.S_drewN | apply Kd.S_drew)); exact Kd.S_mono (Kd.S_far (p := ⟨gb149, 2, none⟩) (Kd.S_far (p := ⟨gb149, 1, none⟩) (Kd.S_far (p := ⟨gb149, 0, none⟩) (Kd.S_types HO135.out BK149.out (by decide)) (fun _ hk => hk.2) (.slice Ao28 t143.length co28)) (fun _ hk => hk.2) (.int .i64 t146)) (fun _ hk => hk.2) (.int .i64 t147)) (fun _ hk => ⟨hk.1.1.2, hk.1.2⟩)⟩, ⟨by (with_reducible repeat (first | apply Kd.S_alloc | apply Kd.S_drewN | apply Kd.S_drew)); exact Kd.S_mono (Kd.S_far (p := ⟨gb149, 2, none⟩) (Kd.S_far (p := ⟨gb149, 1, none⟩) (Kd.S_far (p := ⟨gb149, 0, none⟩) (Kd.S_types HO145.out BK149.out (by decide)) (fun _ hk => hk.2) (.slice Ao28 t143.length co28)) (fun _ hk => hk.2) (.int .i64 t146)) (fun _ hk => hk.2) (.int .i64 t147)) (fun _ hk => ⟨hk.1.1.2, hk.1.2⟩)⟩, ⟨by (with_reducible repeat (first | refine blk_drewN ?_ _ | refine blk_drew ?_ | refine blk_alloc ?_ _)); refine blk_far ?_ NB132_149.out _; (with_reducible repeat (first | refine blk_drewN ?_ _ | refine blk_drew ?_ | refine blk_alloc ?_ _)); refine blk_far ?_ NB132_149.out _; (with_reducible repeat (first | refine blk_drewN ?_ _ | refine blk_drew ?_ | refine blk_alloc ?_ _)); refine blk_far ?_ NB132_149.out _; (with_reducible repeat (first | refine blk_drewN ?_ _ | refine blk_drew ?_ | refine blk_alloc ?_ _)); exact BK132.out⟩, ⟨by (with_reducible repeat (first | refine blk_drewN ?_ _ | refine blk_drew ?_ | refine blk_alloc ?_ _)); refine blk_far ?_ NB139_149.out _; (with_reducible repeat (first | refine blk_drewN ?_ _ | refine blk_drew ?_ | refine blk_alloc ?_ _)); refine blk_far ?_ NB139_149.out _; (with_reducible repeat (first | refine blk_drewN ?_ _ | refine blk_drew ?_ | refine blk_alloc ?_ _)); refine blk_far ?_ NB139_149.out _; (with_reducible repeat (first | refine blk_drewN ?_ _ | refine blk_drew ?_ | refine blk_alloc ?_ _)); exact BK139.out⟩, ⟨by (with_reducible repeat (first | refine blk_drewN ?_ _ | refine blk_drew ?_ | refine blk_alloc ?_ _)); refine blk_put (cs := #[.slice Ao28 t143.length co28, .int .i64 t146, .int .i64 0]) ?_ 2 _ rfl; (with_reducible repeat (first | refine blk_drewN ?_ _ | refine blk_drew ?_ | refine blk_alloc ?_ _)); refine blk_put (cs := #[.slice Ao28 t143.length co28, .int .i64 0, .int .i64 0]) ?_ 1 _ rfl; (with_reducible repeat (first | refine blk_drewN ?_ _ | refine blk_drew ?_ | refine blk_alloc ?_ _)); refine blk_put (cs := #[.slice none 0 0, .int .i64 0, .int .i64 0]) ?_ 0 _ rfl; (with_reducible repeat (first | refine blk_drewN ?_ _ | refine blk_drew ?_ | refine blk_alloc ?_ _)); exact BK149.out⟩, ⟨by repeat (first | (with_reducible first | exact HB.out | apply below_alloc | apply pw_below_drewN | apply below_drew1 | refine below_set ?_ GE132.out | refine below_set ?_ GE139.out | refine below_set ?_ GE149.out) | exact HB.out)⟩⟩
        · rw [if_neg c34] at H
          exact absurd H (by simp)
      · rw [if_neg c33] at H
        have c33b0 : ((t143.length : Int) == 2) = false := beq_eq_false_iff_ne.mpr c33
        have c33b1 : ((t143.length : Int) != 2) = true := bne_iff_ne.mpr c33
        have H' := Aside0.mk H
        clear H
        have hnb47 := NB132_139.out
        have hnc47 := NB139_132.out
        have hnb48 := NB132_149.out
        have hnc48 := NB149_132.out
        have hcz49_0 : w27.cell? ⟨gb132, 0, none⟩ = some (.slice Ao16 t126.length co16) := (blk_cell BK132.out 0).trans rfl
        have hcz49_1 : w27.cell? ⟨gb132, 1, none⟩ = some (.int .i64 t129) := (blk_cell BK132.out 1).trans rfl
        have hcz49_2 : w27.cell? ⟨gb132, 2, none⟩ = some (.int .i64 t130) := (blk_cell BK132.out 2).trans rfl
        have hfz49_0 := blk_frozen BK132.out 0
        have hfz49_1 := blk_frozen BK132.out 1
        have hfz49_2 := blk_frozen BK132.out 2
        have hnb50 := NB149_139.out
        have hnc50 := NB139_149.out
        have hcz51_0 : w27.cell? ⟨gb149, 0, none⟩ = some (.slice none 0 0) := (blk_cell BK149.out 0).trans rfl
        have hcz51_1 : w27.cell? ⟨gb149, 1, none⟩ = some (.int .i64 0) := (blk_cell BK149.out 1).trans rfl
        have hcz51_2 : w27.cell? ⟨gb149, 2, none⟩ = some (.int .i64 0) := (blk_cell BK149.out 2).trans rfl
        have hfz51_0 := blk_frozen BK149.out 0
        have hfz51_1 := blk_frozen BK149.out 1
        have hfz51_2 := blk_frozen BK149.out 2
        go_wp2
        go_meet
        case rel => exact ⟨_, (true), (by first | rfl | (simp; done) | (simp [*]; done)), H', ⟨by first | omega | exact Nat.le_refl _⟩, ⟨by (with_reducible repeat (first | apply Kd.S_alloc | apply Kd.S_drewN | apply Kd.S_drew)); exact Kd.S_mono (Kd.S_far (p := ⟨gb149, 2, none⟩) (Kd.S_far (p := ⟨gb149, 1, none⟩) (Kd.S_far (p := ⟨gb149, 0, none⟩) (Kd.S_types HO128.out BK149.out (by decide)) (fun _ hk => hk.2) (.slice Ao28 t143.length co28)) (fun _ hk => hk.2) (.int .i64 t146)) (fun _ hk => hk.2) (.int .i64 t147)) (fun _ hk => ⟨hk.1.1.2, hk.1.2⟩)⟩, ⟨by (with_reducible repeat (first | apply Kd.S_alloc | apply Kd.S_drewN | apply Kd.S_drew)); exact Kd.S_mono (Kd.S_far (p := ⟨gb149, 2, none⟩) (Kd.S_far (p := ⟨gb149, 1, none⟩) (Kd.S_far (p := ⟨gb149, 0, none⟩) (Kd.S_types HO135.out BK149.out (by decide)) (fun _ hk => hk.2) (.slice Ao28 t143.length co28)) (fun _ hk => hk.2) (.int .i64 t146)) (fun _ hk => hk.2) (.int .i64 t147)) (fun _ hk => ⟨hk.1.1.2, hk.1.2⟩)⟩, ⟨by (with_reducible repeat (first | apply Kd.S_alloc | apply Kd.S_drewN | apply Kd.S_drew)); exact Kd.S_mono (Kd.S_far (p := ⟨gb149, 2, none⟩) (Kd.S_far (p := ⟨gb149, 1, none⟩) (Kd.S_far (p := ⟨gb149, 0, none⟩) (Kd.S_types HO145.out BK149.out (by decide)) (fun _ hk => hk.2) (.slice Ao28 t143.length co28)) (fun _ hk => hk.2) (.int .i64 t146)) (fun _ hk => hk.2) (.int .i64 t147)) (fun _ hk => ⟨hk.1.1.2, hk.1.2⟩)⟩, ⟨by (with_reducible repeat (first | refine blk_drewN ?_ _ | refine blk_drew ?_ | refine blk_alloc ?_ _)); refine blk_far ?_ NB132_149.out _; (with_reducible repeat (first | refine blk_drewN ?_ _ | refine blk_drew ?_ | refine blk_alloc ?_ _)); refine blk_far ?_ NB132_149.out _; (with_reducible repeat (first | refine blk_drewN ?_ _ | refine blk_drew ?_ | refine blk_alloc ?_ _)); refine blk_far ?_ NB132_149.out _; (with_reducible repeat (first | refine blk_drewN ?_ _ | refine blk_drew ?_ | refine blk_alloc ?_ _)); exact BK132.out⟩, ⟨by (with_reducible repeat (first | refine blk_drewN ?_ _ | refine blk_drew ?_ | refine blk_alloc ?_ _)); refine blk_far ?_ NB139_149.out _; (with_reducible repeat (first | refine blk_drewN ?_ _ | refine blk_drew ?_ | refine blk_alloc ?_ _)); refine blk_far ?_ NB139_149.out _; (with_reducible repeat (first | refine blk_drewN ?_ _ | refine blk_drew ?_ | refine blk_alloc ?_ _)); refine blk_far ?_ NB139_149.out _; (with_reducible repeat (first | refine blk_drewN ?_ _ | refine blk_drew ?_ | refine blk_alloc ?_ _)); exact BK139.out⟩, ⟨by (with_reducible repeat (first | refine blk_drewN ?_ _ | refine blk_drew ?_ | refine blk_alloc ?_ _)); refine blk_put (cs := #[.slice Ao28 t143.length co28, .int .i64 t146, .int .i64 0]) ?_ 2 _ rfl; (with_reducible repeat (first | refine blk_drewN ?_ _ | refine blk_drew ?_ | refine blk_alloc ?_ _)); refine blk_put (cs := #[.slice Ao28 t143.length co28, .int .i64 0, .int .i64 0]) ?_ 1 _ rfl; (with_reducible repeat (first | refine blk_drewN ?_ _ | refine blk_drew ?_ | refine blk_alloc ?_ _)); refine blk_put (cs := #[.slice none 0 0, .int .i64 0, .int .i64 0]) ?_ 0 _ rfl; (with_reducible repeat (first | refine blk_drewN ?_ _ | refine blk_drew ?_ | refine blk_alloc ?_ _)); exact BK149.out⟩, ⟨by repeat (first | (with_reducible first | exact HB.out | apply below_alloc | apply pw_below_drewN | apply below_drew1 | refine below_set ?_ GE132.out | refine below_set ?_ GE139.out | refine below_set ?_ GE149.out) | exact HB.out)⟩⟩
    · rw [if_neg c32] at H
      have c32b0 : ((t126.length : Int) == 2) = false := beq_eq_false_iff_ne.mpr c32
      have c32b1 : ((t126.length : Int) != 2) = true := bne_iff_ne.mpr c32
      (first | rw [c32b0] | (simp only [i64_w, i32_w]; rw [c32b0]) | skip)
      have H' := Aside0.mk H
      clear H
      have hnb52 := NB132_139.out
      have hnc52 := NB139_132.out
      have hnb53 := NB132_149.out
      have hnc53 := NB149_132.out
      have hcz54_0 : w27.cell? ⟨gb132, 0, none⟩ = some (.slice Ao16 t126.length co16) := (blk_cell BK132.out 0).trans rfl
      have hcz54_1 : w27.cell? ⟨gb132, 1, none⟩ = some (.int .i64 t129) := (blk_cell BK132.out 1).trans rfl
      have hcz54_2 : w27.cell? ⟨gb132, 2, none⟩ = some (.int .i64 t130) := (blk_cell BK132.out 2).trans rfl
      have hfz54_0 := blk_frozen BK132.out 0
      have hfz54_1 := blk_frozen BK132.out 1
      have hfz54_2 := blk_frozen BK132.out 2
      go_wp2
      go_meet
      case rel => exact ⟨_, (true), (by first | rfl | (simp; done) | (simp [*]; done)), H', ⟨by first | omega | exact Nat.le_refl _⟩, ⟨by (with_reducible repeat (first | apply Kd.S_alloc | apply Kd.S_drewN | apply Kd.S_drew)); exact Kd.S_mono (Kd.S_far (p := ⟨gb149, 2, none⟩) (Kd.S_far (p := ⟨gb149, 1, none⟩) (Kd.S_far (p := ⟨gb149, 0, none⟩) (Kd.S_types HO128.out BK149.out (by decide)) (fun _ hk => hk.2) (.slice Ao28 t143.length co28)) (fun _ hk => hk.2) (.int .i64 t146)) (fun _ hk => hk.2) (.int .i64 t147)) (fun _ hk => ⟨hk.1.1.2, hk.1.2⟩)⟩, ⟨by (with_reducible repeat (first | apply Kd.S_alloc | apply Kd.S_drewN | apply Kd.S_drew)); exact Kd.S_mono (Kd.S_far (p := ⟨gb149, 2, none⟩) (Kd.S_far (p := ⟨gb149, 1, none⟩) (Kd.S_far (p := ⟨gb149, 0, none⟩) (Kd.S_types HO135.out BK149.out (by decide)) (fun _ hk => hk.2) (.slice Ao28 t143.length co28)) (fun _ hk => hk.2) (.int .i64 t146)) (fun _ hk => hk.2) (.int .i64 t147)) (fun _ hk => ⟨hk.1.1.2, hk.1.2⟩)⟩, ⟨by (with_reducible repeat (first | apply Kd.S_alloc | apply Kd.S_drewN | apply Kd.S_drew)); exact Kd.S_mono (Kd.S_far (p := ⟨gb149, 2, none⟩) (Kd.S_far (p := ⟨gb149, 1, none⟩) (Kd.S_far (p := ⟨gb149, 0, none⟩) (Kd.S_types HO145.out BK149.out (by decide)) (fun _ hk => hk.2) (.slice Ao28 t143.length co28)) (fun _ hk => hk.2) (.int .i64 t146)) (fun _ hk => hk.2) (.int .i64 t147)) (fun _ hk => ⟨hk.1.1.2, hk.1.2⟩)⟩, ⟨by (with_reducible repeat (first | refine blk_drewN ?_ _ | refine blk_drew ?_ | refine blk_alloc ?_ _)); refine blk_far ?_ NB132_149.out _; (with_reducible repeat (first | refine blk_drewN ?_ _ | refine blk_drew ?_ | refine blk_alloc ?_ _)); refine blk_far ?_ NB132_149.out _; (with_reducible repeat (first | refine blk_drewN ?_ _ | refine blk_drew ?_ | refine blk_alloc ?_ _)); refine blk_far ?_ NB132_149.out _; (with_reducible repeat (first | refine blk_drewN ?_ _ | refine blk_drew ?_ | refine blk_alloc ?_ _)); exact BK132.out⟩, ⟨by (with_reducible repeat (first | refine blk_drewN ?_ _ | refine blk_drew ?_ | refine blk_alloc ?_ _)); refine blk_far ?_ NB139_149.out _; (with_reducible repeat (first | refine blk_drewN ?_ _ | refine blk_drew ?_ | refine blk_alloc ?_ _)); refine blk_far ?_ NB139_149.out _; (with_reducible repeat (first | refine blk_drewN ?_ _ | refine blk_drew ?_ | refine blk_alloc ?_ _)); refine blk_far ?_ NB139_149.out _; (with_reducible repeat (first | refine blk_drewN ?_ _ | refine blk_drew ?_ | refine blk_alloc ?_ _)); exact BK139.out⟩, ⟨by (with_reducible repeat (first | refine blk_drewN ?_ _ | refine blk_drew ?_ | refine blk_alloc ?_ _)); refine blk_put (cs := #[.slice Ao28 t143.length co28, .int .i64 t146, .int .i64 0]) ?_ 2 _ rfl; (with_reducible repeat (first | refine blk_drewN ?_ _ | refine blk_drew ?_ | refine blk_alloc ?_ _)); refine blk_put (cs := #[.slice Ao28 t143.length co28, .int .i64 0, .int .i64 0]) ?_ 1 _ rfl; (with_reducible repeat (first | refine blk_drewN ?_ _ | refine blk_drew ?_ | refine blk_alloc ?_ _)); refine blk_put (cs := #[.slice none 0 0, .int .i64 0, .int .i64 0]) ?_ 0 _ rfl; (with_reducible repeat (first | refine blk_drewN ?_ _ | refine blk_drew ?_ | refine blk_alloc ?_ _)); exact BK149.out⟩, ⟨by repeat (first | (with_reducible first | exact HB.out | apply below_alloc | apply pw_below_drewN | apply below_drew1 | refine below_set ?_ GE132.out | refine below_set ?_ GE139.out | refine below_set ?_ GE149.out) | exact HB.out)⟩⟩
  case rest =>
    clear HC4
    try clear c1
    try clear p1
    try clear q1
    try clear hx1
    try clear qi1
    try clear c2
    try clear p2
    try clear c3
    try clear c4
    try clear c5
    try clear c9
    try clear c10
    try clear c15
    try clear p15
    try clear q15
    try clear hx15
    try clear qi15
    try clear c21
    try clear c29
    try clear c30
    try clear c32
    try clear c32b0
    try clear c32b1
    try clear c33
    try clear c33b0
    try clear c33b1
    try clear c34
    try clear c34b0
    try clear c34b1
    try clear c35
    try clear c35b0
    try clear c35b1
    try clear c36
    try clear c36b0
    try clear c36b1
    try clear c37
    try clear c38
    try clear c40
    try clear c42
    try clear c43
    try clear c45
    try clear c47
    try clear c48
    try clear c50
    try clear c52
    try clear c53
    try clear hcz17_0
    try clear hcz17_1
    try clear hcz17_2
    try clear hcz22_0
    try clear hcz22_1
    try clear hcz22_2
    try clear hcz31_0
    try clear hcz31_1
    try clear hcz31_2
    try clear hcz39_0
    try clear hcz39_1
    try clear hcz39_2
    try clear hcz41_0
    try clear hcz41_1
    try clear hcz41_2
    try clear hcz44_0
    try clear hcz44_1
    try clear hcz44_2
    try clear hcz46_0
    try clear hcz46_1
    try clear hcz46_2
    try clear hcz49_0
    try clear hcz49_1
    try clear hcz49_2
    try clear hcz51_0
    try clear hcz51_1
    try clear hcz51_2
    try clear hcz54_0
    try clear hcz54_1
    try clear hcz54_2
    try clear hfz17_0
    try clear hfz17_1
    try clear hfz17_2
    try clear hfz22_0
    try clear hfz22_1
    try clear hfz22_2
    try clear hfz31_0
    try clear hfz31_1
    try clear hfz31_2
    try clear hfz39_0
    try clear hfz39_1
    try clear hfz39_2
    try clear hfz41_0
    try clear hfz41_1
    try clear hfz41_2
    try clear hfz44_0
    try clear hfz44_1
    try clear hfz44_2
    try clear hfz46_0
    try clear hfz46_1
    try clear hfz46_2
    try clear hfz49_0
    try clear hfz49_1
    try clear hfz49_2
    try clear hfz51_0
    try clear hfz51_1
    try clear hfz51_2
    try clear hfz54_0
    try clear hfz54_1
    try clear hfz54_2
    try clear hx150_0
    try clear hx151_0
    try clear p150
    try clear p151
    try clear q150
    try clear q151
    obtain ⟨kq, x48_3, rfl, HA, HJ3, HO_133000, HO_140000, HO_150000, BK132, BK139, BK149, HB⟩ := hcut
    cases kq with
    | zero => exact absurd HA.out (by simp [duetlaw21_liveK.j0])
    | succ kj3 =>
      have H := HA.out
      clear HA
      simp only [duetlaw21_liveK.j0] at H
      by_cases c55 : x48_3 = true
      · subst c55
        have H1 : (some false) = some r := by rw [if_pos rfl] at H; exact H
        clear H
        have H := H1
        clear H1
        exact absurd (Option.some.inj H) (by rw [hr_.out]; decide)
      · replace c55 := Bool.eq_false_iff.mpr c55
        subst c55
        have H1 : (if t131 = 0 then (if t138 = 1 then (if t148 = 0 then (if t129 = 1 then (if t130 = 1 then (if 0 < (t126.length : Int) then (if 1 < ((rd_L6 t126 0).length : Int) then (if (((rd_T47 (rd_L6 t126 0) 1).f0) == 97 && (((rd_T47 (rd_L6 t126 0) 1).f1))) = true then ((layout_Text.f t126 t129 t130).bind fun t154 => ((duetref03_Texts.f kj3 t154 (([(⟨#[62, 97, 98]⟩ : ByteArray), (⟨#[99]⟩ : ByteArray)] : List ByteArray))).bind fun t160 => (if t160 = true then (if t146 = 1 then (if t147 = 0 then (if 0 < (t143.length : Int) then (if 2 < ((rd_L6 t143 0).length : Int) then (if ((rd_T47 (rd_L6 t143 0) 2).f0) = (-1) then ((layout_Check.f t143 t146 t147 3).bind fun t163 => (if t163 = 0 then ((layout_Check.f t143 t146 t147 4).bind fun t164 => (some (t164 == 1))) else (some false))) else (some false)) else (none)) else (none)) else (some false)) else (some false)) else (some false)))) else (some false)) else (none)) else (none)) else (some false)) else (some false)) else (some false)) else (some false)) else (some false)) = some r := by rw [if_neg (show ¬ (false = true) by decide)] at H; exact H
        clear H
        have H := H1
        clear H1
        by_cases c56 : t131 = 0
        · rw [if_pos c56] at H
          have c56b0 : (t131 == 0) = true := beq_iff_eq.mpr c56
          have c56b1 : (t131 != 0) = false := bne_eq_false_iff_eq.mpr c56
          clear c56
          by_cases c57 : t138 = 1
          · rw [if_pos c57] at H
            have c57b0 : (t138 == 1) = true := beq_iff_eq.mpr c57
            have c57b1 : (t138 != 1) = false := bne_eq_false_iff_eq.mpr c57
            clear c57
            by_cases c58 : t148 = 0
            · rw [if_pos c58] at H
              have c58b0 : (t148 == 0) = true := beq_iff_eq.mpr c58
              have c58b1 : (t148 != 0) = false := bne_eq_false_iff_eq.mpr c58
              clear c58
              by_cases c59 : t129 = 1
              · rw [if_pos c59] at H
                have c59b0 : (t129 == 1) = true := beq_iff_eq.mpr c59
                have c59b1 : (t129 != 1) = false := bne_eq_false_iff_eq.mpr c59
                clear c59
                by_cases c60 : t130 = 1
                · rw [if_pos c60] at H
                  have c60b0 : (t130 == 1) = true := beq_iff_eq.mpr c60
                  have c60b1 : (t130 != 1) = false := bne_eq_false_iff_eq.mpr c60
                  clear c60
                  by_cases c61 : 0 < (t126.length : Int)
                  · rw [if_pos c61] at H
                    have c61b0 : decide (0 < (t126.length : Int)) = true := decide_eq_true c61
                    have c61b1 : decide (0 < t126.length) = true := decide_eq_true (by omega)
                    clear c61
                    by_cases c62 : 1 < ((rd_L6 t126 0).length : Int)
                    · rw [if_pos c62] at H
                      have c62b0 : decide (1 < ((rd_L6 t126 0).length : Int)) = true := decide_eq_true c62
                      have c62b1 : decide (1 < (rd_L6 t126 0).length) = true := decide_eq_true (by omega)
                      clear c62
                      by_cases c63 : (((rd_T47 (rd_L6 t126 0) 1).f0) == 97 && (((rd_T47 (rd_L6 t126 0) 1).f1))) = true
                      · rw [if_pos c63] at H
                        have c63b0 : (((rd_T47 (rd_L6 t126 0) 1).f0) == 97 && (((rd_T47 (rd_L6 t126 0) 1).f1))) = true := c63
                        (try (have c63b1 : decide (((rd_T47 (rd_L6 t126 0) 1).f0) = 97 && (((rd_T47 (rd_L6 t126 0) 1).f1))) = true := by simpa using c63))
                        (try (have c63b2 : (((rd_T47 (rd_L6 t126 0) 1).f0) == 97 && (((rd_T47 (rd_L6 t126 0) 1).f1))) = true := by simpa using c63))
                        clear c63
                        replace H := Option.bind_eq_some_iff.mp H
                        obtain ⟨t154, A640, H⟩ := H
                        replace H : ((duetref03_Texts.f kj3 t154 (([(⟨#[62, 97, 98]⟩ : ByteArray), (⟨#[99]⟩ : ByteArray)] : List ByteArray))).bind fun t160 => (if t160 = true then (if t146 = 1 then (if t147 = 0 then (if 0 < (t143.length : Int) then (if 2 < ((rd_L6 t143 0).length : Int) then (if ((rd_T47 (rd_L6 t143 0) 2).f0) = (-1) then ((layout_Check.f t143 t146 t147 3).bind fun t163 => (if t163 = 0 then ((layout_Check.f t143 t146 t147 4).bind fun t164 => (some (t164 == 1))) else (some false))) else (some false)) else (none)) else (none)) else (some false)) else (some false)) else (some false))) = some r := H
                        have A64 := Aside0.mk A640
                        clear A640
                        obtain ⟨y157, hy157⟩ : ∃ y_ : List ByteArray, y_ = (([(⟨#[62, 97, 98]⟩ : ByteArray), (⟨#[99]⟩ : ByteArray)] : List ByteArray)) := ⟨_, rfl⟩
                        replace H : ((duetref03_Texts.f kj3 t154 y157).bind fun t160 => (if t160 = true then (if t146 = 1 then (if t147 = 0 then (if 0 < (t143.length : Int) then (if 2 < ((rd_L6 t143 0).length : Int) then (if ((rd_T47 (rd_L6 t143 0) 2).f0) = (-1) then ((layout_Check.f t143 t146 t147 3).bind fun t163 => (if t163 = 0 then ((layout_Check.f t143 t146 t147 4).bind fun t164 => (some (t164 == 1))) else (some false))) else (some false)) else (none)) else (none)) else (some false)) else (some false)) else (some false))) = some r := by first | (rw [hy157]; with_reducible exact H) | (have H2_ := (Option.bind_some _ _).symm.trans H; rw [hy157]; with_reducible exact H2_) | (have H2_ := (Option.bind_some _ _).symm.trans H; with_reducible exact H2_) | with_reducible exact H | (rw [hy157]; exact H) | exact H
                        have Ny157 := Aside0.mk hy157
                        clear hy157
                        replace H := Option.bind_eq_some_iff.mp H
                        obtain ⟨t160, A650, H⟩ := H
                        replace H : (if t160 = true then (if t146 = 1 then (if t147 = 0 then (if 0 < (t143.length : Int) then (if 2 < ((rd_L6 t143 0).length : Int) then (if ((rd_T47 (rd_L6 t143 0) 2).f0) = (-1) then ((layout_Check.f t143 t146 t147 3).bind fun t163 => (if t163 = 0 then ((layout_Check.f t143 t146 t147 4).bind fun t164 => (some (t164 == 1))) else (some false))) else (some false)) else (none)) else (none)) else (some false)) else (some false)) else (some false)) = some r := H
                        have A65 := Aside0.mk A650
                        clear A650
                        by_cases c66 : t160 = true
                        · subst c66
                          have H1 : (if t146 = 1 then (if t147 = 0 then (if 0 < (t143.length : Int) then (if 2 < ((rd_L6 t143 0).length : Int) then (if ((rd_T47 (rd_L6 t143 0) 2).f0) = (-1) then ((layout_Check.f t143 t146 t147 3).bind fun t163 => (if t163 = 0 then ((layout_Check.f t143 t146 t147 4).bind fun t164 => (some (t164 == 1))) else (some false))) else (some false)) else (none)) else (none)) else (some false)) else (some false)) = some r := by rw [if_pos rfl] at H; exact H
                          clear H
                          have H := H1
                          clear H1
                          by_cases c67 : t146 = 1
                          · rw [if_pos c67] at H
                            have c67b0 : (t146 == 1) = true := beq_iff_eq.mpr c67
                            have c67b1 : (t146 != 1) = false := bne_eq_false_iff_eq.mpr c67
                            clear c67
                            by_cases c68 : t147 = 0
                            · rw [if_pos c68] at H
                              have c68b0 : (t147 == 0) = true := beq_iff_eq.mpr c68
                              have c68b1 : (t147 != 0) = false := bne_eq_false_iff_eq.mpr c68
                              clear c68
                              by_cases c69 : 0 < (t143.length : Int)
                              · rw [if_pos c69] at H
                                have c69b0 : decide (0 < (t143.length : Int)) = true := decide_eq_true c69
                                have c69b1 : decide (0 < t143.length) = true := decide_eq_true (by omega)
                                clear c69
                                by_cases c70 : 2 < ((rd_L6 t143 0).length : Int)
                                · rw [if_pos c70] at H
                                  have c70b0 : decide (2 < ((rd_L6 t143 0).length : Int)) = true := decide_eq_true c70
                                  have c70b1 : decide (2 < (rd_L6 t143 0).length) = true := decide_eq_true (by omega)
                                  clear c70
                                  by_cases c71 : ((rd_T47 (rd_L6 t143 0) 2).f0) = (-1)
                                  · rw [if_pos c71] at H
                                    have c71b0 : (((rd_T47 (rd_L6 t143 0) 2).f0) == (-1)) = true := beq_iff_eq.mpr c71
                                    have c71b1 : (((rd_T47 (rd_L6 t143 0) 2).f0) != (-1)) = false := bne_eq_false_iff_eq.mpr c71
                                    clear c71
                                    replace H := Option.bind_eq_some_iff.mp H
                                    obtain ⟨t163, A720, H⟩ := H
                                    replace H : (if t163 = 0 then ((layout_Check.f t143 t146 t147 4).bind fun t164 => (some (t164 == 1))) else (some false)) = some r := H
                                    have A72 := Aside0.mk A720
                                    clear A720
                                    by_cases c73 : t163 = 0
                                    · rw [if_pos c73] at H
                                      have c73b0 : (t163 == 0) = true := beq_iff_eq.mpr c73
                                      have c73b1 : (t163 != 0) = false := bne_eq_false_iff_eq.mpr c73
                                      clear c73
                                      replace H := Option.bind_eq_some_iff.mp H
                                      obtain ⟨t164, A740, H⟩ := H
                                      replace H : (some (t164 == 1)) = some r := H
                                      have A74 := Aside0.mk A740
                                      clear A740
                                      obtain rfl := Option.some.inj H
                                      have hnb75 := NB132_139.out
                                      have hnc75 := NB139_132.out
                                      have hnb76 := NB132_149.out
                                      have hnc76 := NB149_132.out
                                      have hcz77_0 : wc.cell? ⟨gb132, 0, none⟩ = some (.slice Ao16 t126.length co16) := (blk_cell BK132.out 0).trans rfl
                                      have hcz77_1 : wc.cell? ⟨gb132, 1, none⟩ = some (.int .i64 t129) := (blk_cell BK132.out 1).trans rfl
                                      have hcz77_2 : wc.cell? ⟨gb132, 2, none⟩ = some (.int .i64 t130) := (blk_cell BK132.out 2).trans rfl
                                      have hfz77_0 := blk_frozen BK132.out 0
                                      have hfz77_1 := blk_frozen BK132.out 1
                                      have hfz77_2 := blk_frozen BK132.out 2
                                      have p152 : 0 ≤ (0 : Int) := (by omega)
                                      have q152 : 0 < (t126.length : Int) := of_decide_eq_true (by first | (with_reducible assumption) | assumption)
                                      obtain ⟨ad152, A152_0, c152_0, e152, hx152_0, hl152_0, hi152_0⟩ := at_L6 (Kd.S_reads' HO_133000.out).2.2 0 p152 q152
                                      cases e152
                                      obtain ⟨ce152, hce152, hMe152, hcc152⟩ := Kd.S_get HO_133000.out [] 0 p152 (by first | exact q152 | exact of_decide_eq_true (by first | (with_reducible assumption) | assumption) | (have e_ := (Kd.S_reads' HO_133000.out).1; omega))
                                      obtain ⟨ve152_0, rfl, ge152_0⟩ := hMe152
                                      have hv152_0 := hcc152 0 _ rfl
                                      rw [Nat.add_zero, show ((Kd.slice 47 k47)).sz = 1 from rfl, Nat.mul_one] at hv152_0
                                      replace hv152_0 := Option.some.inj (hv152_0.symm.trans hx152_0)
                                      rw [hv152_0] at ge152_0
                                      have HL152_0 := Aside0.mk (show Kd.R k47 47 _ _ _ _ (rd_L6 t126 0) from ge152_0)
                                      clear hv152_0 ge152_0
                                      clear hcc152 hce152
                                      have qi152 : (0 < t126.length) = True := eq_true (by omega)
                                      (try rw [show ((0 : Int)).toNat = 0 from rfl] at hx152_0)
                                      (try rw [Addr.add_zero'] at hx152_0)
                                      have HR152_0 := Aside0.mk hi152_0
                                      have HC152_0 := Aside0.mk hl152_0
                                      clear hi152_0 hl152_0
                                      replace p152 := eq_true p152
                                      replace q152 := eq_true q152
                                      have p153 : 0 ≤ (1 : Int) := (by omega)
                                      have q153 : 1 < ((rd_L6 t126 0).length : Int) := of_decide_eq_true (by first | (with_reducible assumption) | assumption)
                                      obtain ⟨ad153, e153, hx153_0, hx153_1⟩ := at_T47 (by repeat (first | (with_reducible exact HR152_0.out) | (with_reducible refine Kd.C_alloc ?_ _) | (with_reducible refine Kd.C_drewN ?_ _) | (with_reducible refine Kd.C_drew ?_) | exact HR152_0.out)) 1 p153 q153
                                      cases e153
                                      (try simp only [show (1 : Int).toNat = 1 from rfl, Nat.reduceMul, Nat.reduceEqDiff, Go.Addr.add, ↓reduceIte] at hx153_0)
                                      (try simp only [show (1 : Int).toNat = 1 from rfl, Nat.reduceMul, Nat.reduceEqDiff, Go.Addr.add, ↓reduceIte] at hx153_1)
                                      have qi153 : (1 < (rd_L6 t126 0).length) = True := eq_true (by omega)
                                      (try rw [show ((1 : Int)).toNat = 1 from rfl] at hx153_0)
                                      (try rw [show 1 * 2 = 2 from rfl] at hx153_0)
                                      (try rw [show ((1 : Int)).toNat = 1 from rfl] at hx153_1)
                                      (try rw [show 1 * 2 = 2 from rfl] at hx153_1)
                                      replace p153 := eq_true p153
                                      replace q153 := eq_true q153
                                      go_wp2_with (first | (go_at_call 14; (with_reducible refine (layout_Text.calls _ _ t126 t129 t130 t154 _ ?side1 ?side2 A64.out).mono ?_); (case side1 => repeat (first | exact (Kd.S_reads' HO_133000.out).2.2 | (with_reducible refine Kd.C_alloc ?_ _) | (with_reducible refine Kd.C_drewN ?_ _) | (with_reducible refine Kd.C_drew ?_))); (case side2 => exact (Kd.S_reads' HO_133000.out).2.1); rintro e w78 ⟨v155, rfl, ho0, hb⟩; have n0_ := Aside0.mk (Kd.S_below (by (with_reducible repeat (first | apply Kd.S_alloc | apply Kd.S_drewN | apply Kd.S_drew)); exact HO_133000.out) hb); have n1_ := Aside0.mk (Kd.S_below (by (with_reducible repeat (first | apply Kd.S_alloc | apply Kd.S_drewN | apply Kd.S_drew)); exact HO_140000.out) hb); have n2_ := Aside0.mk (Kd.S_below (by (with_reducible repeat (first | apply Kd.S_alloc | apply Kd.S_drewN | apply Kd.S_drew)); exact HO_150000.out) hb); have n3_ := Aside0.mk (Kd.R_below (by (with_reducible repeat (first | apply Kd.R_alloc | apply Kd.R_drewN | apply Kd.R_drew)); exact HL152_0.out) hb); have n4_ := Aside0.mk (Kd.R_lower ho0 (below_size (by repeat (first | (with_reducible first | exact HB.out | apply below_alloc | apply pw_below_drewN | apply below_drew1 | refine below_set ?_ GE132.out | refine below_set ?_ GE139.out | refine below_set ?_ GE149.out) | exact HB.out)))); have n5_ := Aside0.mk (blk_below (g := gb132) (o := .cells #[.slice (some ad152) t126.length co16, .int .i64 t129, .int .i64 t130] 28 (0, 0)) (by (with_reducible repeat (first | refine blk_drewN ?_ _ | refine blk_drew ?_ | refine blk_alloc ?_ _)); exact BK132.out) hb); have n6_ := Aside0.mk (blk_below (g := gb139) (o := .cells #[.slice Ao20 t133.length co20, .int .i64 t136, .int .i64 t137] 28 (0, 0)) (by (with_reducible repeat (first | refine blk_drewN ?_ _ | refine blk_drew ?_ | refine blk_alloc ?_ _)); exact BK139.out) hb); have n7_ := Aside0.mk (blk_below (g := gb149) (o := .cells #[.slice Ao28 t143.length co28, .int .i64 t146, .int .i64 t147] 28 (0, 0)) (by (with_reducible repeat (first | refine blk_drewN ?_ _ | refine blk_drew ?_ | refine blk_alloc ?_ _)); exact BK149.out) hb); have n8_ := Aside0.mk (Kd.C_below (by repeat (first | (with_reducible exact HR152_0.out) | (with_reducible refine Kd.C_alloc ?_ _) | (with_reducible refine Kd.C_drewN ?_ _) | (with_reducible refine Kd.C_drew ?_) | exact HR152_0.out)) hb); have n9_ := Aside0.mk (below_step (by repeat (first | (with_reducible first | exact HB.out | apply below_alloc | apply pw_below_drewN | apply below_drew1 | refine below_set ?_ GE132.out | refine below_set ?_ GE139.out | refine below_set ?_ GE149.out) | exact HB.out)) hb); clear HO_133000; clear HO_140000; clear HO_150000; clear HL152_0; clear BK132; clear BK139; clear BK149; clear HR152_0; clear HB; have HO_133000 := n0_; have HO_140000 := n1_; have HO_150000 := n2_; have HL152_0 := n3_; have HO156 := n4_; have BK132 := n5_; have BK139 := n6_; have BK149 := n7_; have HR152_0 := n8_; have HB := n9_; clear n0_ n1_ n2_ n3_ n4_ n5_ n6_ n7_ n8_ n9_; (try clear hb); (try clear hb2); (try clear hk); (try clear hi); (try clear ho0)) | (go_at_call 13; have hb := below_alloc (Below.refl w78.heap.size w78) (Obj.cells #[.string (⟨#[62, 97, 98]⟩ : ByteArray), .string (⟨#[99]⟩ : ByteArray)] 9); have ho80 := lit2_R w78 (⟨#[62, 97, 98]⟩ : ByteArray) (⟨#[99]⟩ : ByteArray); generalize hv158 : Value.slice (some ⟨w78.heap.size, 0, none⟩) 2 2 = v158 at ho80 ⊢; generalize w78.alloc (Obj.cells #[.string (⟨#[62, 97, 98]⟩ : ByteArray), .string (⟨#[99]⟩ : ByteArray)] 9) = w79 at hb ho80 ⊢; clear hv158; rw [← Ny157.out] at ho80; have n0_ := Aside0.mk (Kd.S_below (by (with_reducible repeat (first | apply Kd.S_alloc | apply Kd.S_drewN | apply Kd.S_drew)); exact HO_133000.out) hb); have n1_ := Aside0.mk (Kd.S_below (by (with_reducible repeat (first | apply Kd.S_alloc | apply Kd.S_drewN | apply Kd.S_drew)); exact HO_140000.out) hb); have n2_ := Aside0.mk (Kd.S_below (by (with_reducible repeat (first | apply Kd.S_alloc | apply Kd.S_drewN | apply Kd.S_drew)); exact HO_150000.out) hb); have n3_ := Aside0.mk (Kd.R_below (by (with_reducible repeat (first | apply Kd.R_alloc | apply Kd.R_drewN | apply Kd.R_drew)); exact HL152_0.out) hb); have n4_ := Aside0.mk (Kd.R_elder' (by (with_reducible repeat (first | apply Kd.R_alloc | apply Kd.R_drewN | apply Kd.R_drew)); exact HO156.out) (Kd.R_base ho80) hb); have n5_ := Aside0.mk (Kd.R_lower (Kd.R_new' ho80 (Kd.R_lt (by (with_reducible repeat (first | apply Kd.R_alloc | apply Kd.R_drewN | apply Kd.R_drew)); exact HO156.out))) (below_size (by repeat (first | (with_reducible first | exact HB.out | apply below_alloc | apply pw_below_drewN | apply below_drew1 | refine below_set ?_ GE132.out | refine below_set ?_ GE139.out | refine below_set ?_ GE149.out) | exact HB.out)))); have n6_ := Aside0.mk (blk_below (g := gb132) (o := .cells #[.slice (some ad152) t126.length co16, .int .i64 t129, .int .i64 t130] 28 (0, 0)) (by (with_reducible repeat (first | refine blk_drewN ?_ _ | refine blk_drew ?_ | refine blk_alloc ?_ _)); exact BK132.out) hb); have n7_ := Aside0.mk (blk_below (g := gb139) (o := .cells #[.slice Ao20 t133.length co20, .int .i64 t136, .int .i64 t137] 28 (0, 0)) (by (with_reducible repeat (first | refine blk_drewN ?_ _ | refine blk_drew ?_ | refine blk_alloc ?_ _)); exact BK139.out) hb); have n8_ := Aside0.mk (blk_below (g := gb149) (o := .cells #[.slice Ao28 t143.length co28, .int .i64 t146, .int .i64 t147] 28 (0, 0)) (by (with_reducible repeat (first | refine blk_drewN ?_ _ | refine blk_drew ?_ | refine blk_alloc ?_ _)); exact BK149.out) hb); have n9_ := Aside0.mk (Kd.C_below (by repeat (first | (with_reducible exact HR152_0.out) | (with_reducible refine Kd.C_alloc ?_ _) | (with_reducible refine Kd.C_drewN ?_ _) | (with_reducible refine Kd.C_drew ?_) | exact HR152_0.out)) hb); have n10_ := Aside0.mk (below_step (by repeat (first | (with_reducible first | exact HB.out | apply below_alloc | apply pw_below_drewN | apply below_drew1 | refine below_set ?_ GE132.out | refine below_set ?_ GE139.out | refine below_set ?_ GE149.out) | exact HB.out)) hb); clear HO_133000; clear HO_140000; clear HO_150000; clear HL152_0; clear HO156; clear BK132; clear BK139; clear BK149; clear HR152_0; clear HB; have HO_133000 := n0_; have HO_140000 := n1_; have HO_150000 := n2_; have HL152_0 := n3_; have HO156 := n4_; have HO159 := n5_; have BK132 := n6_; have BK139 := n7_; have BK149 := n8_; have HR152_0 := n9_; have HB := n10_; clear n0_ n1_ n2_ n3_ n4_ n5_ n6_ n7_ n8_ n9_ n10_; clear hb ho80; obtain ⟨Ao81, co81, eo81⟩ := Kd.R_slice HO156.out; subst eo81; obtain ⟨Ao82, co82, eo82⟩ := Kd.R_slice HO159.out; subst eo82; (with_reducible refine (duetref03_Texts.calls kj3 _ _ t154 _ _ y157 true _ ?side1 ?side2 ?side3 ?side4 A65.out).mono ?_); (case side1 => repeat (first | exact (Kd.R_reads' HO156.out).2.2 | (with_reducible refine Kd.C_alloc ?_ _) | (with_reducible refine Kd.C_drewN ?_ _) | (with_reducible refine Kd.C_drew ?_))); (case side2 => exact (Kd.R_reads' HO156.out).2.1); (case side3 => repeat (first | exact (Kd.R_reads' HO159.out).2.2 | (with_reducible refine Kd.C_alloc ?_ _) | (with_reducible refine Kd.C_drewN ?_ _) | (with_reducible refine Kd.C_drew ?_))); (case side4 => exact (Kd.R_reads' HO159.out).2.1); rintro e w' ⟨rfl, ⟨nd, rfl⟩⟩; have hnb83 := NB149_139.out; have hnc83 := NB139_149.out; have hcz84_0 : w79.cell? ⟨gb149, 0, none⟩ = some (.slice Ao28 t143.length co28) := (blk_cell BK149.out 0).trans rfl; have hcz84_1 : w79.cell? ⟨gb149, 1, none⟩ = some (.int .i64 t146) := (blk_cell BK149.out 1).trans rfl; have hcz84_2 : w79.cell? ⟨gb149, 2, none⟩ = some (.int .i64 t147) := (blk_cell BK149.out 2).trans rfl; have hfz84_0 := blk_frozen BK149.out 0; have hfz84_1 := blk_frozen BK149.out 1; have hfz84_2 := blk_frozen BK149.out 2; have p161 : 0 ≤ (0 : Int) := (by omega); have q161 : 0 < (t143.length : Int) := of_decide_eq_true (by first | (with_reducible assumption) | assumption); obtain ⟨ad161, A161_0, c161_0, e161, hx161_0, hl161_0, hi161_0⟩ := at_L6 (Kd.S_reads' HO_150000.out).2.2 0 p161 q161; cases e161; obtain ⟨ce161, hce161, hMe161, hcc161⟩ := Kd.S_get HO_150000.out [] 0 p161 (by first | exact q161 | exact of_decide_eq_true (by first | (with_reducible assumption) | assumption) | (have e_ := (Kd.S_reads' HO_150000.out).1; omega)); obtain ⟨ve161_0, rfl, ge161_0⟩ := hMe161; have hv161_0 := hcc161 0 _ rfl; rw [Nat.add_zero, show ((Kd.slice 47 k47)).sz = 1 from rfl, Nat.mul_one] at hv161_0; replace hv161_0 := Option.some.inj (hv161_0.symm.trans hx161_0); rw [hv161_0] at ge161_0; have HL161_0 := Aside0.mk (show Kd.R k47 47 _ _ _ _ (rd_L6 t143 0) from ge161_0); clear hv161_0 ge161_0; clear hcc161 hce161; have qi161 : (0 < t143.length) = True := eq_true (by omega); (try rw [show ((0 : Int)).toNat = 0 from rfl] at hx161_0); (try rw [Addr.add_zero'] at hx161_0); have HR161_0 := Aside0.mk hi161_0; have HC161_0 := Aside0.mk hl161_0; clear hi161_0 hl161_0; replace p161 := eq_true p161; replace q161 := eq_true q161; have p162 : 0 ≤ (2 : Int) := (by omega); have q162 : 2 < ((rd_L6 t143 0).length : Int) := of_decide_eq_true (by first | (with_reducible assumption) | assumption); obtain ⟨ad162, e162, hx162_0, hx162_1⟩ := at_T47 (by repeat (first | (with_reducible exact HR161_0.out) | (with_reducible refine Kd.C_alloc ?_ _) | (with_reducible refine Kd.C_drewN ?_ _) | (with_reducible refine Kd.C_drew ?_) | exact HR161_0.out)) 2 p162 q162; cases e162; (try simp only [show (2 : Int).toNat = 2 from rfl, Nat.reduceMul, Nat.reduceEqDiff, Go.Addr.add, ↓reduceIte] at hx162_0); (try simp only [show (2 : Int).toNat = 2 from rfl, Nat.reduceMul, Nat.reduceEqDiff, Go.Addr.add, ↓reduceIte] at hx162_1); have qi162 : (2 < (rd_L6 t143 0).length) = True := eq_true (by omega); (try rw [show ((2 : Int)).toNat = 2 from rfl] at hx162_0); (try rw [show 2 * 2 = 4 from rfl] at hx162_0); (try rw [show ((2 : Int)).toNat = 2 from rfl] at hx162_1); (try rw [show 2 * 2 = 4 from rfl] at hx162_1); replace p162 := eq_true p162; replace q162 := eq_true q162) | (go_at_call 17; (with_reducible refine (layout_Check.calls _ _ t143 t146 t147 3 t163 _ ?side3 ?side1 ?side2 A72.out).mono ?_); (case side1 => repeat (first | exact (Kd.S_reads' HO_150000.out).2.2 | (with_reducible refine Kd.C_alloc ?_ _) | (with_reducible refine Kd.C_drewN ?_ _) | (with_reducible refine Kd.C_drew ?_))); (case side2 => exact (Kd.S_reads' HO_150000.out).2.1); (case side3 => exact hL.below (by repeat (first | (with_reducible first | exact HB.out | apply below_alloc | apply pw_below_drewN | apply below_drew1 | refine below_set ?_ GE132.out | refine below_set ?_ GE139.out | refine below_set ?_ GE149.out) | exact HB.out))); rintro e w85 ⟨rfl, hb⟩; have n0_ := Aside0.mk (Kd.S_below (by (with_reducible repeat (first | apply Kd.S_alloc | apply Kd.S_drewN | apply Kd.S_drew)); exact HO_133000.out) hb); have n1_ := Aside0.mk (Kd.S_below (by (with_reducible repeat (first | apply Kd.S_alloc | apply Kd.S_drewN | apply Kd.S_drew)); exact HO_140000.out) hb); have n2_ := Aside0.mk (Kd.S_below (by (with_reducible repeat (first | apply Kd.S_alloc | apply Kd.S_drewN | apply Kd.S_drew)); exact HO_150000.out) hb); have n3_ := Aside0.mk (Kd.R_below (by (with_reducible repeat (first | apply Kd.R_alloc | apply Kd.R_drewN | apply Kd.R_drew)); exact HL152_0.out) hb); have n4_ := Aside0.mk (Kd.R_below (by (with_reducible repeat (first | apply Kd.R_alloc | apply Kd.R_drewN | apply Kd.R_drew)); exact HO156.out) hb); have n5_ := Aside0.mk (Kd.R_below (by (with_reducible repeat (first | apply Kd.R_alloc | apply Kd.R_drewN | apply Kd.R_drew)); exact HO159.out) hb); have n6_ := Aside0.mk (Kd.R_below (by (with_reducible repeat (first | apply Kd.R_alloc | apply Kd.R_drewN | apply Kd.R_drew)); exact HL161_0.out) hb); have n7_ := Aside0.mk (blk_below (g := gb132) (o := .cells #[.slice (some ad152) t126.length co16, .int .i64 t129, .int .i64 t130] 28 (0, 0)) (by (with_reducible repeat (first | refine blk_drewN ?_ _ | refine blk_drew ?_ | refine blk_alloc ?_ _)); exact BK132.out) hb); have n8_ := Aside0.mk (blk_below (g := gb139) (o := .cells #[.slice Ao20 t133.length co20, .int .i64 t136, .int .i64 t137] 28 (0, 0)) (by (with_reducible repeat (first | refine blk_drewN ?_ _ | refine blk_drew ?_ | refine blk_alloc ?_ _)); exact BK139.out) hb); have n9_ := Aside0.mk (blk_below (g := gb149) (o := .cells #[.slice (some ad161) t143.length co28, .int .i64 t146, .int .i64 t147] 28 (0, 0)) (by (with_reducible repeat (first | refine blk_drewN ?_ _ | refine blk_drew ?_ | refine blk_alloc ?_ _)); exact BK149.out) hb); have n10_ := Aside0.mk True.intro; have n11_ := Aside0.mk True.intro; have n12_ := Aside0.mk (below_step (by repeat (first | (with_reducible first | exact HB.out | apply below_alloc | apply pw_below_drewN | apply below_drew1 | refine below_set ?_ GE132.out | refine below_set ?_ GE139.out | refine below_set ?_ GE149.out) | exact HB.out)) hb); clear HO_133000; clear HO_140000; clear HO_150000; clear HL152_0; clear HO156; clear HO159; clear HL161_0; clear BK132; clear BK139; clear BK149; clear HR152_0; clear HR161_0; clear HB; have HO_133000 := n0_; have HO_140000 := n1_; have HO_150000 := n2_; have HL152_0 := n3_; have HO156 := n4_; have HO159 := n5_; have HL161_0 := n6_; have BK132 := n7_; have BK139 := n8_; have BK149 := n9_; have HR152_0 := n10_; have HR161_0 := n11_; have HB := n12_; clear n0_ n1_ n2_ n3_ n4_ n5_ n6_ n7_ n8_ n9_ n10_ n11_ n12_; (try clear hb); (try clear hb2); (try clear hk); (try clear hi); have hcz86_0 : w85.cell? ⟨gb149, 0, none⟩ = some (.slice (some ad161) t143.length co28) := (blk_cell BK149.out 0).trans rfl; have hcz86_1 : w85.cell? ⟨gb149, 1, none⟩ = some (.int .i64 t146) := (blk_cell BK149.out 1).trans rfl; have hcz86_2 : w85.cell? ⟨gb149, 2, none⟩ = some (.int .i64 t147) := (blk_cell BK149.out 2).trans rfl; have hfz86_0 := blk_frozen BK149.out 0; have hfz86_1 := blk_frozen BK149.out 1; have hfz86_2 := blk_frozen BK149.out 2) | (go_at_call 17; (with_reducible refine (layout_Check.calls _ _ t143 t146 t147 4 t164 _ ?side3 ?side1 ?side2 A74.out).mono ?_); (case side1 => repeat (first | exact (Kd.S_reads' HO_150000.out).2.2 | (with_reducible refine Kd.C_alloc ?_ _) | (with_reducible refine Kd.C_drewN ?_ _) | (with_reducible refine Kd.C_drew ?_))); (case side2 => exact (Kd.S_reads' HO_150000.out).2.1); (case side3 => exact hL.below (by repeat (first | (with_reducible first | exact HB.out | apply below_alloc | apply pw_below_drewN | apply below_drew1 | refine below_set ?_ GE132.out | refine below_set ?_ GE139.out | refine below_set ?_ GE149.out) | exact HB.out))); rintro e w87 ⟨rfl, hb⟩; have n0_ := Aside0.mk (Kd.S_below (by (with_reducible repeat (first | apply Kd.S_alloc | apply Kd.S_drewN | apply Kd.S_drew)); exact HO_133000.out) hb); have n1_ := Aside0.mk (Kd.S_below (by (with_reducible repeat (first | apply Kd.S_alloc | apply Kd.S_drewN | apply Kd.S_drew)); exact HO_140000.out) hb); have n2_ := Aside0.mk (Kd.S_below (by (with_reducible repeat (first | apply Kd.S_alloc | apply Kd.S_drewN | apply Kd.S_drew)); exact HO_150000.out) hb); have n3_ := Aside0.mk (Kd.R_below (by (with_reducible repeat (first | apply Kd.R_alloc | apply Kd.R_drewN | apply Kd.R_drew)); exact HL152_0.out) hb); have n4_ := Aside0.mk (Kd.R_below (by (with_reducible repeat (first | apply Kd.R_alloc | apply Kd.R_drewN | apply Kd.R_drew)); exact HO156.out) hb); have n5_ := Aside0.mk (Kd.R_below (by (with_reducible repeat (first | apply Kd.R_alloc | apply Kd.R_drewN | apply Kd.R_drew)); exact HO159.out) hb); have n6_ := Aside0.mk (Kd.R_below (by (with_reducible repeat (first | apply Kd.R_alloc | apply Kd.R_drewN | apply Kd.R_drew)); exact HL161_0.out) hb); have n7_ := Aside0.mk (blk_below (g := gb132) (o := .cells #[.slice (some ad152) t126.length co16, .int .i64 t129, .int .i64 t130] 28 (0, 0)) (by (with_reducible repeat (first | refine blk_drewN ?_ _ | refine blk_drew ?_ | refine blk_alloc ?_ _)); exact BK132.out) hb); have n8_ := Aside0.mk (blk_below (g := gb139) (o := .cells #[.slice Ao20 t133.length co20, .int .i64 t136, .int .i64 t137] 28 (0, 0)) (by (with_reducible repeat (first | refine blk_drewN ?_ _ | refine blk_drew ?_ | refine blk_alloc ?_ _)); exact BK139.out) hb); have n9_ := Aside0.mk (blk_below (g := gb149) (o := .cells #[.slice (some ad161) t143.length co28, .int .i64 t146, .int .i64 t147] 28 (0, 0)) (by (with_reducible repeat (first | refine blk_drewN ?_ _ | refine blk_drew ?_ | refine blk_alloc ?_ _)); exact BK149.out) hb); have n10_ := Aside0.mk True.intro; have n11_ := Aside0.mk True.intro; have n12_ := Aside0.mk (below_step (by repeat (first | (with_reducible first | exact HB.out | apply below_alloc | apply pw_below_drewN | apply below_drew1 | refine below_set ?_ GE132.out | refine below_set ?_ GE139.out | refine below_set ?_ GE149.out) | exact HB.out)) hb); clear HO_133000; clear HO_140000; clear HO_150000; clear HL152_0; clear HO156; clear HO159; clear HL161_0; clear BK132; clear BK139; clear BK149; clear HR152_0; clear HR161_0; clear HB; have HO_133000 := n0_; have HO_140000 := n1_; have HO_150000 := n2_; have HL152_0 := n3_; have HO156 := n4_; have HO159 := n5_; have HL161_0 := n6_; have BK132 := n7_; have BK139 := n8_; have BK149 := n9_; have HR152_0 := n10_; have HR161_0 := n11_; have HB := n12_; clear n0_ n1_ n2_ n3_ n4_ n5_ n6_ n7_ n8_ n9_ n10_ n11_ n12_; (try clear hb); (try clear hb2); (try clear hk); (try clear hi)))
                                      go_ret
                                      exact ⟨by first | rfl | (simp [errW_none, errW_some] <;> rfl) | (simp [*, errW_none, errW_some] <;> rfl), by repeat (first | (with_reducible first | exact HB.out | apply below_alloc | apply pw_below_drewN | apply below_drew1 | refine below_set ?_ GE132.out | refine below_set ?_ GE139.out | refine below_set ?_ GE149.out) | exact HB.out)⟩
                                    · rw [if_neg c73] at H
                                      have c73b0 : (t163 == 0) = false := beq_eq_false_iff_ne.mpr c73
                                      have c73b1 : (t163 != 0) = true := bne_iff_ne.mpr c73
                                      exact absurd (Option.some.inj H) (by rw [hr_.out]; decide)
                                  · rw [if_neg c71] at H
                                    have c71b0 : (((rd_T47 (rd_L6 t143 0) 2).f0) == (-1)) = false := beq_eq_false_iff_ne.mpr c71
                                    have c71b1 : (((rd_T47 (rd_L6 t143 0) 2).f0) != (-1)) = true := bne_iff_ne.mpr c71
                                    exact absurd (Option.some.inj H) (by rw [hr_.out]; decide)
                                · rw [if_neg c70] at H
                                  exact absurd H (by simp)
                              · rw [if_neg c69] at H
                                exact absurd H (by simp)
                            · rw [if_neg c68] at H
                              have c68b0 : (t147 == 0) = false := beq_eq_false_iff_ne.mpr c68
                              have c68b1 : (t147 != 0) = true := bne_iff_ne.mpr c68
                              exact absurd (Option.some.inj H) (by rw [hr_.out]; decide)
                          · rw [if_neg c67] at H
                            have c67b0 : (t146 == 1) = false := beq_eq_false_iff_ne.mpr c67
                            have c67b1 : (t146 != 1) = true := bne_iff_ne.mpr c67
                            exact absurd (Option.some.inj H) (by rw [hr_.out]; decide)
                        · replace c66 := Bool.eq_false_iff.mpr c66
                          subst c66
                          have H1 : (some false) = some r := by rw [if_neg (show ¬ (false = true) by decide)] at H; exact H
                          clear H
                          have H := H1
                          clear H1
                          exact absurd (Option.some.inj H) (by rw [hr_.out]; decide)
                      · rw [if_neg c63] at H
                        have c63b0 : (((rd_T47 (rd_L6 t126 0) 1).f0) == 97 && (((rd_T47 (rd_L6 t126 0) 1).f1))) = false := by simpa using c63
                        (try (have c63b1 : decide (((rd_T47 (rd_L6 t126 0) 1).f0) = 97 && (((rd_T47 (rd_L6 t126 0) 1).f1))) = false := by simpa using c63))
                        (try (have c63b2 : (((rd_T47 (rd_L6 t126 0) 1).f0) == 97 && (((rd_T47 (rd_L6 t126 0) 1).f1))) = false := by simpa using c63))
                        (try (have c63b3 : ¬ (((rd_T47 (rd_L6 t126 0) 1).f0) = 97 && (((rd_T47 (rd_L6 t126 0) 1).f1))) := by simpa using c63))
                        clear c63
                        exact absurd (Option.some.inj H) (by rw [hr_.out]; decide)
                    · rw [if_neg c62] at H
                      exact absurd H (by simp)
                  · rw [if_neg c61] at H
                    exact absurd H (by simp)
                · rw [if_neg c60] at H
                  have c60b0 : (t130 == 1) = false := beq_eq_false_iff_ne.mpr c60
                  have c60b1 : (t130 != 1) = true := bne_iff_ne.mpr c60
                  exact absurd (Option.some.inj H) (by rw [hr_.out]; decide)
              · rw [if_neg c59] at H
                have c59b0 : (t129 == 1) = false := beq_eq_false_iff_ne.mpr c59
                have c59b1 : (t129 != 1) = true := bne_iff_ne.mpr c59
                exact absurd (Option.some.inj H) (by rw [hr_.out]; decide)
            · rw [if_neg c58] at H
              have c58b0 : (t148 == 0) = false := beq_eq_false_iff_ne.mpr c58
              have c58b1 : (t148 != 0) = true := bne_iff_ne.mpr c58
              exact absurd (Option.some.inj H) (by rw [hr_.out]; decide)
          · rw [if_neg c57] at H
            have c57b0 : (t138 == 1) = false := beq_eq_false_iff_ne.mpr c57
            have c57b1 : (t138 != 1) = true := bne_iff_ne.mpr c57
            exact absurd (Option.some.inj H) (by rw [hr_.out]; decide)
        · rw [if_neg c56] at H
          have c56b0 : (t131 == 0) = false := beq_eq_false_iff_ne.mpr c56
          have c56b1 : (t131 != 0) = true := bne_iff_ne.mpr c56
          exact absurd (Option.some.inj H) (by rw [hr_.out]; decide)

end Go.Proofs.YtoidlaonolkgkaaDoor.P

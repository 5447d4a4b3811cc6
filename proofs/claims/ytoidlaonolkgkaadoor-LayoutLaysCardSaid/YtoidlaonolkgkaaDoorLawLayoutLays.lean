/- Any prompt and line on any screen, with any carets, or why not, is as the document says: for every case. -/
import Derived.Test.YtoidlaonolkgkaaDoorRows
import Derived.Test.YtoidlaonolkgkaaDoorCards
import Derived.Test.YtoidlaonolkgkaaDoorTie
import Derived.Test.YtoidlaonolkgkaaDoorOfl
import Derived.LaidMore
import Derived.Stop.Joined
import Derived.SevenTiedAt
import Derived.Test.YtoidlaonolkgkaaDoorPureLays
import Derived.Test.YtoidlaonolkgkaaDoorOpm
import Derived.WalkKit
import Derived.ProofKit
import Derived.OpenShut
import Derived.ShutString
import Derived.ChangeOld
import Derived.Below
import Derived.SizedLaws
namespace Go.Proofs.YtoidlaonolkgkaaDoor.layoutLays
open Go.ChangeShapes Go.WideShapes Go.ChangeAt Go.RowKit
open Go.ChangeMaps (open_string shut_string)
open Go.Proofs.YtoidlaonolkgkaaDoorW.PrintWords
open Go.Proofs.YtoidlaonolkgkaaDoor.Opw
open Go.Proofs.YtoidlaonolkgkaaDoor
set_option linter.unusedVariables false
theorem own : ownKnob Tryd.prog.godebug = none := by kernel_rfl
theorem laidOut : laidOutB Tryd.prog = true := by kernel_rfl
theorem walk (a0 : Int) (A1 : Option Addr) (c1 : Nat) (l1 : List Int) (A2 : Option Addr) (c2 : Nat) (l2 : List Int) (a3 : Int) (A4 : Option Addr) (c4 : Nat) (l4 : List Int) (W : World) (hL : Giv.Laid W) (hr1 : Kd.C (Kd.int .i64) W A1 l1.length l1) (hc1 : l1.length ≤ c1) (hr2 : Kd.C (Kd.int .i64) W A2 l2.length l2) (hc2 : l2.length ≤ c2) (hr4 : Kd.C (Kd.int .i64) W A4 l4.length l4) (hc4 : l4.length ≤ c4) :
    Calls Tryd.prog 3 #[.agg #[.int .i64 a0, .slice A1 l1.length c1, .slice A2 l2.length c2, .int .i64 a3, .slice A4 l4.length c4]] W fun e w' => e = .returned (.bool true) ∧ Below W.heap.size W w' :=
  PureLays.law a0 A1 c1 l1 A2 c2 l2 a3 A4 c4 l4 W hL hr1 hc1 hr2 hc2 hr4 hc4
open Go.Proofs.YtoidlaonolkgkaaDoor.Ofl
set_option maxRecDepth 100000 in
theorem lifted (os : Os) (started : os.Started) (H : Type) (enc : TypeId × Value → H) :
    ReturnsInHanded {} Tryd.checked os 3 .any (fun w args => (Rows.layoutLaysSpec.pre enc Tryd.prog Tryd.f3 [] false w args ∧ laidMetH Tryd.prog laid2 w) ∧ sizedMet enc Tryd.prog Tryd.f3 (OpenSpec.ofChange Rows.layoutLaysSpec) false w args) (Rows.layoutLaysSpec.post enc Tryd.prog Tryd.f3 false true false false) := by
  refine returnsInHanded_of_change_and (C := Tryd.checked) (X := fun w _ => laidMetH Tryd.prog laid2 w) (fun _ _ _ hh h => h.of_heap hh) own started (by kernel_rfl) Tryd.func3
    (ChangeSpec.witness_shaped (enc := enc) (C := Tryd.checked) (os := os) (X := fun w _ => laidMetH Tryd.prog laid2 w) false (World.laidAll Tryd.prog os laid2) #[.agg #[.int .i64 0, .slice none 0 0, .slice none 0 0, .int .i64 0, .slice none 0 0]] 8 (World.laidAll_os _ _ _) (door_shaped os) (by kernel_rfl) (by kernel_rfl) (by kernel_rfl) (door_met os _)) ?_
  intro W base args ds gs before hval0 hW hcnd hsz0 hLM _
  have hLD := of_laid hLM
  clear hLM
  have hsz : (DataW.weightsEach Tryd.prog (Tryd.f3.params.toList ++ Rows.layoutLaysSpec.plain.varTypes Tryd.prog) (ds ++ gs)).all (· ≤ reachBytes) = true := hsz0
  have hval : ∀ (j : Nat) t v, Tryd.f3.params[j]? = some t → args[j]? = some v → Value.okWide Tryd.prog W .any base t v := hval0
  have hW' := hW
  obtain ⟨p, q, hA0, hV, rfl, hfz, hnd⟩ := hW
  have hA : DataW.TrodAll enc Tryd.prog W 0 (fun _ => true) true Tryd.f3.params.toList args.toList ds p := hA0
  rw [Tryd.params3] at hA hval hsz
  obtain ⟨v0, vs0, d0, ds0, p0, q0, hargs, rfl, rfl, h0, r0⟩ := trodAll_cons hA
  obtain ⟨rfl, rfl, rfl⟩ := trodAll_nil r0
  obtain rfl : args = #[v0] := by cases args; simp_all
  obtain ⟨rfl, rfl⟩ := trodVars_none hV
  have k0 := h0
  have lt0 : ∀ x ∈ p0, x.block < W.heap.size := by obtain ⟨m, hm⟩ := k0; exact DataW.trod_lt m _ _ _ hm
  obtain ⟨a0, A0, c0, l0, B0, e0, m0, b0, D0, f0, n0, rfl, C0, x0, E0, y0, F0, z0⟩ := open_case (hval 0 24 v0 rfl rfl) h0
  clear hA0 hval0 hsz0 hsz
  refine (walk a0 A0 c0 l0 B0 e0 m0 b0 D0 f0 n0 W hLD C0 x0 E0 y0 F0 z0).mono fun e W' ⟨he, bel⟩ => ?_
  subst he
  exact ⟨_, rfl, _, _, _, [], _, [], hW', trodAll_mk1 (shut_bool Tryd.underlying4 _), (trodAll_cons_mk (Below.trod laidOut (by kernel_rfl) (of_decide_eq_true (by kernel_rfl)) k0 bel lt0) trodAll_mk0), rfl, bel.frame _, fun h => by cases h⟩
theorem over : Rows.layoutLaysRow.holds Tryd.pinned (OpenSpec.ofChange Rows.layoutLaysSpec) :=
  OpenClaim.holds_of_wide 3 Tryd.f3 rfl rfl rfl rfl rfl rfl rfl ⟨rfl, rfl, rfl, rfl, rfl⟩ rfl rfl rfl rfl rfl (by kernel_rfl) Tryd.func3 (by kernel_rfl)
    (of_decide_eq_true (by kernel_rfl)) (by unfold Func.isWrapper; first | (rw [if_pos (by decide +kernel)]; kernel_rfl) | (rw [if_neg (by decide +kernel)]; exact ⟨rfl, rfl⟩))
    (fun os started H enc _ => lifted os started H enc)
theorem proved : Claim7.holds Tryd.pinned (.plain (OpenSpec.ofChange Rows.layoutLaysSpec)) Rows.layoutLaysCard :=
  Claim7.holds_tied_plain_at .later [] [.data, .widerDeep, .widerDeep, .pinned] true (true, "f7a6280d01d98a4ebc51028e7b953dd97622f07e819627c31db684b4ed08b328") false
    over (fun _ h => by cases h) (by kernel_rfl) (fun _ h => by cases h) layoutLays_row_tie rfl ⟨rfl, rfl⟩ (by kernel_rfl) rfl
    (fun f fn hf hfn => by
      obtain rfl : f = 3 := Option.some.inj ((show Tryd.prog.funcNamed "duet/duetlaw21.LayoutLays" = some 3 by kernel_rfl).symm.trans hf) |>.symm
      obtain rfl : fn = Tryd.f3 := (Option.some.inj (Tryd.func3.symm.trans hfn)).symm
      exact ⟨by kernel_rfl, fun j t ht => by
        rw [Tryd.params3] at ht
        have hm : t ∈ ([24] : List TypeId) := by simpa using Array.mem_of_getElem? ht
        have hall : (([24] : List TypeId).all fun u => !Tryd.prog.wantsStandIn u) = true := by kernel_rfl
        exact (show Tryd.prog.wantsStandIn t = false by simpa using List.all_eq_true.1 hall t hm)⟩)
    (by kernel_rfl)
#print axioms proved
end Go.Proofs.YtoidlaonolkgkaaDoor.layoutLays
namespace Go.Proofs.YtoidlaonolkgkaaDoor
/-- The row, under a short name, for the claim. -/
theorem layoutLays_holds : Rows.LayoutLaysCardSaid := layoutLays.proved
end Go.Proofs.YtoidlaonolkgkaaDoor

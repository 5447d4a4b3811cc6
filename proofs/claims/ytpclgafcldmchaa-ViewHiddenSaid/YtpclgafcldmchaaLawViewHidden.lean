/- An element that is not seen, put in anywhere, changes nothing of what is said. -/
import Derived.Test.YtpclgafcldmchaaRows
import Derived.Test.YtpclgafcldmchaaPureC
import Derived.Test.YtpclgafcldmchaaOpw
import Derived.Test.YtpclgafcldmchaaHid
import Derived.WalkKit
import Derived.ProofKit
import Derived.OpenShut
import Derived.ShutString
import Derived.ChangeOld
import Derived.Below
import Derived.SizedLaws
namespace Go.Proofs.Ytpclgafcldmchaa.viewHidden
open Go.ChangeShapes Go.WideShapes Go.ChangeAt Go.RowKit
open Go.ChangeMaps (open_string shut_string)
open Go.Proofs.Ytpclgafcldmchaa.P Go.Proofs.Ytpclgafcldmchaa.Opw Go.Proofs.YtpclgafcldmchaaW.PrintWords
open Go.Proofs.Ytpclgafcldmchaa
set_option linter.unusedVariables false
theorem own : ownKnob Try.prog.godebug = none := by kernel_rfl
theorem laidOut : laidOutB Try.prog = true := by kernel_rfl
theorem walk (A : Option Addr) (c : Nat) (xs : List S44) (i : Int) (x : S44) (B : Option Addr) (b : Nat) (W : World) (l0 : xs.length ≤ c) (C0 : Kd.C k44 W A xs.length xs) (wf : (Lit.int .i64 i).wf = true) (l2 : x.f3.length ≤ b) (C2 : Kd.C (Kd.int .i64) W B x.f3.length x.f3) :
    Calls Try.prog 6 #[.slice A xs.length c, .int .i64 i, .agg #[.int .i64 x.f0.f0, .int .i64 x.f0.f1, .int .i64 x.f1.f0, .int .i64 x.f1.f1, .int .i64 x.f2, .slice B x.f3.length b]] W fun e w' => e = .returned (.bool true) ∧ Below W.heap.size W w' :=
  duetlaw12_ViewHidden.calls 200 _ A c xs i _ _ _ _ _ _ B b x.f3 true W (Pure.V_els C0 l0 _) (Pure.V_ints C2 l2 _) ⟨rfl⟩ (Pure.ViewHidden xs i _ _ _ _ _ x.f3)
set_option maxRecDepth 100000 in
theorem lifted (os : Os) (started : os.Started) (H : Type) (enc : TypeId × Value → H) :
    ReturnsInHanded {} Try.checked os 6 .any (Rows.viewHiddenSpec.pre6 enc Try.prog Try.f6 Rows.viewHiddenRow.domain false) (Rows.viewHiddenSpec.post enc Try.prog Try.f6 false true false false) := by
  refine returnsInHanded_of_change_sized (C := Try.checked) own started (by kernel_rfl) Try.func6
    (ChangeSpec.witness6 (enc := enc) (C := Try.checked) false ⟨#[], #[.slice none 0 0, .int .i64 0, .agg #[.int .i64 0, .int .i64 0, .int .i64 0, .int .i64 0, .int .i64 0, .slice none 0 0]], []⟩ 8 (by kernel_rfl) (by kernel_rfl) (by kernel_rfl) (by kernel_rfl)) ?_
  intro W base args ds gs before hval0 hW hcnd hsz0 _
  have hsz : (DataW.weightsEach Try.prog (Try.f6.params.toList ++ Rows.viewHiddenSpec.plain.varTypes Try.prog) (ds ++ gs)).all (· ≤ reachBytes) = true := hsz0
  have hval : ∀ (j : Nat) t v, Try.f6.params[j]? = some t → args[j]? = some v → Value.okWide Try.prog W .any base t v := hval0
  have hW' := hW
  obtain ⟨p, q, hA0, hV, rfl, hfz, hnd⟩ := hW
  have hA : DataW.TrodAll enc Try.prog W 0 (fun _ => true) true Try.f6.params.toList args.toList ds p := hA0
  rw [Try.params6] at hA hval hsz
  obtain ⟨v0, vs0, d0, ds0, p0, q0, hargs, rfl, rfl, h0, r0⟩ := trodAll_cons hA
  obtain ⟨v1, vs1, d1, ds1, p1, q1, rfl, rfl, rfl, h1, r1⟩ := trodAll_cons r0
  obtain ⟨v2, vs2, d2, ds2, p2, q2, rfl, rfl, rfl, h2, r2⟩ := trodAll_cons r1
  obtain ⟨rfl, rfl, rfl⟩ := trodAll_nil r2
  obtain rfl : args = #[v0, v1, v2] := by cases args; simp_all
  obtain ⟨rfl, rfl⟩ := trodVars_none hV
  have k0 := h0
  have lt0 : ∀ x ∈ p0, x.block < W.heap.size := by obtain ⟨m, hm⟩ := k0; exact DataW.trod_lt m _ _ _ hm
  obtain ⟨A0, c0, xs0, rfl, l0, C0⟩ := open_els (hval 0 22 v0 rfl rfl) h0
  obtain ⟨a1, rfl, rfl, rfl, w1⟩ := open_int Try.underlying3 (hval 1 3 v1 rfl rfl) h1
  have k2 := h2
  have lt2 : ∀ x ∈ p2, x.block < W.heap.size := by obtain ⟨m, hm⟩ := k2; exact DataW.trod_lt m _ _ _ hm
  obtain ⟨x2, A2, c2, rfl, l2, C2⟩ := open_el (hval 2 44 v2 rfl rfl) h2
  clear hA0 hval0 hsz0 hsz
  refine (walk A0 c0 xs0 a1 x2 A2 c2 W l0 C0 w1 l2 C2).mono fun e W' ⟨he, bel⟩ => ?_
  subst he
  exact ⟨_, rfl, _, _, _, [], _, [], hW', trodAll_mk1 (shut_bool Try.underlying4 _), (trodAll_cons_mk (Below.trod laidOut (by kernel_rfl) (of_decide_eq_true (by kernel_rfl)) k0 bel lt0) (trodAll_cons_mk (shut_int Try.underlying3 w1) (trodAll_cons_mk (Below.trod laidOut (by kernel_rfl) (of_decide_eq_true (by kernel_rfl)) k2 bel lt2) trodAll_mk0))), rfl, bel.frame _, fun h => by cases h⟩
theorem over : Rows.viewHiddenRow.holds Try.pinned (OpenSpec.ofChange Rows.viewHiddenSpec) :=
  OpenClaim.holds_of_wide 6 Try.f6 rfl rfl rfl rfl rfl rfl rfl ⟨rfl, rfl, rfl, rfl, rfl⟩ rfl rfl rfl rfl rfl (by kernel_rfl) Try.func6 (by kernel_rfl)
    (of_decide_eq_true (by kernel_rfl)) (by unfold Func.isWrapper; first | (rw [if_pos (by decide +kernel)]; kernel_rfl) | (rw [if_neg (by decide +kernel)]; exact ⟨rfl, rfl⟩))
    (fun os started H enc _ => lifted os started H enc)
theorem proved : Rows.ViewHiddenSaid := over
#print axioms proved
end Go.Proofs.Ytpclgafcldmchaa.viewHidden
namespace Go.Proofs.Ytpclgafcldmchaa
/-- The row, under a short name, for the claim. -/
theorem viewHidden_holds : Rows.ViewHiddenSaid := viewHidden.proved
end Go.Proofs.Ytpclgafcldmchaa

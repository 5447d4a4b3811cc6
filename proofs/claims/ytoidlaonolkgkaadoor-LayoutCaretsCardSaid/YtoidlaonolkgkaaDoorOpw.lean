/- The cases that the laws are handed, opened. -/
import Derived.Test.YtoidlaonolkgkaaDoorOpn
import Derived.Test.YtoidlaonolkgkaaDoorProg
import Derived.OpenShut
import Derived.WideShapes
set_option linter.unusedVariables false
namespace Go.Proofs.YtoidlaonolkgkaaDoor.Opw
open Go.RowKit Go.ChangeShapes Go.WideShapes Go.Proofs.YtoidlaonolkgkaaDoor.Opn Go.Proofs.YtoidlaonolkgkaaDoorW.PrintWords
theorem o3 : Opens (Kd.int .i64) Tryd.prog 3 (fun n => (Lit.int .i64 n).wf = true) := opens_int Tryd.underlying3 (by kernel_rfl)
theorem o22 : Opens (Kd.slice 3 (Kd.int .i64)) Tryd.prog 22 (fun xs => ∀ y ∈ xs, (Lit.int .i64 y).wf = true) := opens_slice Tryd.underlying22 (by kernel_rfl) o3
abbrev CaseK : Kd (Int × List Int × List Int × Int × List Int) := Kd.pair (Kd.int .i64) (Kd.pair (Kd.slice 3 (Kd.int .i64)) (Kd.pair (Kd.slice 3 (Kd.int .i64)) (Kd.pair (Kd.int .i64) (Kd.slice 3 (Kd.int .i64)))))
theorem imp {α : Type} {d : Kd α} {P : Program} {t : TypeId} {ok ok' : α → Prop} (h : Opens d P t ok) (hi : ∀ x, ok x → ok' x) : Opens d P t ok' :=
  ⟨h.sz, fun hx => by obtain ⟨y, hK, hok⟩ := h.out hx; exact ⟨y, hK, hi y hok⟩⟩
theorem o24 : Opens (Kd.iso CaseK id) Tryd.prog 24 (fun _ => True) :=
  imp (opens_struct Tryd.underlying24 (by kernel_rfl) (fun p => ⟨p, rfl⟩) (from_cons rfl o3 (from_cons rfl o22 (from_cons rfl o22 (from_cons rfl o3 (from_last rfl o22)))))) (fun _ _ => trivial)
set_option maxRecDepth 100000 in
/-- A case: its numbers and its rows of numbers. -/
theorem open_case {H : Type} {enc : TypeId × Value → H} {W : World} {base : Nat} {sp : Nat → Bool} {v : Value} {d : DataW H} {p : List MemPlace} {b0 : Nat} (hv : Value.okWide Tryd.prog W .any b0 24 v) (h : ∃ fuel, DataW.trod enc Tryd.prog W base sp true fuel 24 v.cells.toList = some (d, p)) :
    ∃ (a0 : Int) (A1 : Option Addr) (c1 : Nat) (l1 : List Int) (A2 : Option Addr) (c2 : Nat) (l2 : List Int) (a3 : Int) (A4 : Option Addr) (c4 : Nat) (l4 : List Int), v = .agg #[.int .i64 a0, .slice A1 l1.length c1, .slice A2 l2.length c2, .int .i64 a3, .slice A4 l4.length c4] ∧
      Kd.C (Kd.int .i64) W A1 l1.length l1 ∧ l1.length ≤ c1 ∧ Kd.C (Kd.int .i64) W A2 l2.length l2 ∧ l2.length ≤ c2 ∧ Kd.C (Kd.int .i64) W A4 l4.length l4 ∧ l4.length ≤ c4 := by
  obtain ⟨cs, rfl, _⟩ := okWide_struct Tryd.underlying24 hv
  obtain ⟨fuel, hf⟩ := h
  obtain ⟨⟨a0, l1, l2, a3, l4⟩, hK, _⟩ := o24.out hf
  obtain ⟨k0, r0, e0, h0, q0, r1, e1, ⟨A1, c1, h1, g1, C1⟩, q1, r2, e2, ⟨A2, c2, h2, g2, C2⟩, q2, r3, e3, h3, ⟨A4, c4, h4, g4, C4⟩⟩ := hK
  have e' : cs.toList = _ := e0
  refine ⟨a0, A1, c1, l1, A2, c2, l2, a3, A4, c4, l4, ?_, C1, g1, C2, g2, C4, g4⟩
  rw [← Array.toArray_toList (xs := cs), e', e1, e2, e3, h0, h1, h2, h3, h4]
  rfl
end Go.Proofs.YtoidlaonolkgkaaDoor.Opw

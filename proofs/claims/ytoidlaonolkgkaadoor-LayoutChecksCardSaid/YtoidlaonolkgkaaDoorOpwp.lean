/- A page that a law is handed, opened. -/
import Derived.Test.YtoidlaonolkgkaaDoorOpn
import Derived.Test.YtoidlaonolkgkaaDoorProg
import Derived.OpenShut
import Derived.WideShapes
import Derived.Test.YtoidlaonolkgkaaDoorPx0
set_option linter.unusedVariables false
namespace Go.Proofs.YtoidlaonolkgkaaDoor.Opwp
open Go.RowKit Go.ChangeShapes Go.WideShapes Go.Proofs.YtoidlaonolkgkaaDoor.Opn Go.Proofs.YtoidlaonolkgkaaDoor.P Go.Proofs.YtoidlaonolkgkaaDoorW.PrintWords
theorem imp {α : Type} {d : Kd α} {P : Program} {t : TypeId} {ok ok' : α → Prop} (h : Opens d P t ok) (hi : ∀ x, ok x → ok' x) : Opens d P t ok' :=
  ⟨h.sz, fun hx => by obtain ⟨y, hK, hok⟩ := h.out hx; exact ⟨y, hK, hi y hok⟩⟩
theorem o3 : Opens (Kd.int .i64) Tryd.prog 3 (fun n => (Lit.int .i64 n).wf = true) := opens_int Tryd.underlying3 (by kernel_rfl)
theorem o4 : Opens Kd.bool Tryd.prog 4 (fun _ => True) := opens_bool Tryd.underlying4 (by kernel_rfl)
theorem o47 : Opens k47 Tryd.prog 47 (fun _ => True) := imp (opens_struct Tryd.underlying47 (by kernel_rfl) (fun p => ⟨⟨p.1, p.2⟩, rfl⟩) (from_cons rfl o3 (from_last rfl o4))) (fun _ _ => trivial)
theorem o45 : Opens (Kd.slice 47 k47) Tryd.prog 45 (fun _ => True) := imp (opens_slice Tryd.underlying45 (by kernel_rfl) o47) (fun _ _ => trivial)
theorem o26 : Opens (Kd.slice 45 (Kd.slice 47 k47)) Tryd.prog 26 (fun _ => True) := imp (opens_slice Tryd.underlying26 (by kernel_rfl) o45) (fun _ _ => trivial)
abbrev PageK : Kd (List (List S47) × Int × Int) := Kd.pair (Kd.slice 45 (Kd.slice 47 k47)) (Kd.pair (Kd.int .i64) (Kd.int .i64))
theorem o32 : Opens (Kd.iso PageK id) Tryd.prog 32 (fun _ => True) :=
  imp (opens_struct Tryd.underlying32 (by kernel_rfl) (fun p => ⟨p, rfl⟩) (from_cons rfl o26 (from_cons rfl o3 (from_last rfl o3)))) (fun _ _ => trivial)
set_option maxRecDepth 100000 in
/-- A page: its rows, and its two numbers. -/
theorem open_page {H : Type} {enc : TypeId × Value → H} {W : World} {base : Nat} {sp : Nat → Bool} {v : Value} {d : DataW H} {p : List MemPlace} {b0 : Nat} (hv : Value.okWide Tryd.prog W .any b0 32 v) (h : ∃ fuel, DataW.trod enc Tryd.prog W base sp true fuel 32 v.cells.toList = some (d, p)) :
    ∃ (A0 : Option Addr) (c0 : Nat) (l0 : List (List S47)) (a1 a2 : Int), v = .agg #[.slice A0 l0.length c0, .int .i64 a1, .int .i64 a2] ∧ Kd.C (Kd.slice 47 k47) W A0 l0.length l0 ∧ l0.length ≤ c0 := by
  obtain ⟨cs, rfl, _⟩ := okWide_struct Tryd.underlying32 hv
  obtain ⟨fuel, hf⟩ := h
  obtain ⟨⟨l0, a1, a2⟩, hK, _⟩ := o32.out hf
  obtain ⟨q0, r0, e0, ⟨A0, c0, h0, g0, C0⟩, q1, r1, e1, h1, h2⟩ := hK
  have e' : cs.toList = _ := e0
  refine ⟨A0, c0, l0, a1, a2, ?_, C0, g0⟩
  rw [← Array.toArray_toList (xs := cs), e', h0, e1, h1, h2]
  rfl
end Go.Proofs.YtoidlaonolkgkaaDoor.Opwp

/- The rows that the laws are handed, opened. -/
import Derived.Test.YtmgdikfgejablaaDoorOpn
import Derived.Test.YtmgdikfgejablaaDoorProg
import Derived.OpenShut
import Derived.WideShapes
set_option linter.unusedVariables false
namespace Go.Proofs.YtmgdikfgejablaaDoor.Opw
open Go.RowKit Go.ChangeShapes Go.WideShapes Go.Proofs.YtmgdikfgejablaaDoor.Opn Go.Proofs.YtmgdikfgejablaaDoorW.PrintWords
theorem o9 : Opens Kd.string Tryd.prog 9 (fun s => s.size ≤ maxLen) := opens_string Tryd.underlying9 (by kernel_rfl)
theorem o3 : Opens (Kd.int .i64) Tryd.prog 3 (fun n => (Lit.int .i64 n).wf = true) := opens_int Tryd.underlying3 (by kernel_rfl)
/-- A row of texts. -/
theorem open_ss {H : Type} {enc : TypeId × Value → H} {W : World} {base : Nat} {sp : Nat → Bool} {v : Value} {d : DataW H} {p : List MemPlace} {b0 : Nat} (hv : Value.okWide Tryd.prog W .any b0 22 v) (h : ∃ fuel, DataW.trod enc Tryd.prog W base sp true fuel 22 v.cells.toList = some (d, p)) :
    ∃ A c xs, v = .slice A xs.length c ∧ xs.length ≤ c ∧ Kd.C Kd.string W A xs.length xs := by
  obtain ⟨a, len, cap, rfl⟩ := okWide_slice Tryd.underlying22 hv
  obtain ⟨fuel, hf⟩ := h
  obtain ⟨A, xs, c, hcs, hl, _, hC, _⟩ := opens_row Tryd.underlying22 o9 hf
  simp [Value.cells] at hcs
  obtain ⟨rfl, rfl, rfl⟩ := hcs
  exact ⟨a, cap, xs, rfl, hl, hC⟩
/-- A row of numbers. -/
theorem open_ns {H : Type} {enc : TypeId × Value → H} {W : World} {base : Nat} {sp : Nat → Bool} {v : Value} {d : DataW H} {p : List MemPlace} {b0 : Nat} (hv : Value.okWide Tryd.prog W .any b0 41 v) (h : ∃ fuel, DataW.trod enc Tryd.prog W base sp true fuel 41 v.cells.toList = some (d, p)) :
    ∃ A c xs, v = .slice A xs.length c ∧ xs.length ≤ c ∧ Kd.C (Kd.int .i64) W A xs.length xs := by
  obtain ⟨a, len, cap, rfl⟩ := okWide_slice Tryd.underlying41 hv
  obtain ⟨fuel, hf⟩ := h
  obtain ⟨A, xs, c, hcs, hl, _, hC, _⟩ := opens_row Tryd.underlying41 o3 hf
  simp [Value.cells] at hcs
  obtain ⟨rfl, rfl, rfl⟩ := hcs
  exact ⟨a, cap, xs, rfl, hl, hC⟩
end Go.Proofs.YtmgdikfgejablaaDoor.Opw

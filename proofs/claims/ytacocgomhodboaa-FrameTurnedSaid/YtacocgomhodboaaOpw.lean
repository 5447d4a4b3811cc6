/- The rows of texts that the laws are handed, opened. -/
import Derived.Test.YtacocgomhodboaaOpn
import Derived.Test.YtacocgomhodboaaProg
import Derived.OpenShut
import Derived.WideShapes
set_option linter.unusedVariables false
namespace Go.Proofs.Ytacocgomhodboaa.Opw
open Go.RowKit Go.ChangeShapes Go.WideShapes Go.Proofs.Ytacocgomhodboaa.Opn Go.Proofs.YtacocgomhodboaaW.PrintWords
theorem o9 : Opens Kd.string Try.prog 9 (fun s => s.size ≤ maxLen) := opens_string Try.underlying9 (by kernel_rfl)
/-- A row of texts. -/
theorem open_ss {H : Type} {enc : TypeId × Value → H} {W : World} {base : Nat} {sp : Nat → Bool} {v : Value} {d : DataW H} {p : List MemPlace} {b0 : Nat} (hv : Value.okWide Try.prog W .any b0 27 v) (h : ∃ fuel, DataW.trod enc Try.prog W base sp true fuel 27 v.cells.toList = some (d, p)) :
    ∃ A c xs, v = .slice A xs.length c ∧ xs.length ≤ c ∧ Kd.C Kd.string W A xs.length xs := by
  obtain ⟨a, len, cap, rfl⟩ := okWide_slice Try.underlying27 hv
  obtain ⟨fuel, hf⟩ := h
  obtain ⟨A, xs, c, hcs, hl, _, hC, _⟩ := opens_row Try.underlying27 o9 hf
  simp [Value.cells] at hcs
  obtain ⟨rfl, rfl, rfl⟩ := hcs
  exact ⟨a, cap, xs, rfl, hl, hC⟩
end Go.Proofs.Ytacocgomhodboaa.Opw

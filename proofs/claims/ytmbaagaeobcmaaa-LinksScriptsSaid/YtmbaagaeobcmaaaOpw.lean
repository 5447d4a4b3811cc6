/- The calls and the rows of texts that the laws are handed, opened. -/
import Derived.Test.YtmbaagaeobcmaaaOpn
import Derived.Test.YtmbaagaeobcmaaaLn
import Derived.OpenShut
import Derived.WideShapes
set_option linter.unusedVariables false
namespace Go.Proofs.Ytmbaagaeobcmaaa.Opw
open Go.RowKit Go.ChangeShapes Go.WideShapes Go.Proofs.Ytmbaagaeobcmaaa.Opn Go.Proofs.Ytmbaagaeobcmaaa.Ln Go.Proofs.YtmbaagaeobcmaaaW.PrintWords
theorem imp {α : Type} {d : Kd α} {P : Program} {t : TypeId} {ok ok' : α → Prop} (h : Opens d P t ok) (hi : ∀ x, ok x → ok' x) : Opens d P t ok' :=
  ⟨h.sz, fun hx => by obtain ⟨y, hK, hok⟩ := h.out hx; exact ⟨y, hK, hi y hok⟩⟩
theorem o3 : Opens (Kd.int .i64) Try.prog 3 (fun n => (Lit.int .i64 n).wf = true) := opens_int Try.underlying3 (by kernel_rfl)
theorem o5 : Opens (Kd.int .u8) Try.prog 5 (fun n => (Lit.int .u8 n).wf = true) := opens_int Try.underlying5 (by kernel_rfl)
theorem o9 : Opens Kd.string Try.prog 9 (fun s => s.size ≤ maxLen) := opens_string Try.underlying9 (by kernel_rfl)
/-- A call's numbers are in their ranges. -/
def okOp (x : S31) : Prop := (Lit.int .i64 x.f0).wf = true ∧ (Lit.int .i64 x.f1).wf = true ∧ (Lit.int .i64 x.f2).wf = true ∧ x.f3.size ≤ maxLen ∧ (Lit.int .i64 x.f4).wf = true ∧ (Lit.int .i64 x.f5).wf = true ∧ (Lit.int .u8 x.f6).wf = true
theorem o31 : Opens k31 Try.prog 31 okOp :=
  imp (opens_struct Try.underlying31 (by kernel_rfl) (fun p => ⟨⟨p.1, p.2.1, p.2.2.1, p.2.2.2.1, p.2.2.2.2.1, p.2.2.2.2.2.1, p.2.2.2.2.2.2⟩, rfl⟩)
    (from_cons rfl o3 (from_cons rfl o3 (from_cons rfl o3 (from_cons rfl o9 (from_cons rfl o3 (from_cons rfl o3 (from_last rfl o5)))))))) (fun x h => h)
/-- A row of texts. -/
theorem open_ss {H : Type} {enc : TypeId × Value → H} {W : World} {base : Nat} {sp : Nat → Bool} {v : Value} {d : DataW H} {p : List MemPlace} {b0 : Nat} (hv : Value.okWide Try.prog W .any b0 42 v) (h : ∃ fuel, DataW.trod enc Try.prog W base sp true fuel 42 v.cells.toList = some (d, p)) :
    ∃ A c xs, v = .slice A xs.length c ∧ xs.length ≤ c ∧ Kd.C Kd.string W A xs.length xs := by
  obtain ⟨a, len, cap, rfl⟩ := okWide_slice Try.underlying42 hv
  obtain ⟨fuel, hf⟩ := h
  obtain ⟨A, xs, c, hcs, hl, _, hC, _⟩ := opens_row Try.underlying42 o9 hf
  simp [Value.cells] at hcs
  obtain ⟨rfl, rfl, rfl⟩ := hcs
  exact ⟨a, cap, xs, rfl, hl, hC⟩
/-- A call. -/
theorem open_op {H : Type} {enc : TypeId × Value → H} {W : World} {base : Nat} {sp : Nat → Bool} {v : Value} {d : DataW H} {p : List MemPlace} {b0 : Nat} (hv : Value.okWide Try.prog W .any b0 31 v) (h : ∃ fuel, DataW.trod enc Try.prog W base sp true fuel 31 v.cells.toList = some (d, p)) :
    ∃ (x : S31), v = .agg x.cells := by
  simp only [Value.okWide, Try.underlying31] at hv
  obtain ⟨cs, rfl, _, _⟩ := hv
  obtain ⟨fuel, hf⟩ := h
  obtain ⟨x, hK, _⟩ := o31.out hf
  have e := k31_open hK
  have e' : cs.toList = _ := e
  refine ⟨x, ?_⟩
  rw [← Array.toArray_toList (xs := cs), e']
/-- Calls. -/
theorem open_ops {H : Type} {enc : TypeId × Value → H} {W : World} {base : Nat} {sp : Nat → Bool} {v : Value} {d : DataW H} {p : List MemPlace} {b0 : Nat} (hv : Value.okWide Try.prog W .any b0 22 v) (h : ∃ fuel, DataW.trod enc Try.prog W base sp true fuel 22 v.cells.toList = some (d, p)) :
    ∃ A c xs, v = .slice A xs.length c ∧ xs.length ≤ c ∧ Kd.C k31 W A xs.length xs ∧ ∀ y ∈ xs, okOp y := by
  obtain ⟨a, len, cap, rfl⟩ := okWide_slice Try.underlying22 hv
  obtain ⟨fuel, hf⟩ := h
  obtain ⟨A, xs, c, hcs, hl, _, hC, hok, _⟩ := opens_row Try.underlying22 o31 hf
  simp [Value.cells] at hcs
  obtain ⟨rfl, rfl, rfl⟩ := hcs
  exact ⟨a, cap, xs, rfl, hl, hC, hok⟩
end Go.Proofs.Ytmbaagaeobcmaaa.Opw

/- The Ids and the rows of Ids that the laws are handed, opened. -/
import Derived.Test.YtoaaekgpabnneaaOpn
import Derived.Test.YtoaaekgpabnneaaPx0
import Derived.OpenShut
import Derived.WideShapes
set_option linter.unusedVariables false
namespace Go.Proofs.Ytoaaekgpabnneaa.Opw2
open Go.RowKit Go.ChangeShapes Go.WideShapes Go.Proofs.Ytoaaekgpabnneaa.Opn Go.Proofs.Ytoaaekgpabnneaa.P Go.Proofs.YtoaaekgpabnneaaW.PrintWords
theorem imp {α : Type} {d : Kd α} {P : Program} {t : TypeId} {ok ok' : α → Prop} (h : Opens d P t ok) (hi : ∀ x, ok x → ok' x) : Opens d P t ok' :=
  ⟨h.sz, fun hx => by obtain ⟨y, hK, hok⟩ := h.out hx; exact ⟨y, hK, hi y hok⟩⟩
theorem o3 : Opens (Kd.int .i64) Try.prog 3 (fun n => (Lit.int .i64 n).wf = true) := opens_int Try.underlying3 (by kernel_rfl)
theorem stru {α β : Type} {d : Kd α} {P : Program} {t : TypeId} {fs : Array Field} {ok : α → Prop} {g : β → α} (ht : P.underlying t = some (.struct fs)) (hc : P.cellsOf t = d.sz) (hs : ∀ p, ∃ x, g x = p) (h : From d P fs.toList 0 ok) :
    Opens (Kd.iso d g) P t (fun _ => True) := imp (opens_struct ht hc hs h) (fun _ _ => trivial)
theorem o23 : Opens k23 Try.prog 23 (fun _ => True) :=
  stru Try.underlying23 (by kernel_rfl) (fun p => ⟨⟨p.1, p.2⟩, rfl⟩) (from_cons rfl o3 (from_last rfl o3))
/-- Ids. -/
theorem open_ids {H : Type} {enc : TypeId × Value → H} {W : World} {base : Nat} {sp : Nat → Bool} {v : Value} {d : DataW H} {p : List MemPlace} {b0 : Nat} (hv : Value.okWide Try.prog W .any b0 29 v) (h : DataW.Trod enc Try.prog W base sp true 29 v d p) :
    ∃ A c xs, v = .slice A xs.length c ∧ xs.length ≤ c ∧ Kd.C k23 W A xs.length xs := by
  obtain ⟨a, len, cap, rfl⟩ := okWide_slice Try.underlying29 hv
  obtain ⟨fuel, hf⟩ := h
  obtain ⟨A, xs, c, hcs, hl, _, hC, _⟩ := opens_row Try.underlying29 o23 hf
  simp [Value.cells] at hcs
  obtain ⟨rfl, rfl, rfl⟩ := hcs
  exact ⟨a, cap, xs, rfl, hl, hC⟩
/-- Whole numbers. -/
theorem open_is {H : Type} {enc : TypeId × Value → H} {W : World} {base : Nat} {sp : Nat → Bool} {v : Value} {d : DataW H} {p : List MemPlace} {b0 : Nat} (hv : Value.okWide Try.prog W .any b0 48 v) (h : DataW.Trod enc Try.prog W base sp true 48 v d p) :
    ∃ A c xs, v = .slice A xs.length c ∧ xs.length ≤ c ∧ Kd.C (Kd.int .i64) W A xs.length xs := by
  obtain ⟨a, len, cap, rfl⟩ := okWide_slice Try.underlying48 hv
  obtain ⟨fuel, hf⟩ := h
  obtain ⟨A, xs, c, hcs, hl, _, hC, _⟩ := opens_row Try.underlying48 o3 hf
  simp [Value.cells] at hcs
  obtain ⟨rfl, rfl, rfl⟩ := hcs
  exact ⟨a, cap, xs, rfl, hl, hC⟩
/-- An Id. -/
theorem open_id {H : Type} {enc : TypeId × Value → H} {W : World} {base : Nat} {sp : Nat → Bool} {v : Value} {d : DataW H} {p : List MemPlace} {b0 : Nat} (hv : Value.okWide Try.prog W .any b0 23 v) (h : DataW.Trod enc Try.prog W base sp true 23 v d p) :
    ∃ (x : S23), v = .agg #[.int .i64 x.f0, .int .i64 x.f1] := by
  simp only [Value.okWide, Try.underlying23] at hv
  obtain ⟨cs, rfl, _, _⟩ := hv
  obtain ⟨fuel, hf⟩ := h
  obtain ⟨x, hK, _⟩ := o23.out hf
  have e := k23_open hK
  have e' : cs.toList = _ := e
  refine ⟨x, ?_⟩
  rw [← Array.toArray_toList (xs := cs), e']
end Go.Proofs.Ytoaaekgpabnneaa.Opw2

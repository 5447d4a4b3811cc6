/- The elements, the cases and the cuts that the laws are handed, opened. -/
import Derived.Test.YtpclgafcldmchaaOpn
import Derived.Test.YtpclgafcldmchaaPx0
import Derived.OpenShut
import Derived.WideShapes
set_option linter.unusedVariables false
namespace Go.Proofs.Ytpclgafcldmchaa.Opw
open Go.RowKit Go.ChangeShapes Go.WideShapes Go.Proofs.Ytpclgafcldmchaa.Opn Go.Proofs.Ytpclgafcldmchaa.P Go.Proofs.YtpclgafcldmchaaW.PrintWords
theorem imp {α : Type} {d : Kd α} {P : Program} {t : TypeId} {ok ok' : α → Prop} (h : Opens d P t ok) (hi : ∀ x, ok x → ok' x) : Opens d P t ok' :=
  ⟨h.sz, fun hx => by obtain ⟨y, hK, hok⟩ := h.out hx; exact ⟨y, hK, hi y hok⟩⟩
theorem o3 : Opens (Kd.int .i64) Try.prog 3 (fun n => (Lit.int .i64 n).wf = true) := opens_int Try.underlying3 (by kernel_rfl)
theorem o2 : Opens (Kd.slice 3 (Kd.int .i64)) Try.prog 38 (fun _ => True) := imp (opens_slice Try.underlying38 (by kernel_rfl) o3) (fun _ _ => trivial)
theorem stru {α β : Type} {d : Kd α} {P : Program} {t : TypeId} {fs : Array Field} {ok : α → Prop} {g : β → α} (ht : P.underlying t = some (.struct fs)) (hc : P.cellsOf t = d.sz) (hs : ∀ p, ∃ x, g x = p) (h : From d P fs.toList 0 ok) :
    Opens (Kd.iso d g) P t (fun _ => True) := imp (opens_struct ht hc hs h) (fun _ _ => trivial)
theorem o24 : Opens k24 Try.prog 24 (fun _ => True) :=
  stru Try.underlying24 (by kernel_rfl) (fun p => ⟨⟨p.1, p.2⟩, rfl⟩) (from_cons rfl o3 (from_last rfl o3))
theorem o44 : Opens k44 Try.prog 44 (fun _ => True) :=
  stru Try.underlying44 (by kernel_rfl) (fun p => ⟨⟨p.1, p.2.1, p.2.2.1, p.2.2.2⟩, rfl⟩) (from_cons rfl o24 (from_cons rfl o24 (from_cons rfl o3 (from_last rfl o2))))
/-- Elements. -/
theorem open_els {H : Type} {enc : TypeId × Value → H} {W : World} {base : Nat} {sp : Nat → Bool} {v : Value} {d : DataW H} {p : List MemPlace} {b0 : Nat} (hv : Value.okWide Try.prog W .any b0 22 v) (h : DataW.Trod enc Try.prog W base sp true 22 v d p) :
    ∃ A c xs, v = .slice A xs.length c ∧ xs.length ≤ c ∧ Kd.C k44 W A xs.length xs := by
  obtain ⟨a, len, cap, rfl⟩ := okWide_slice Try.underlying22 hv
  obtain ⟨fuel, hf⟩ := h
  obtain ⟨A, xs, c, hcs, hl, _, hC, _⟩ := opens_row Try.underlying22 o44 hf
  simp [Value.cells] at hcs
  obtain ⟨rfl, rfl, rfl⟩ := hcs
  exact ⟨a, cap, xs, rfl, hl, hC⟩
/-- An element. -/
theorem open_el {H : Type} {enc : TypeId × Value → H} {W : World} {base : Nat} {sp : Nat → Bool} {v : Value} {d : DataW H} {p : List MemPlace} {b0 : Nat} (hv : Value.okWide Try.prog W .any b0 44 v) (h : DataW.Trod enc Try.prog W base sp true 44 v d p) :
    ∃ (x : S44) (A : Option Addr) (c : Nat), v = .agg #[.int .i64 x.f0.f0, .int .i64 x.f0.f1, .int .i64 x.f1.f0, .int .i64 x.f1.f1, .int .i64 x.f2, .slice A x.f3.length c] ∧ x.f3.length ≤ c ∧ Kd.C (Kd.int .i64) W A x.f3.length x.f3 := by
  simp only [Value.okWide, Try.underlying44] at hv
  obtain ⟨cs, rfl, _, _⟩ := hv
  obtain ⟨fuel, hf⟩ := h
  obtain ⟨x, hK, _⟩ := o44.out hf
  obtain ⟨A, c, e, hl, hC⟩ := k44_open hK
  have e' : cs.toList = _ := e
  refine ⟨x, A, c, ?_, hl, hC⟩
  rw [← Array.toArray_toList (xs := cs), e']
def kCase : Kd (List S44 × Int × S24 × Int) := Kd.pair (Kd.slice 44 k44) (Kd.pair (Kd.int .i64) (Kd.pair k24 (Kd.int .i64)))
theorem open_case {H : Type} {enc : TypeId × Value → H} {W : World} {base : Nat} {sp : Nat → Bool} {v : Value} {d : DataW H} {p : List MemPlace} {b0 : Nat} (hv : Value.okWide Try.prog W .any b0 26 v) (h : DataW.Trod enc Try.prog W base sp true 26 v d p) :
    ∃ (A : Option Addr) (c : Nat) (xs : List S44) (i x y z : Int), v = .agg #[.slice A xs.length c, .int .i64 i, .int .i64 x, .int .i64 y, .int .i64 z] ∧ xs.length ≤ c ∧ Kd.C k44 W A xs.length xs := by
  simp only [Value.okWide, Try.underlying26] at hv
  obtain ⟨cs, rfl, _, _⟩ := hv
  obtain ⟨fuel, hf⟩ := h
  have o : Opens (Kd.iso kCase id) Try.prog 26 _ := opens_struct Try.underlying26 (by kernel_rfl) (fun p => ⟨p, rfl⟩) (from_cons rfl (opens_slice Try.underlying22 (by kernel_rfl) o44) (from_cons rfl o3 (from_cons rfl o24 (from_last rfl o3))))
  obtain ⟨⟨xs, i, x, z⟩, hK, _⟩ := o.out hf
  obtain ⟨_, _, e, ⟨A, c, rfl, hl, hC⟩, _, _, rfl, rfl, _, _, rfl, h24, rfl⟩ := hK
  obtain rfl := k24_open h24
  have e' : cs.toList = _ := e
  refine ⟨A, c, xs, i, x.f0, x.f1, z, ?_, hl, hC⟩
  rw [← Array.toArray_toList (xs := cs), e']
  rfl
def kCuts : Kd (List S44 × Int × Int × Int) := Kd.pair (Kd.slice 44 k44) (Kd.pair (Kd.int .i64) (Kd.pair (Kd.int .i64) (Kd.int .i64)))
theorem open_cuts {H : Type} {enc : TypeId × Value → H} {W : World} {base : Nat} {sp : Nat → Bool} {v : Value} {d : DataW H} {p : List MemPlace} {b0 : Nat} (hv : Value.okWide Try.prog W .any b0 47 v) (h : DataW.Trod enc Try.prog W base sp true 47 v d p) :
    ∃ (A : Option Addr) (c : Nat) (xs : List S44) (i x y : Int), v = .agg #[.slice A xs.length c, .int .i64 i, .int .i64 x, .int .i64 y] ∧ xs.length ≤ c ∧ Kd.C k44 W A xs.length xs := by
  simp only [Value.okWide, Try.underlying47] at hv
  obtain ⟨cs, rfl, _, _⟩ := hv
  obtain ⟨fuel, hf⟩ := h
  have o : Opens (Kd.iso kCuts id) Try.prog 47 _ := opens_struct Try.underlying47 (by kernel_rfl) (fun p => ⟨p, rfl⟩) (from_cons rfl (opens_slice Try.underlying22 (by kernel_rfl) o44) (from_cons rfl o3 (from_cons rfl o3 (from_last rfl o3))))
  obtain ⟨⟨xs, i, x, z⟩, hK, _⟩ := o.out hf
  obtain ⟨_, _, e, ⟨A, c, rfl, hl, hC⟩, _, _, rfl, rfl, _, _, rfl, rfl, rfl⟩ := hK
  have e' : cs.toList = _ := e
  refine ⟨A, c, xs, i, x, z, ?_, hl, hC⟩
  rw [← Array.toArray_toList (xs := cs), e']
  rfl
end Go.Proofs.Ytpclgafcldmchaa.Opw

/- What the statement hands over, read as the printed kinds say it: opened from the row's own data. -/
import Derived.Test.YtmbaagaeobcmaaaWWords
import Derived.Deep.Slices
import Derived.ChangeArms
import Derived.SizedLaws
namespace Go.Proofs.Ytmbaagaeobcmaaa.Opn
open Go.RowKit Go.ChangeShapes Go.WideShapes Go.Proofs.YtmbaagaeobcmaaaW.PrintWords
structure Opens {α : Type} (d : Kd α) (P : Program) (t : TypeId) (ok : α → Prop) : Prop where
  sz : P.cellsOf t = d.sz
  out : ∀ {H : Type} {enc : TypeId × Value → H} {w : World} {base : Nat} {spare : Nat → Bool} {held : Bool} {fuel : Nat} {cs : List Value} {x : DataW H × List MemPlace},
    DataW.trod enc P w base spare held fuel t cs = some x → ∃ y, d.K w y cs ∧ ok y
theorem opens_int {P : Program} {t : TypeId} {k : IntKind} (ht : P.underlying t = some (.int k)) (hc : P.cellsOf t = 1) : Opens (Kd.int k) P t (fun n => (Lit.int k n).wf = true) :=
  ⟨hc, fun h => by obtain ⟨n, rfl, _, hw⟩ := DataW.trod_int ht h; exact ⟨n, rfl, hw⟩⟩
theorem opens_bool {P : Program} {t : TypeId} (ht : P.underlying t = some .bool) (hc : P.cellsOf t = 1) : Opens Kd.bool P t (fun _ => True) :=
  ⟨hc, fun h => by obtain ⟨n, rfl, _⟩ := DataW.trod_bool ht h; exact ⟨n, rfl, trivial⟩⟩
theorem opens_string {P : Program} {t : TypeId} (ht : P.underlying t = some .string) (hc : P.cellsOf t = 1) : Opens Kd.string P t (fun s => s.size ≤ maxLen) :=
  ⟨hc, fun h => by obtain ⟨n, rfl, _, hw⟩ := DataW.trod_string ht h; exact ⟨n, rfl, hw⟩⟩
/-- A slice, opened whole. -/
theorem opens_row {α : Type} {d : Kd α} {P : Program} {t e : TypeId} {ok : α → Prop} (ht : P.underlying t = some (.slice e)) (he : Opens d P e ok)
    {H : Type} {enc : TypeId × Value → H} {w : World} {base : Nat} {spare : Nat → Bool} {held : Bool} {fuel : Nat} {cs : List Value} {x : DataW H × List MemPlace}
    (h : DataW.trod enc P w base spare held fuel t cs = some x) : ∃ A xs c, cs = [.slice A xs.length c] ∧ xs.length ≤ c ∧ c ≤ maxLen ∧ d.C w A xs.length xs ∧ (∀ y ∈ xs, ok y) ∧ (x.1 = .nil ∧ xs = [] ∨ ∃ es sp, x.1 = .slice es sp ∧ es.length = xs.length) := by
  rcases Go.Deep.open_slice ht h with ⟨rfl, hx⟩ | ⟨a, len, cap, m, n, D, Pl, rfl, hb, hl, hm, hmm, hx, hall⟩
  · exact ⟨none, [], 0, rfl, Nat.le_refl _, Nat.zero_le _, ⟨rfl, Nat.zero_le _, fun h => absurd h (Nat.lt_irrefl _)⟩, fun y hy => by simp at hy, .inl ⟨by rw [hx], rfl⟩⟩
  have hlm : len ≤ m := by rw [hmm]; split <;> omega
  have each : ∀ i, i < len → ∃ y, (∃ c, w.cells? base (a.add (i * d.sz)) d.sz = some c ∧ d.K w y c) ∧ ok y := fun i hi => by
    obtain ⟨c, h1, h2⟩ := hall i (by omega)
    obtain ⟨y, hK, hok⟩ := he.out h2
    rw [he.sz] at h1
    exact ⟨y, ⟨c, h1, hK⟩, hok⟩
  have key : ∀ k, k ≤ len → ∃ xs : List α, xs.length = k ∧ ∀ i y, xs[i]? = some y → (∃ c, w.cells? base (a.add (i * d.sz)) d.sz = some c ∧ d.K w y c) ∧ ok y := by
    intro k
    induction k with
    | zero => exact fun _ => ⟨[], rfl, fun i y h => by simp at h⟩
    | succ k ih =>
      intro hk
      obtain ⟨xs, hlen, hxs⟩ := ih (by omega)
      obtain ⟨y, hy⟩ := each k (by omega)
      refine ⟨xs ++ [y], by simp [hlen], fun i z hz => ?_⟩
      by_cases hi : i < xs.length
      · rw [List.getElem?_append_left hi] at hz; exact hxs i z hz
      · rw [List.getElem?_append_right (by omega)] at hz
        have h0 : i - xs.length = 0 := by
          rcases Nat.eq_zero_or_pos (i - xs.length) with h | h
          · exact h
          · rw [List.getElem?_eq_none (by simp; omega)] at hz; exact absurd hz (by simp)
        rw [h0] at hz
        obtain rfl := Option.some.inj hz
        rw [show i = k by omega]
        exact hy
  obtain ⟨xs, hlen, hxs⟩ := key len (Nat.le_refl _)
  have hml : maxLen ≤ 9223372036854775807 := by decide
  refine ⟨some a, xs, cap, by rw [hlen], by omega, hm, ⟨rfl, by omega, fun _ => ⟨a, rfl, fun j p hp => ?_⟩⟩, fun y hy => ?_, .inr ⟨_, _, by rw [hx], by simp [hlen]⟩⟩
  · obtain ⟨⟨c, h1, hK⟩, _⟩ := hxs j p hp
    obtain ⟨_, hcl, hc⟩ := World.cells?_some h1
    refine ⟨c, hcl, hK, fun i u hu => ?_⟩
    have hi : i < c.length := (List.getElem?_eq_some_iff.1 hu).1
    rw [← Go.Deep.add_add, hc i (by omega), hu]
  · obtain ⟨i, hi⟩ := List.getElem?_of_mem hy
    exact (hxs i y hi).2
theorem opens_slice {α : Type} {d : Kd α} {P : Program} {t e : TypeId} {ok : α → Prop} (ht : P.underlying t = some (.slice e)) (hc : P.cellsOf t = 1) (he : Opens d P e ok) : Opens (Kd.slice e d) P t (fun xs => ∀ y ∈ xs, ok y) :=
  ⟨hc, fun h => by
    obtain ⟨A, xs, c, rfl, h1, _, h2, h3, _⟩ := opens_row ht he h
    exact ⟨xs, ⟨A, c, rfl, h1, h2⟩, h3⟩⟩
/-- The fields from the place 'off' on. -/
structure From {α : Type} (d : Kd α) (P : Program) (fs : List Field) (off : Nat) (ok : α → Prop) : Prop where
  out : ∀ {H : Type} {enc : TypeId × Value → H} {w : World} {base : Nat} {spare : Nat → Bool} {held : Bool} {fuel : Nat} {cs : List Value},
    (∀ f, f ∈ fs → ∃ x, DataW.trod enc P w base spare held fuel f.type ((cs.drop f.offset).take (P.cellsOf f.type)) = some x) → cs.length = off + d.sz → ∃ y, d.K w y (cs.drop off) ∧ ok y
theorem from_last {α : Type} {d : Kd α} {P : Program} {f : Field} {off : Nat} {ok : α → Prop} (ho : f.offset = off) (h : Opens d P f.type ok) : From d P [f] off ok :=
  ⟨fun hx hl => by
    obtain ⟨x, hx⟩ := hx f (by simp)
    obtain ⟨y, hK, hok⟩ := h.out hx
    rw [ho, h.sz, List.take_of_length_le (by rw [List.length_drop]; omega)] at hK
    exact ⟨y, hK, hok⟩⟩
theorem from_cons {α β : Type} {a : Kd α} {b : Kd β} {P : Program} {f : Field} {fs : List Field} {off : Nat} {oka : α → Prop} {okb : β → Prop} (ho : f.offset = off) (h : Opens a P f.type oka) (hs : From b P fs (off + a.sz) okb) :
    From (Kd.pair a b) P (f :: fs) off (fun x => oka x.1 ∧ okb x.2) :=
  ⟨fun {_ _ _ _ _ _ _ cs} hx hl => by
    have hl' : cs.length = off + (a.sz + b.sz) := hl
    obtain ⟨x, hx0⟩ := hx f (by simp)
    obtain ⟨y, hK, hok⟩ := h.out hx0
    obtain ⟨z, hK2, hok2⟩ := hs.out (fun g hg => hx g (List.mem_cons_of_mem _ hg)) (by omega)
    rw [ho, h.sz] at hK
    refine ⟨(y, z), ⟨(cs.drop off).take a.sz, cs.drop (off + a.sz), ?_, hK, hK2⟩, hok, hok2⟩
    rw [← List.drop_drop, List.take_append_drop]⟩
theorem opens_struct {α β : Type} {d : Kd α} {P : Program} {t : TypeId} {fs : Array Field} {ok : α → Prop} {g : β → α} (ht : P.underlying t = some (.struct fs)) (hc : P.cellsOf t = d.sz) (hs : ∀ p, ∃ x, g x = p) (h : From d P fs.toList 0 ok) :
    Opens (Kd.iso d g) P t (fun x => ok (g x)) :=
  ⟨hc, fun hx => by
    obtain ⟨xs, n, _, _, hl, hlen, hf⟩ := DataW.trod_struct ht hx
    obtain ⟨y, hK, hok⟩ := h.out (fun f hf' => by
      obtain ⟨i, hi⟩ := List.getElem?_of_mem hf'
      have hi' : fs[i]? = some f := by simpa using hi
      have hlt : i < fs.size := (Array.getElem?_eq_some_iff.1 hi').1
      have := hf i f hi'
      rw [List.getElem?_eq_getElem (by omega)] at this
      exact ⟨_, this⟩) (by rw [hl, hc]; simp)
    obtain ⟨x, rfl⟩ := hs y
    exact ⟨x, (show d.K _ (g x) _ from by simpa using hK), hok⟩⟩
end Go.Proofs.Ytmbaagaeobcmaaa.Opn

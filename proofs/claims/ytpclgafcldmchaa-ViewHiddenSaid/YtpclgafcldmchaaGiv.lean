/- view.Seen and view.Text in the printed functions' form. -/
import Derived.Test.YtpclgafcldmchaaTx
import Derived.Deep.Slices
set_option linter.unusedVariables false
set_option linter.unusedSimpArgs false
namespace Go.Proofs.Ytpclgafcldmchaa.Giv
open Go.RowKit Go.Shelf Go.Proofs.Ytpclgafcldmchaa.P Go.Proofs.Ytpclgafcldmchaa.It Go.Proofs.YtpclgafcldmchaaW.PrintWords Go.Proofs.YtpclgafcldmchaaW.PrintLast Go.Proofs.YtpclgafcldmchaaW.PrintMore
/-- The places of elements that are seen, from the i-th on. -/
def seenFrom : Nat → List S44 → List Nat
  | _, [] => []
  | i, x :: l => if x.f3.length = 0 then i :: seenFrom (i + 1) l else seenFrom (i + 1) l
def seenL (l : List S44) : List Int := (seenFrom 0 l).map fun i : Nat => (i : Int)
/-- The runes of elements that are seen. -/
def clips (l : List S44) : List Int := (l.filter fun x => x.f3.length == 0).map fun x => clip x.f2
theorem range_filter_map {β : Type} (l : List S44) (i : Nat) (p : Nat → Bool) (g : Nat → β) (q : S44 → Bool) (hp : ∀ j (h : j < l.length), p (i + j) = q l[j]) :
    ((List.range' i l.length).filter p).map g = ((l.zipIdx i).filter fun x => q x.1).map fun x => g x.2 := by
  induction l generalizing i with
  | nil => rfl
  | cons x l ih =>
    have h0 := hp 0 (by simp)
    rw [Nat.add_zero] at h0
    have h0' : p i = q x := h0
    rw [List.length_cons, List.range'_succ, List.zipIdx_cons, List.filter_cons, List.filter_cons]
    have hih := ih (i + 1) (fun j hj => by have := hp (j + 1) (by simpa using hj); rw [show i + (j + 1) = i + 1 + j by omega] at this; exact this)
    show List.map g (if p i = true then _ else _) = List.map _ (if q x = true then _ else _)
    rw [h0']
    by_cases hq : q x = true
    · rw [if_pos hq, if_pos hq, List.map_cons, List.map_cons, hih]
    · rw [if_neg hq, if_neg hq, hih]
theorem zip_seen (l : List S44) (i : Nat) : ((l.zipIdx i).filter fun x => x.1.f3.length == 0).map (fun x => x.2) = seenFrom i l := by
  induction l generalizing i with
  | nil => rfl
  | cons x l ih =>
    rw [List.zipIdx_cons, List.filter_cons]
    show List.map _ (if (x.f3.length == 0) = true then _ else _) = _
    unfold seenFrom
    by_cases h : x.f3.length = 0
    · rw [if_pos (by simpa using h), if_pos h, List.map_cons, ih]
    · rw [if_neg (by simpa using h), if_neg h, ih]
theorem zip_clips (l : List S44) (i : Nat) (f : Nat → El) (hf : ∀ j (h : j < l.length), (f (i + j)).rune = l[j].f2) : ((l.zipIdx i).filter fun x => x.1.f3.length == 0).map (fun x => clip (f x.2).rune) = clips l := by
  induction l generalizing i with
  | nil => rfl
  | cons x l ih =>
    have h0 : (f i).rune = x.f2 := hf 0 (by simp)
    have hih := ih (i + 1) (fun j hj => by have := hf (j + 1) (by simpa using hj); rw [show i + (j + 1) = i + 1 + j by omega] at this; exact this)
    rw [List.zipIdx_cons, List.filter_cons]
    unfold clips
    rw [List.filter_cons]
    show List.map _ (if (x.f3.length == 0) = true then _ else _) = List.map _ (if (x.f3.length == 0) = true then _ else _)
    by_cases h : (x.f3.length == 0) = true
    · rw [if_pos h, if_pos h, List.map_cons, List.map_cons, hih, h0]; rfl
    · rw [if_neg h, if_neg h, hih]; rfl
/-- What lies there, as the reading says it. -/
theorem els_of {w : World} {A : Option Addr} {l : List S44} (h : Kd.C k44 w A l.length l) : ∃ f : Nat → El, Els w.heap.size w A l.length f ∧ ∀ j (hj : j < l.length), (f j).n = l[j].f3.length ∧ (f j).rune = l[j].f2 := by
  have each : ∀ j, j < l.length → ∃ x : El, (∃ ad, A = some ad ∧ w.cell? (ad.add (j * 6)) = some (.int .i64 x.e0) ∧ w.cell? ⟨(ad.add (j * 6)).block, (ad.add (j * 6)).off + 1, none⟩ = some (.int .i64 x.e1) ∧ w.cell? ⟨(ad.add (j * 6)).block, (ad.add (j * 6)).off + 2, none⟩ = some (.int .i64 x.e2) ∧
      w.cell? ⟨(ad.add (j * 6)).block, (ad.add (j * 6)).off + 3, none⟩ = some (.int .i64 x.e3) ∧ w.cell? ⟨(ad.add (j * 6)).block, (ad.add (j * 6)).off + 4, none⟩ = some (.int .i64 x.rune) ∧ w.cell? ⟨(ad.add (j * 6)).block, (ad.add (j * 6)).off + 5, none⟩ = some (.slice x.ad x.n x.c)) ∧
      ∀ hj : j < l.length, x.n = l[j].f3.length ∧ x.rune = l[j].f2 := by
    intro j hj
    obtain ⟨ad, A5, c5, e, h0, h1, h2, h3, h4, h5, _, _⟩ := at_T44 h (j : Int) (by omega) (by omega)
    have hrd : rd_T44 l (j : Int) = l[j] := by unfold rd_T44; rw [Int.toNat_natCast, List.getD_eq_getElem?_getD, List.getElem?_eq_getElem hj]; rfl
    rw [hrd, Int.toNat_natCast] at h0 h1 h2 h3 h4 h5
    exact ⟨⟨l[j].f0.f0, l[j].f0.f1, l[j].f1.f0, l[j].f1.f1, l[j].f2, A5, l[j].f3.length, c5⟩, ⟨ad, e, h0, h1, h2, h3, h4, h5⟩, fun _ => ⟨rfl, rfl⟩⟩
  haveI : Inhabited El := ⟨⟨0, 0, 0, 0, 0, none, 0, 0⟩⟩
  obtain ⟨f, hf⟩ := Go.Deep.choose_lt each
  refine ⟨f, ?_, fun j hj => (hf j hj).2 hj⟩
  rcases Nat.eq_zero_or_pos l.length with h0 | h0
  · exact .inl h0
  · right
    obtain ⟨⟨ad, rfl, c0, _⟩, _⟩ := hf 0 h0
    obtain ⟨b, off, spot⟩ := ad
    have hspot : spot = none := by
      have := World.cell?_spot c0
      simpa [Addr.add] using this
    subst hspot
    refine ⟨b, off, rfl, ?_, fun j hj => ?_⟩
    · have := World.block_lt_of_cell? w _ c0
      simpa [Addr.add] using this
    · obtain ⟨⟨ad, e, q0, q1, q2, q3, q4, q5⟩, _⟩ := hf j hj
      obtain rfl := Option.some.inj e
      rw [Go.WideShapes.add_plain] at q0 q1 q2 q3 q4 q5
      exact ⟨q0, q1, q2, q3, q4, q5⟩
theorem came_places (l : List S44) (f : Nat → El) (hf : ∀ j (hj : j < l.length), (f j).n = l[j].f3.length) : places (came f l.length) = encs (Value.int .i64) (seenL l) := by
  unfold places came seenL encs
  rw [List.map_map, List.map_map, List.range_eq_range', range_filter_map l 0 _ _ (fun x => x.f3.length == 0) (fun j hj => by rw [Nat.zero_add, hf j hj]), ← zip_seen l 0, List.map_map]
  rfl
theorem came_runes (l : List S44) (f : Nat → El) (hf : ∀ j (hj : j < l.length), (f j).n = l[j].f3.length ∧ (f j).rune = l[j].f2) : It.runes (came f l.length) = clips l := by
  unfold It.runes came
  rw [List.map_map, List.range_eq_range', range_filter_map l 0 _ _ (fun x => x.f3.length == 0) (fun j hj => by rw [Nat.zero_add, (hf j hj).1])]
  exact zip_clips l 0 f (fun j hj => by rw [Nat.zero_add]; exact (hf j hj).2)
def view_Seen.f (l0 : List S44) : Option (List Int) := if l0.length * 48 ≤ 140737488351232 then some (seenL l0) else none
theorem view_Seen.calls (A0 : Option Addr) (c0 : Nat) (l0 : List S44) (r : List Int) (w : World) (hr0 : Kd.C k44 w A0 l0.length l0) (hc0 : l0.length ≤ c0) (h : view_Seen.f l0 = some r) :
    Calls Try.prog 17 #[.slice A0 l0.length c0] w fun e w' => ∃ v0_ : Value, e = .returned (v0_) ∧ Kd.R (Kd.int .i64) 3 w' w.heap.size (fun _ => True) v0_ r ∧ Below w.heap.size w w' := by
  unfold view_Seen.f at h
  by_cases hb : l0.length * 48 ≤ 140737488351232
  · rw [if_pos hb] at h
    obtain rfl := Option.some.inj h
    obtain ⟨f, hE, hf⟩ := els_of hr0
    refine (callsIn_wide (n := 3)).1 ((Seen_in _ 3 trivial trivial trivial rfl (by omega) A0 l0.length c0 f (by omega) w hE).mono ?_)
    rintro e W' ⟨v, rfl, ho, hB⟩
    rw [came_places l0 f (fun j hj => (hf j hj).1)] at ho
    have hl : (encs (Value.int .i64) (seenL l0)).length = (seenL l0).length := by simp [encs]
    rw [hl] at ho
    exact ⟨v, rfl, Kd.R_of_own ho (fun _ _ => trivial), hB⟩
  · rw [if_neg hb] at h; exact absurd h (by simp)
def view_Text.f (l0 : List S44) : Option ByteArray := if l0.length * 48 ≤ 140737488351232 then some (runesBytes (clips l0)) else none
theorem view_Text.calls (A0 : Option Addr) (c0 : Nat) (l0 : List S44) (r : ByteArray) (w : World) (hr0 : Kd.C k44 w A0 l0.length l0) (hc0 : l0.length ≤ c0) (h : view_Text.f l0 = some r) :
    Calls Try.prog 19 #[.slice A0 l0.length c0] w fun e w' => e = .returned (.string r) ∧ Below w.heap.size w w' := by
  unfold view_Text.f at h
  by_cases hb : l0.length * 48 ≤ 140737488351232
  · rw [if_pos hb] at h
    obtain rfl := Option.some.inj h
    obtain ⟨f, hE, hf⟩ := els_of hr0
    refine (callsIn_wide (n := 3)).1 ((Text_in _ 3 trivial trivial trivial rfl (by omega) A0 l0.length c0 f (by omega) w hE).mono ?_)
    rintro e W' ⟨rfl, hB⟩
    exact ⟨by rw [came_runes l0 f hf], hB⟩
  · rw [if_neg hb] at h; exact absurd h (by simp)
end Go.Proofs.Ytpclgafcldmchaa.Giv

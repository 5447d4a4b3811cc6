/- What LayoutCarets asks, in plain Lean. -/
import Derived.Test.YtoidlaonolkgkaaDoorGq
import Derived.Test.YtoidlaonolkgkaaDoorGv
set_option linter.unusedVariables false
set_option linter.unusedSimpArgs false
namespace Go.Proofs.YtoidlaonolkgkaaDoor.Ca
open Go.RowKit Go.Proofs.YtoidlaonolkgkaaDoor.Giv Go.Proofs.YtoidlaonolkgkaaDoor.Gr Go.Proofs.YtoidlaonolkgkaaDoor.Gl Go.Proofs.YtoidlaonolkgkaaDoor.Gn Go.Proofs.YtoidlaonolkgkaaDoor.Gy Go.Proofs.YtoidlaonolkgkaaDoor.Gz Go.Proofs.YtoidlaonolkgkaaDoor.Gp Go.Proofs.YtoidlaonolkgkaaDoor.Gk Go.Proofs.YtoidlaonolkgkaaDoor.Gb Go.Proofs.YtoidlaonolkgkaaDoor.Gq Go.Proofs.YtoidlaonolkgkaaDoor.P
theorem posL_col (width : Nat) (h2 : 2 ≤ width) (a : Pos) (x : Int) (h : a.2 ≤ width) : (posL width a x).2 ≤ width := by
  unfold posL
  have hw := width_le x
  split
  · exact h
  · exact (room_le width a _ h2 h (by omega)).1
theorem posR_col (width : Nat) (h2 : 2 ≤ width) (l : List Int) : ∀ a : Pos, a.2 ≤ width → (posR width a l).2 ≤ width := by
  induction l with
  | nil => intro a h; exact h
  | cons x l ih => intro a h; exact ih _ (posL_col width h2 a x h)
theorem run_n (width : Nat) (l : List Int) : ∀ s : LS, s.row < s.n → (runL width s l).row < (runL width s l).n := by
  induction l with
  | nil => intro s h; exact h
  | cons x l ih =>
    intro s h
    rw [runL_cons]
    exact ih _ (by have := layL_n width s x h; omega)
def lexLe (a b : Pos) : Prop := a.1 < b.1 ∨ (a.1 = b.1 ∧ a.2 ≤ b.2)
theorem room_up (width : Nat) (a : Pos) (w : Nat) : lexLe a (roomP width a w) := by
  unfold roomP lexLe
  split
  · exact .inl (Nat.lt_succ_self _)
  · exact .inr ⟨rfl, Nat.le_refl _⟩
theorem place_step (width : Nat) (a : Pos) (l : List Int) (j : Nat) (h : j < l.length) : lexLe (placeL width a l j) (placeL width a l (j + 1)) := by
  unfold placeL
  have hd : l.drop j = l[j] :: l.drop (j + 1) := List.drop_eq_getElem_cons h
  have ht : l.take (j + 1) = l.take j ++ [l[j]] := List.take_succ_eq_append_getElem h
  rw [ht, posR_append, hd]
  show lexLe _ (roomP width (posL width (posR width a (l.take j)) l[j]) (nextW (l.drop (j + 1))).toNat)
  by_cases h0 : widthN l[j] = 0
  · rw [nextW_zero _ _ h0]
    unfold posL
    rw [if_pos h0]
    exact .inr ⟨rfl, Nat.le_refl _⟩
  · rw [nextW_some _ _ h0]
    unfold posL
    rw [if_neg h0]
    have := room_up width ((roomP width (posR width a (l.take j)) (widthN l[j]).toNat).1, (roomP width (posR width a (l.take j)) (widthN l[j]).toNat).2 + (widthN l[j]).toNat) (nextW (l.drop (j + 1))).toNat
    unfold lexLe at *
    simp only at this ⊢
    omega
theorem place_up (width : Nat) (a : Pos) (l : List Int) : ∀ d j, j + d ≤ l.length → lexLe (placeL width a l j) (placeL width a l (j + d))
  | 0, j, h => .inr ⟨rfl, Nat.le_refl _⟩
  | d + 1, j, h => by
    have h1 := place_up width a l d j (by omega)
    have h2 := place_step width a l (j + d) (by omega)
    rw [show j + (d + 1) = j + d + 1 by omega]
    unfold lexLe at *
    omega
/-- What is known of the three pages. -/
structure Cts (wd ct : Nat) (ps ls : List Int) (w : Nat) : Prop where
  size : (finL wd ps ls 0 [(ct : Int)]).1.n ≤ 200
  row : (finL wd ps ls ct []).2.1 < (finL wd ps ls 0 [(ct : Int)]).1.n
  two : w = 1 ∨ w = 2
  fit : (finL wd ps ls ct []).2.2 + w ≤ wd
  mark : ∀ r k, ((finL wd ps ls 0 [(ct : Int)]).1.G r k).2 = true ↔ r = (finL wd ps ls ct []).2.1 ∧ (finL wd ps ls ct []).2.2 ≤ k ∧ k < (finL wd ps ls ct []).2.2 + w
  up : lexLe (finL wd ps ls ct []).2 (finL wd ps ls ((ct + 1 : Nat) : Int) []).2
theorem cts (wd ct : Nat) (h2 : 2 ≤ wd) (ps ls : List Int) (hc : ct < ls.length) (hn : (finL wd ps ls ct []).1.n ≤ 200) : ∃ w, Cts wd ct ps ls w := by
  have hst := run_n wd ps st0 (by decide)
  obtain ⟨C1, C2, C3, C4, C5⟩ := closed wd ct [] ls 0 (runL wd st0 ps) (0, 0) hst
  obtain ⟨D1, D2, D3, D4, D5⟩ := closed wd 0 [(ct : Int)] ls 0 (runL wd st0 ps) (0, 0) hst
  obtain ⟨_, _, _, _, E5⟩ := closed wd ((ct + 1 : Nat) : Int) [] ls 0 (runL wd st0 ps) (0, 0) hst
  have hfin : ∀ c os, finL wd ps ls c os = lineL wd c os 0 (runL wd st0 ps, (0, 0)) ls := fun _ _ => rfl
  rw [← hfin] at C1 C2 C3 C4 C5 D1 D2 D3 D4 D5 E5
  rw [if_pos (by omega), show ((ct : Int) - ((0 : Nat) : Int)).toNat = ct by omega] at C5
  rw [if_pos (by omega), show (((ct + 1 : Nat) : Int) - ((0 : Nat) : Int)).toNat = ct + 1 by omega] at E5
  have hcol : ((runL wd st0 ps).row, (runL wd st0 ps).col).2 ≤ wd := by
    rw [runL_pos]; exact posR_col wd h2 ps _ (Nat.zero_le _)
  have hw := nextW_range (ls.drop ct)
  have hrm := room_le wd (posR wd ((runL wd st0 ps).row, (runL wd st0 ps).col) (ls.take ct)) (nextW (ls.drop ct)).toNat h2 (posR_col wd h2 _ _ hcol) (by omega)
  have hP := (C4 200).1 hn
  have hPc := hP.2.2 ct (by omega) (.inr (by omega))
  have h0c := place_up wd ((runL wd st0 ps).row, (runL wd st0 ps).col) ls ct 0 (by omega)
  rw [Nat.zero_add] at h0c
  have hself := ((D4 _).1 (Nat.le_refl _)).2.2 ct (by omega) (.inl (by simp))
  refine ⟨(nextW (ls.drop ct)).toNat, ?_, ?_, by omega, ?_, fun r k => ?_, ?_⟩
  · rw [D4]
    have hrow : (finL wd ps ls 0 [(ct : Int)]).1.row = (finL wd ps ls ct []).1.row := by
      have := D1.trans C1.symm
      exact congrArg Prod.fst this
    refine ⟨hP.1, by rw [hrow]; exact hP.2.1, fun j hj h => ?_⟩
    rcases h with h | h
    · have hj2 : j = ct := by
        have := List.mem_singleton.1 h
        omega
      rw [hj2]; exact hPc
    · have hj2 : j = 0 := by omega
      rw [hj2]
      unfold lexLe at h0c
      omega
  · rw [C5]; exact hself
  · rw [C5]; exact hrm.1
  · rw [D3, C5]
    constructor
    · rintro (h | ⟨j, hj, h, h3⟩)
      · exfalso
        have hz : ∀ (l : List Int) (s : LS) (i k : Nat), ((runL wd s l).G i k).2 = (s.G i k).2 := by
          intro l
          induction l with
          | nil => intro s i k; rfl
          | cons x l ih => intro s i k; rw [runL_cons, ih, layL_mark]
        rw [hz] at h
        cases h
      · have hj2 : j = ct := by
          have := List.mem_singleton.1 h
          omega
        rw [hj2] at h3; exact h3
    · intro h
      exact .inr ⟨ct, by omega, by simp, h⟩
  · rw [C5, E5]
    exact place_step wd _ ls ct hc
/-- A cell that is marked. -/
def mkF (c : S47) : List Unit := if c.f1 = true then [()] else []
def cntM (rows : List (List S47)) : Nat := (rows.flatMap fun r => r.flatMap mkF).length
theorem flat_none {α β : Type} (f : α → List β) (l : List α) (h : ∀ x ∈ l, f x = []) : l.flatMap f = [] := List.flatMap_eq_nil_iff.2 h
theorem row_marks (wd C w : Nat) (r : Cells) (hf : C + w ≤ wd) (hw : w = 1 ∨ w = 2) (h : ∀ k, (r k).2 = true ↔ C ≤ k ∧ k < C + w) : ((rowS wd r).flatMap mkF).length = w := by
  have e : wd = C + w + (wd - (C + w)) := by omega
  have hoff : ∀ n (q : Cells), (∀ k, k < n → (q k).2 = false) → (rowS n q).flatMap mkF = [] := by
    intro n q hq
    unfold rowS
    rw [List.flatMap_map]
    refine flat_none _ _ (fun k hk => ?_)
    unfold mkF
    rw [if_neg (show ¬ (q k).2 = true by rw [hq k (List.mem_range.1 hk)]; exact Bool.false_ne_true)]
  have hno : ∀ k, ¬ (C ≤ k ∧ k < C + w) → (r k).2 = false := fun k hk => by
    cases hb : (r k).2 with
    | false => rfl
    | true => exact absurd ((h k).1 hb) hk
  rw [e, rowS_split, List.flatMap_append, hoff (wd - (C + w)) _ (fun k _ => hno _ (by omega)), List.append_nil, rowS_split, List.flatMap_append, hoff C r (fun k hk => hno k (by omega)), List.nil_append]
  have hy : ∀ k, C ≤ k → k < C + w → (r k).2 = true := fun k h1 h2 => (h k).2 ⟨h1, h2⟩
  rcases hw with rfl | rfl
  · rw [show (1 : Nat) = 0 + 1 from rfl, rowS_one]
    have := hy C (by omega) (by omega)
    simp [rowS, mkF, this]
  · rw [show (2 : Nat) = 0 + 1 + 1 from rfl, rowS_one, rowS_one]
    have h1 := hy C (by omega) (by omega)
    have h2 := hy (C + 1) (by omega) (by omega)
    simp [rowS, mkF, h1, h2]
theorem cntM_page {wd ct : Nat} {ps ls : List Int} {w : Nat} (h : Cts wd ct ps ls w) : cntM (gridL wd (finL wd ps ls 0 [(ct : Int)]).1.n (finL wd ps ls 0 [(ct : Int)]).1.G) = w := by
  have hR := h.row
  have hm := h.mark
  generalize (finL wd ps ls 0 [(ct : Int)]).1.n = n at *
  generalize (finL wd ps ls 0 [(ct : Int)]).1.G = G at *
  generalize hRe : (finL wd ps ls ct []).2.1 = R at *
  have hf := h.fit
  generalize (finL wd ps ls ct []).2.2 = C at *
  unfold cntM gridL
  rw [List.flatMap_map]
  have e : n = R + 1 + (n - (R + 1)) := by omega
  have hoff : ∀ i, i ≠ R → (rowS wd (G i)).flatMap mkF = [] := by
    intro i hi
    unfold rowS
    rw [List.flatMap_map]
    refine flat_none _ _ (fun k hk => ?_)
    unfold mkF
    rw [if_neg (fun q => hi ((hm i k).1 q).1)]
  rw [e, List.range_add, List.flatMap_append, List.range_succ, List.flatMap_append, flat_none _ (List.range R) (fun i hi => hoff i (by have := List.mem_range.1 hi; omega)), List.nil_append, List.flatMap_cons, List.flatMap_nil, List.append_nil,
    flat_none _ ((List.range (n - (R + 1))).map _) (fun i hi => by obtain ⟨k, _, rfl⟩ := List.mem_map.1 hi; exact hoff _ (by omega)), List.append_nil]
  exact row_marks wd C w (G R) hf h.two (fun k => by rw [hm]; omega)
end Go.Proofs.YtoidlaonolkgkaaDoor.Ca

/- What Lay's loops leave, in closed form: plain Lean. -/
import Derived.Test.YtoidlaonolkgkaaDoorGz
set_option linter.unusedVariables false
set_option linter.unusedSimpArgs false
namespace Go.Proofs.YtoidlaonolkgkaaDoor.Gp
open Go.RowKit Go.Proofs.YtoidlaonolkgkaaDoor.Giv Go.Proofs.YtoidlaonolkgkaaDoor.Gr Go.Proofs.YtoidlaonolkgkaaDoor.Gl Go.Proofs.YtoidlaonolkgkaaDoor.Gn Go.Proofs.YtoidlaonolkgkaaDoor.Gy Go.Proofs.YtoidlaonolkgkaaDoor.Gz
abbrev Pos := Nat × Nat
/-- The place behind a rune. -/
def posL (width : Nat) (a : Pos) (x : Int) : Pos := if widthN x = 0 then a else ((roomP width a (widthN x).toNat).1, (roomP width a (widthN x).toNat).2 + (widthN x).toNat)
def posR (width : Nat) (a : Pos) (l : List Int) : Pos := l.foldl (posL width) a
theorem layL_pos (width : Nat) (s : LS) (x : Int) : ((layL width s x).row, (layL width s x).col) = posL width (s.row, s.col) x := by
  unfold layL posL
  split <;> rfl
theorem posR_cons (width : Nat) (a : Pos) (x : Int) (l : List Int) : posR width a (x :: l) = posR width (posL width a x) l := rfl
theorem posR_append (width : Nat) (a : Pos) (l m : List Int) : posR width a (l ++ m) = posR width (posR width a l) m := by unfold posR; rw [List.foldl_append]
theorem runL_pos (width : Nat) (l : List Int) : ∀ s : LS, ((runL width s l).row, (runL width s l).col) = posR width (s.row, s.col) l := by
  induction l with
  | nil => intro s; rfl
  | cons x l ih =>
    intro s
    show ((runL width (layL width s x) l).row, (runL width (layL width s x) l).col) = _
    rw [ih, layL_pos, posR_cons]
theorem runL_cons (width : Nat) (s : LS) (x : Int) (l : List Int) : runL width s (x :: l) = runL width (layL width s x) l := rfl
theorem runL_append (width : Nat) (s : LS) (l m : List Int) : runL width s (l ++ m) = runL width (runL width s l) m := by unfold runL; rw [List.foldl_append]
/-- The runes that are laid, marks aside. -/
theorem layG_rune (G : Grd) (R C : Nat) (x w : Int) (i k : Nat) : (layG G R C x w i k).1 = if w = 2 ∧ i = R ∧ k = C + 1 then -1 else if i = R ∧ k = C then x else (G i k).1 := by
  unfold layG updG updR
  by_cases hw : w = 2
  · subst hw
    rw [if_pos rfl]
    by_cases hi : i = R
    · subst hi
      by_cases h1 : k = C + 1
      · subst h1; simp
      · by_cases h2 : k = C
        · subst h2; simp
        · simp [h1, h2]
    · simp [hi]
  · rw [if_neg hw]
    by_cases hi : i = R
    · subst hi
      by_cases h2 : k = C
      · subst h2; simp [hw]
      · simp [h2, hw]
    · simp [hi]
theorem layG_mark (G : Grd) (R C : Nat) (x w : Int) (i k : Nat) : (layG G R C x w i k).2 = (G i k).2 := by
  unfold layG updG updR
  by_cases hw : w = 2
  · rw [if_pos hw]
    by_cases hi : i = R
    · subst hi
      by_cases h1 : k = C + 1
      · subst h1; simp
      · by_cases h2 : k = C
        · subst h2; simp
        · simp [h1, h2]
    · simp [hi]
  · rw [if_neg hw]
    by_cases hi : i = R
    · subst hi
      by_cases h2 : k = C
      · subst h2; simp
      · simp [h2]
    · simp [hi]
theorem marks_rune (G : Grd) (R C : Nat) : ∀ (n i k : Nat), (marks G R C n i k).1 = (G i k).1
  | 0, _, _ => rfl
  | n + 1, i, k => by
    unfold marks markG updG updM
    have ih := marks_rune G R C n
    by_cases hi : i = R
    · subst hi
      by_cases hk : k = C + n
      · subst hk; simp [ih]
      · simp [hk, ih]
    · simp [hi, ih]
theorem marks_mark (G : Grd) (R C : Nat) : ∀ (n i k : Nat), (marks G R C n i k).2 = ((G i k).2 || decide (i = R ∧ C ≤ k ∧ k < C + n))
  | 0, i, k => by unfold marks; rw [decide_eq_false (by omega), Bool.or_false]
  | n + 1, i, k => by
    unfold marks markG updG updM
    have ih := marks_mark G R C n
    by_cases hi : i = R
    · subst hi
      by_cases hk : k = C + n
      · subst hk; simp
      · rw [if_pos rfl, if_neg hk, ih]
        congr 1
        exact decide_eq_decide.2 (by omega)
    · rw [if_neg hi, ih, decide_eq_false (by omega), decide_eq_false (by omega)]
/-- The place of the caret ahead of the rune j. -/
def placeL (width : Nat) (a : Pos) (l : List Int) (j : Nat) : Pos := roomP width (posR width a (l.take j)) (nextW (l.drop j)).toNat
theorem placeL_zero (width : Nat) (a : Pos) (l : List Int) : placeL width a l 0 = roomP width a (nextW l).toNat := rfl
theorem placeL_succ (width : Nat) (a : Pos) (x : Int) (l : List Int) (j : Nat) : placeL width a (x :: l) (j + 1) = placeL width (posL width a x) l j := rfl
def sameR (G H : Grd) : Prop := ∀ i k, (G i k).1 = (H i k).1
theorem layL_rune {width : Nat} {s t : LS} (h : sameR s.G t.G) (hr : s.row = t.row) (hc : s.col = t.col) (x : Int) : sameR (layL width s x).G (layL width t x).G := by
  unfold layL
  by_cases h0 : widthN x = 0
  · rw [if_pos h0, if_pos h0]; exact h
  · rw [if_neg h0, if_neg h0]
    intro i k
    simp only [layG_rune, hr, hc]
    rw [h i k]
theorem runL_rune {width : Nat} (l : List Int) : ∀ {s t : LS}, sameR s.G t.G → s.row = t.row → s.col = t.col → sameR (runL width s l).G (runL width t l).G := by
  induction l with
  | nil => intro s t h _ _; exact h
  | cons x l ih =>
    intro s t h hr hc
    have hp := layL_pos width s x
    have hq := layL_pos width t x
    rw [← hr, ← hc, ← hp] at hq
    injection hq with q1 q2
    exact ih (layL_rune h hr hc x) q1.symm q2.symm
theorem spot_G (width : Nat) (s : LS) (l : List Int) (m c : Bool) : sameR (spot width s l m c).G s.G := by
  unfold spot
  split
  · split
    · exact fun i k => marks_rune _ _ _ _ i k
    · exact fun i k => rfl
  · exact fun i k => rfl
theorem spot_pos (width : Nat) (s : LS) (l : List Int) (m c : Bool) : (spot width s l m c).row = s.row ∧ (spot width s l m c).col = s.col := by
  unfold spot
  split <;> exact ⟨rfl, rfl⟩
theorem spot_mark (width : Nat) (s : LS) (l : List Int) (m c : Bool) (i k : Nat) : ((spot width s l m c).G i k).2 = ((s.G i k).2 || (m && decide (i = (caretP width s l).1 ∧ (caretP width s l).2 ≤ k ∧ k < (caretP width s l).2 + (nextW l).toNat))) := by
  unfold spot
  cases m
  · cases c <;> simp
  · simp [marks_mark]
theorem spot_n (width : Nat) (s : LS) (l : List Int) (m c : Bool) : (spot width s l m c).n = if m || c then max s.n ((caretP width s l).1 + 1) else s.n := by
  unfold spot
  split <;> rfl
theorem layL_mark (width : Nat) (s : LS) (x : Int) (i k : Nat) : ((layL width s x).G i k).2 = (s.G i k).2 := by
  unfold layL
  split
  · rfl
  · exact layG_mark _ _ _ _ _ i k
theorem layL_n (width : Nat) (s : LS) (x : Int) (h : s.row < s.n) : (layL width s x).n = max s.n ((layL width s x).row + 1) := by
  unfold layL
  split
  · show s.n = max s.n (s.row + 1); omega
  · rfl
theorem posL_row (width : Nat) (a : Pos) (x : Int) : a.1 ≤ (posL width a x).1 := by
  unfold posL roomP
  split
  · exact Nat.le_refl _
  · split
    · exact Nat.le_succ _
    · exact Nat.le_refl _
theorem posR_row (width : Nat) (l : List Int) : ∀ a : Pos, a.1 ≤ (posR width a l).1 := by
  induction l with
  | nil => intro a; exact Nat.le_refl _
  | cons x l ih => intro a; exact Nat.le_trans (posL_row width a x) (ih _)
theorem layL_row (width : Nat) (s : LS) (x : Int) : s.row ≤ (layL width s x).row := by
  have h := posL_row width (s.row, s.col) x
  rw [← layL_pos] at h
  exact h
/-- What the line's loop leaves. -/
structure Closed (width : Nat) (caret : Int) (os : List Int) (i : Nat) (s : LS) (at' : Pos) (l : List Int) (t : LS × Pos) : Prop where
  pos : (t.1.row, t.1.col) = posR width (s.row, s.col) l
  rune : sameR t.1.G (runL width s l).G
  mark : ∀ r k, (t.1.G r k).2 = true ↔ (s.G r k).2 = true ∨ ∃ j, j ≤ l.length ∧ ((i + j : Nat) : Int) ∈ os ∧ r = (placeL width (s.row, s.col) l j).1 ∧ (placeL width (s.row, s.col) l j).2 ≤ k ∧ k < (placeL width (s.row, s.col) l j).2 + (nextW (l.drop j)).toNat
  size : ∀ N, t.1.n ≤ N ↔ s.n ≤ N ∧ t.1.row + 1 ≤ N ∧ ∀ j, j ≤ l.length → (((i + j : Nat) : Int) ∈ os ∨ ((i + j : Nat) : Int) = caret) → (placeL width (s.row, s.col) l j).1 + 1 ≤ N
  spot : t.2 = if (i : Int) ≤ caret ∧ caret ≤ ((i + l.length : Nat) : Int) then placeL width (s.row, s.col) l (caret - i).toNat else at'
theorem closed (width : Nat) (caret : Int) (os : List Int) (l : List Int) : ∀ (i : Nat) (s : LS) (at' : Pos), s.row < s.n → Closed width caret os i s at' l (lineL width caret os i (s, at') l) := by
  induction l with
  | nil =>
    intro i s at' hn
    unfold lineL
    dsimp only
    have hsp := spot_pos width s [] (os.contains (i : Int)) ((i : Int) == caret)
    have hpl : placeL width (s.row, s.col) [] 0 = caretP width s [] := rfl
    refine ⟨by show (_, _) = (s.row, s.col); rw [hsp.1, hsp.2], spot_G _ _ _ _ _, fun r k => ?_, fun N => ?_, ?_⟩
    · rw [spot_mark, Bool.or_eq_true, Bool.and_eq_true, List.contains_iff_mem, decide_eq_true_eq]
      constructor
      · rintro (h | h)
        · exact .inl h
        · exact .inr ⟨0, Nat.le_refl _, h.1, by rw [hpl]; exact h.2⟩
      · rintro (h | ⟨j, hj, h⟩)
        · exact .inl h
        · obtain rfl : j = 0 := by simpa using hj
          exact .inr ⟨h.1, by rw [hpl] at h; exact h.2⟩
    · rw [spot_n, hsp.1]
      by_cases hc : (os.contains (i : Int) || (i : Int) == caret) = true
      · rw [if_pos hc]
        rw [Bool.or_eq_true, List.contains_iff_mem, beq_iff_eq] at hc
        constructor
        · intro h
          refine ⟨by omega, by omega, fun j hj _ => ?_⟩
          obtain rfl : j = 0 := by simpa using hj
          rw [hpl]; omega
        · rintro ⟨h1, h2, h3⟩
          have := h3 0 (Nat.le_refl _) hc
          rw [hpl] at this; omega
      · rw [if_neg hc]
        rw [Bool.or_eq_true, List.contains_iff_mem, beq_iff_eq] at hc
        constructor
        · intro h
          refine ⟨h, by omega, fun j hj h5 => ?_⟩
          obtain rfl : j = 0 := by simpa using hj
          exact absurd h5 hc
        · exact fun h => h.1
    · by_cases hc : (i : Int) = caret
      · subst hc
        simp [hpl]
      · rw [if_neg (by simpa using hc), if_neg (by simp; omega)]
  | cons x l ih =>
    intro i s at' hn
    unfold lineL
    dsimp only
    obtain ⟨s1, hs1⟩ : ∃ s1, s1 = spot width s (x :: l) (os.contains (i : Int)) ((i : Int) == caret) := ⟨_, rfl⟩
    have hsp := spot_pos width s (x :: l) (os.contains (i : Int)) ((i : Int) == caret)
    have hsm := spot_mark width s (x :: l) (os.contains (i : Int)) ((i : Int) == caret)
    have hsn := spot_n width s (x :: l) (os.contains (i : Int)) ((i : Int) == caret)
    have hsg := spot_G width s (x :: l) (os.contains (i : Int)) ((i : Int) == caret)
    rw [← hs1] at hsp hsm hsn hsg ⊢
    have hpl : placeL width (s.row, s.col) (x :: l) 0 = caretP width s (x :: l) := rfl
    have hn1 : s1.row < s1.n := by rw [hsp.1, hsn]; split <;> omega
    have hp1 : ((layL width s1 x).row, (layL width s1 x).col) = posL width (s.row, s.col) x := by rw [layL_pos, hsp.1, hsp.2]
    have hln := layL_n width s1 x hn1
    have hlr := layL_row width s1 x
    obtain ⟨C1, C2, C3, C4, C5⟩ := ih (i + 1) (layL width s1 x) (if (i : Int) == caret then caretP width s (x :: l) else at') (by rw [hln]; omega)
    rw [hp1] at C1 C3 C4 C5
    generalize lineL width caret os (i + 1) (layL width s1 x, if (i : Int) == caret then caretP width s (x :: l) else at') l = t at C1 C2 C3 C4 C5 ⊢
    refine ⟨C1, fun a b => (C2 a b).trans (runL_rune l (layL_rune hsg hsp.1 hsp.2 x) ?_ ?_ a b), fun r k => ?_, fun N => ?_, ?_⟩
    · have := layL_pos width s x
      rw [← hp1] at this; injection this with a b; exact a.symm
    · have := layL_pos width s x
      rw [← hp1] at this; injection this with a b; exact b.symm
    · rw [C3, layL_mark, hsm, Bool.or_eq_true, Bool.and_eq_true, List.contains_iff_mem, decide_eq_true_eq]
      constructor
      · rintro ((h | h) | ⟨j, hj, h1, h2⟩)
        · exact .inl h
        · exact .inr ⟨0, Nat.zero_le _, h.1, by rw [hpl]; exact h.2⟩
        · exact .inr ⟨j + 1, Nat.succ_le_succ hj, by rw [show i + (j + 1) = i + 1 + j by omega]; exact h1, h2⟩
      · rintro (h | ⟨j, hj, h1, h2⟩)
        · exact .inl (.inl h)
        · cases j with
          | zero => exact .inl (.inr ⟨h1, by rw [hpl] at h2; exact h2⟩)
          | succ j => exact .inr ⟨j, Nat.le_of_succ_le_succ hj, by rw [show i + 1 + j = i + (j + 1) by omega]; exact h1, h2⟩
    · rw [C4, hln]
      have hrow : (layL width s1 x).row ≤ t.1.row := by
        have h9 := posR_row width l (posL width (s.row, s.col) x)
        rw [← C1] at h9
        rw [← hp1] at h9; exact h9
      have hs1n : s1.n ≤ N ↔ s.n ≤ N ∧ ((((i : Nat) : Int) ∈ os ∨ ((i : Nat) : Int) = caret) → (placeL width (s.row, s.col) (x :: l) 0).1 + 1 ≤ N) := by
        rw [hsn, hpl]
        by_cases hc : (os.contains (i : Int) || (i : Int) == caret) = true
        · rw [if_pos hc]
          rw [Bool.or_eq_true, List.contains_iff_mem, beq_iff_eq] at hc
          exact ⟨fun h => ⟨by omega, fun _ => by omega⟩, fun h => by have := h.2 hc; omega⟩
        · rw [if_neg hc]
          rw [Bool.or_eq_true, List.contains_iff_mem, beq_iff_eq] at hc
          exact ⟨fun h => ⟨h, fun h5 => absurd h5 hc⟩, fun h => h.1⟩
      constructor
      · rintro ⟨h1, h2, h3⟩
        have h4 := hs1n.1 (by omega)
        refine ⟨h4.1, h2, fun j hj h5 => ?_⟩
        cases j with
        | zero => exact h4.2 h5
        | succ j => exact h3 j (Nat.le_of_succ_le_succ hj) (by rw [show i + 1 + j = i + (j + 1) by omega]; exact h5)
      · rintro ⟨h1, h2, h3⟩
        have h4 := hs1n.2 ⟨h1, fun h5 => h3 0 (Nat.zero_le _) h5⟩
        refine ⟨by omega, h2, fun j hj h5 => ?_⟩
        exact h3 (j + 1) (Nat.succ_le_succ hj) (by rw [show i + (j + 1) = i + 1 + j by omega]; exact h5)
    · rw [C5]
      by_cases hc : (i : Int) = caret
      · subst hc
        rw [if_neg (by omega), if_pos (by simp), if_pos (by rw [List.length_cons]; omega), show ((i : Int) - (i : Int)).toNat = 0 by omega, hpl]
      · rw [if_neg (show ¬ ((i : Int) == caret) = true by simpa using hc)]
        by_cases h2 : (((i + 1 : Nat) : Int) ≤ caret ∧ caret ≤ ((i + 1 + l.length : Nat) : Int))
        · rw [if_pos h2, if_pos (by rw [List.length_cons]; omega)]
          rw [show (caret - (i : Int)).toNat = (caret - ((i + 1 : Nat) : Int)).toNat + 1 by omega, placeL_succ]
        · rw [if_neg h2, if_neg (by rw [List.length_cons]; omega)]
end Go.Proofs.YtoidlaonolkgkaaDoor.Gp

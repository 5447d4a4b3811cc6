/- The rows that Lay leaves: each may be; and what is told by their cells, one behind the other. Plain Lean. -/
import Derived.Test.YtoidlaonolkgkaaDoorGp
import Derived.Test.YtoidlaonolkgkaaDoorGk
set_option linter.unusedVariables false
set_option linter.unusedSimpArgs false
namespace Go.Proofs.YtoidlaonolkgkaaDoor.Gq
open Go.RowKit Go.Proofs.YtoidlaonolkgkaaDoor.Giv Go.Proofs.YtoidlaonolkgkaaDoor.Gr Go.Proofs.YtoidlaonolkgkaaDoor.Gl Go.Proofs.YtoidlaonolkgkaaDoor.Gn Go.Proofs.YtoidlaonolkgkaaDoor.Gy Go.Proofs.YtoidlaonolkgkaaDoor.Gz Go.Proofs.YtoidlaonolkgkaaDoor.Gp Go.Proofs.YtoidlaonolkgkaaDoor.Gk Go.Proofs.YtoidlaonolkgkaaDoor.Gc Go.Proofs.YtoidlaonolkgkaaDoor.P
abbrev Cells := Nat → Int × Bool
theorem rowS_split (a b : Nat) (r : Cells) : rowS (a + b) r = rowS a r ++ rowS b (fun k => r (a + k)) := by
  unfold rowS
  rw [List.range_add, List.map_append, List.map_map]; rfl
theorem rowS_one (a : Nat) (r : Cells) : rowS (a + 1) r = rowS a r ++ [⟨(r a).1, (r a).2⟩] := by
  unfold rowS; rw [List.range_succ, List.map_append]; rfl
theorem rowS_congr (a : Nat) (r r' : Cells) (h : ∀ k, k < a → r k = r' k) : rowS a r = rowS a r' := by
  unfold rowS
  apply List.map_congr_left
  intro k hk
  rw [h k (List.mem_range.1 hk)]
theorem go_false (pm pm' : Bool) (l : List S47) : rowGo false pm l = rowGo false pm' l := by
  cases l with
  | nil => rfl
  | cons c l => unfold rowGo cellBad; simp
theorem width_zero : widthN 0 = 0 := by decide
theorem width_half : widthN (-1) = 0 := by decide
theorem go_zero (l : List S47) (h : ∀ c ∈ l, c.f0 = 0) : ∀ pm, rowGo false pm l = true := by
  induction l with
  | nil => intro pm; rfl
  | cons c l ih =>
    intro pm
    have hc := h c (List.mem_cons_self ..)
    unfold rowGo cellBad
    rw [hc, width_zero]
    simp [ih (fun d hd => h d (List.mem_cons_of_mem _ hd))]
theorem go_one (x : Int) (m pm : Bool) (l : List S47) (h : widthN x = 1) : rowGo false pm (⟨x, m⟩ :: l) = rowGo false false l := by
  have h1 : x ≠ -1 := fun e => by rw [e, width_half] at h; exact absurd h (by decide)
  rw [rowGo]
  unfold cellBad
  simp [h, h1, go_false m false]
theorem go_two (x : Int) (m pm : Bool) (l : List S47) (h : widthN x = 2) : rowGo false pm (⟨x, m⟩ :: ⟨-1, m⟩ :: l) = rowGo false false l := by
  have h1 : x ≠ -1 := fun e => by rw [e, width_half] at h; exact absurd h (by decide)
  rw [rowGo, rowGo]
  unfold cellBad
  simp [h, h1, width_half, go_false m false]
def rowR (s : LS) : Nat := s.row
/-- The rows may be, all but the one where the next is laid: that one may be as far as it is filled. -/
structure NiceAt (width : Nat) (G : Grd) (R C w : Nat) : Prop where
  full : ∀ i, i ≠ R → rowGo false false (rowS width (G i)) = true
  pre : ∀ t, rowGo false false (rowS C (G R) ++ t) = rowGo false false t
  rest : ∀ k, C ≤ k → (G R k).1 = 0
  pend : ∃ b, ∀ k, C ≤ k → k < C + w → (G R k).2 = b
  clear : ∀ k, C + w ≤ k → G R k = (0, false)
  far : ∀ i, R < i → ∀ k, G i k = (0, false)
  fit : C + w ≤ width
def Nice (width : Nat) (s : LS) (l : List Int) : Prop := NiceAt width s.G (caretP width s l).1 (caretP width s l).2 (nextW l).toNat
theorem zeros_ok (width : Nat) (r : Cells) (h : ∀ k, (r k).1 = 0) (pm : Bool) : rowGo false pm (rowS width r) = true := by
  refine go_zero _ (fun c hc => ?_) pm
  unfold rowS at hc
  obtain ⟨k, _, rfl⟩ := List.mem_map.1 hc
  exact h k
theorem NiceAt.all {width : Nat} {G : Grd} {R C w : Nat} (h : NiceAt width G R C w) (i : Nat) : rowGo false false (rowS width (G i)) = true := by
  by_cases hi : i = R
  · subst hi
    have e : width = C + (width - C) := by have := h.fit; omega
    rw [e, rowS_split, h.pre]
    exact zeros_ok _ _ (fun k => h.rest (C + k) (by omega)) false
  · exact h.full i hi
theorem nice_mark {width : Nat} {G : Grd} {R C w : Nat} (h : NiceAt width G R C w) : NiceAt width (marks G R C w) R C w := by
  have hne : ∀ i, i ≠ R → marks G R C w i = G i := fun i hi => by
    funext k
    apply Prod.ext
    · exact marks_rune G R C w i k
    · rw [marks_mark, decide_eq_false (by omega), Bool.or_false]
  refine ⟨fun i hi => ?_, fun t => ?_, fun k hk => by rw [marks_rune]; exact h.rest k hk, ⟨true, fun k h1 h2 => by rw [marks_mark, decide_eq_true (by omega), Bool.or_true]⟩, fun k hk => ?_, fun i hi k => ?_, h.fit⟩
  · rw [hne i hi]; exact h.full i hi
  · rw [rowS_congr C (marks G R C w R) (G R) (fun k hk => Prod.ext (marks_rune G R C w R k) (by rw [marks_mark, decide_eq_false (by omega), Bool.or_false]))]
    exact h.pre t
  · have := h.clear k hk
    exact Prod.ext (by rw [marks_rune, this]) (by rw [marks_mark, this, decide_eq_false (by omega)]; rfl)
  · rw [hne i (by omega)]; exact h.far i hi k
theorem Nice.spot {width : Nat} {s : LS} {l : List Int} (h : Nice width s l) (m c : Bool) : Nice width (spot width s l m c) l := by
  have hp := spot_pos width s l m c
  have hcp : caretP width (Gy.spot width s l m c) l = caretP width s l := by unfold caretP; rw [hp.1, hp.2]
  unfold Nice at *
  rw [hcp]
  unfold Gy.spot
  split
  · split
    · exact nice_mark h
    · exact h
  · exact h
theorem layG_ne (G : Grd) (R C : Nat) (x w : Int) (i : Nat) (h : i ≠ R) : layG G R C x w i = G i := by
  funext k
  apply Prod.ext
  · rw [layG_rune, if_neg (by omega), if_neg (by omega)]
  · exact layG_mark G R C x w i k
theorem layG_keep (G : Grd) (R C : Nat) (x w : Int) (k : Nat) (h : k < C ∨ C + w.toNat ≤ k) (hw : w = 1 ∨ w = 2) : layG G R C x w R k = G R k := by
  apply Prod.ext
  · rw [layG_rune, if_neg (by omega), if_neg (by omega)]
  · exact layG_mark G R C x w R k
/-- The cells of a rune that is laid. -/
def cellsR (x : Int) (m : Bool) : List S47 := if widthN x = 2 then [⟨x, m⟩, ⟨-1, m⟩] else [⟨x, m⟩]
theorem laid_row (G : Grd) (R C : Nat) (x : Int) (b : Bool) (hx : widthN x = 1 ∨ widthN x = 2) (hb : ∀ k, C ≤ k → k < C + (widthN x).toNat → (G R k).2 = b) :
    rowS (C + (widthN x).toNat) (layG G R C x (widthN x) R) = rowS C (G R) ++ cellsR x b := by
  have hpre : rowS C (layG G R C x (widthN x) R) = rowS C (G R) := rowS_congr _ _ _ (fun k hk => layG_keep G R C x _ k (.inl hk) hx)
  unfold cellsR
  rcases hx with h | h
  · rw [h] at hpre hb ⊢
    rw [if_neg (by decide), show C + (1 : Int).toNat = C + 1 from rfl, rowS_one, hpre, layG_rune, layG_mark, if_neg (by omega), if_pos ⟨rfl, rfl⟩, hb C (Nat.le_refl _) (by omega)]
  · rw [h] at hpre hb ⊢
    rw [if_pos rfl, show C + (2 : Int).toNat = C + 1 + 1 from rfl, rowS_one, rowS_one, hpre, layG_rune, layG_mark, layG_rune, layG_mark, if_neg (by omega), if_pos ⟨rfl, rfl⟩, if_pos ⟨rfl, rfl, rfl⟩, hb C (Nat.le_refl _) (by omega), hb (C + 1) (by omega) (by omega), List.append_assoc]
    rfl
theorem cells_go (x : Int) (m : Bool) (t : List S47) (hx : widthN x = 1 ∨ widthN x = 2) : rowGo false false (cellsR x m ++ t) = rowGo false false t := by
  unfold cellsR
  rcases hx with h | h
  · rw [h, if_neg (by decide)]; exact go_one x m false t h
  · rw [h, if_pos rfl]; exact go_two x m false t h
theorem nextW_zero (x : Int) (l : List Int) (h : widthN x = 0) : nextW (x :: l) = nextW l := by
  conv => lhs; unfold nextW
  rw [h, if_neg (by decide)]
theorem nextW_some (x : Int) (l : List Int) (h : widthN x ≠ 0) : nextW (x :: l) = widthN x := by
  unfold nextW
  have := width_le x
  rw [if_pos (by omega)]
theorem Nice.lay {width : Nat} {s : LS} {x : Int} {l : List Int} (h2 : 2 ≤ width) (h : Nice width s (x :: l)) : Nice width (layL width s x) l := by
  by_cases h0 : widthN x = 0
  · have e : layL width s x = s := by unfold layL; rw [if_pos h0]
    rw [e]
    unfold Nice caretP at *
    rw [nextW_zero x l h0] at h
    exact h
  · have hx : widthN x = 1 ∨ widthN x = 2 := by have := width_le x; omega
    unfold Nice at h
    have hc : caretP width s (x :: l) = roomP width (s.row, s.col) (widthN x).toNat := by unfold caretP; rw [nextW_some x l h0]
    rw [nextW_some x l h0, hc] at h
    obtain ⟨R, C, hRC⟩ : ∃ R C, roomP width (s.row, s.col) (widthN x).toNat = (R, C) := ⟨_, _, rfl⟩
    rw [hRC] at h
    have e : layL width s x = ⟨R, C + (widthN x).toNat, max s.n (R + 1), layG s.G R C x (widthN x)⟩ := by unfold layL; rw [if_neg h0, hRC]
    obtain ⟨w', hw', hw2⟩ : ∃ w', w' = (nextW l).toNat ∧ w' ≤ 2 := ⟨_, rfl, by have := nextW_range l; omega⟩
    obtain ⟨b, hb⟩ := h.pend
    have hrow := laid_row s.G R C x b hx hb
    unfold Nice caretP
    rw [e, ← hw']
    simp only at h ⊢
    unfold roomP
    by_cases hwr : width < C + (widthN x).toNat + w'
    · rw [if_pos hwr]
      refine ⟨fun i hi => ?_, fun t => rfl, fun k _ => ?_, ⟨false, fun k _ _ => ?_⟩, fun k _ => ?_, fun i hi k => ?_, by simp only; omega⟩
      · by_cases hiR : i = R
        · subst hiR
          have hf := h.fit
          have e2 : width = C + (widthN x).toNat + (width - (C + (widthN x).toNat)) := by omega
          rw [e2, rowS_split, hrow, List.append_assoc, h.pre, cells_go x b _ hx]
          exact zeros_ok _ _ (fun k => by rw [layG_keep _ _ _ _ _ _ (.inr (by omega)) hx, h.clear _ (by omega)]) false
        · rw [layG_ne _ _ _ _ _ _ hiR]; exact h.full i hiR
      · rw [layG_ne _ _ _ _ _ _ (by omega), h.far _ (by omega)]
      · rw [layG_ne _ _ _ _ _ _ (by omega), h.far _ (by omega)]
      · rw [layG_ne _ _ _ _ _ _ (by omega), h.far _ (by omega)]
      · simp only at hi
        rw [layG_ne _ _ _ _ _ _ (by omega), h.far _ (by omega)]
    · rw [if_neg hwr]
      refine ⟨fun i hi => ?_, fun t => ?_, fun k hk => ?_, ⟨false, fun k hk _ => ?_⟩, fun k hk => ?_, fun i hi k => ?_, by simp only; omega⟩
      · rw [layG_ne _ _ _ _ _ _ hi]; exact h.full i hi
      · simp only
        rw [hrow, List.append_assoc, h.pre, cells_go x b _ hx]
      · simp only at hk
        rw [layG_keep _ _ _ _ _ _ (.inr hk) hx, h.clear _ hk]
      · simp only at hk
        rw [layG_keep _ _ _ _ _ _ (.inr hk) hx, h.clear _ hk]
      · simp only at hk
        rw [layG_keep _ _ _ _ _ _ (.inr (by omega)) hx, h.clear _ (by omega)]
      · simp only at hi
        rw [layG_ne _ _ _ _ _ _ (by omega), h.far _ hi]
theorem nice_st0 (width : Nat) (h2 : 2 ≤ width) (l : List Int) : Nice width st0 l := by
  have hw := nextW_range l
  have hc : caretP width st0 l = (0, 0) := by
    unfold caretP roomP st0
    rw [if_neg (by simp only; omega)]
  unfold Nice
  rw [hc]
  exact ⟨fun i _ => zeros_ok _ _ (fun _ => rfl) false, fun t => rfl, fun _ _ => rfl, ⟨false, fun _ _ _ => rfl⟩, fun _ _ => rfl, fun _ _ _ => rfl, by simp only; omega⟩
theorem nice_run (width : Nat) (h2 : 2 ≤ width) (ps : List Int) : ∀ (s : LS) (l : List Int), Nice width s (ps ++ l) → Nice width (runL width s ps) l := by
  induction ps with
  | nil => intro s l h; exact h
  | cons x ps ih => intro s l h; exact ih _ _ (Nice.lay h2 h)
theorem nice_line (width : Nat) (h2 : 2 ≤ width) (caret : Int) (os : List Int) (l : List Int) : ∀ (i : Nat) (s : LS) (at' : Pos), Nice width s l → Nice width (lineL width caret os i (s, at') l).1 [] := by
  induction l with
  | nil =>
    intro i s at' h
    unfold lineL
    exact h.spot _ _
  | cons x l ih =>
    intro i s at' h
    unfold lineL
    exact ih _ _ _ (Nice.lay h2 (h.spot _ _))
/-- Each row that Lay leaves may be. -/
theorem rows_ok (width : Nat) (h2 : 2 ≤ width) (ps ls : List Int) (caret : Int) (os : List Int) (i : Nat) : rowGo false false (rowS width ((lineL width caret os 0 (runL width st0 ps, (0, 0)) ls).1.G i)) = true :=
  (nice_line width h2 caret os ls 0 _ _ (nice_run width h2 ps st0 ls (nice_st0 width h2 _))).all i
/-! What is told by the cells, row by row. -/
section
variable {β : Type} (φ : S47 → List β)
def tellG (width N : Nat) (G : Grd) : List β := (List.range N).flatMap fun i => (rowS width (G i)).flatMap φ
/-- What a rune that is laid tells. -/
def tellR (x : Int) : List β := if widthN x = 0 then [] else (cellsR x false).flatMap φ
variable (h0 : ∀ m, φ ⟨0, m⟩ = []) (hm : ∀ x m, φ ⟨x, m⟩ = φ ⟨x, false⟩)
include h0 in
theorem tell_zero (width : Nat) (r : Cells) (h : ∀ k, (r k).1 = 0) : (rowS width r).flatMap φ = [] := by
  unfold rowS
  rw [List.flatMap_map, List.flatMap_eq_nil_iff]
  intro k _
  rw [h k]; exact h0 _
include hm in
theorem tell_cells (x : Int) (m : Bool) : (cellsR x m).flatMap φ = (cellsR x false).flatMap φ := by
  unfold cellsR
  split
  · simp only [List.flatMap_cons, List.flatMap_nil]; rw [hm x m, hm (-1) m]
  · simp only [List.flatMap_cons, List.flatMap_nil]; rw [hm x m]
include h0 in
theorem tell_at (width N : Nat) (G : Grd) (R C : Nat) (hR : R < N) (hC : C ≤ width) (hrest : ∀ k, C ≤ k → (G R k).1 = 0) (hfar : ∀ i, R < i → ∀ k, (G i k).1 = 0) :
    tellG φ width N G = ((List.range R).flatMap fun i => (rowS width (G i)).flatMap φ) ++ (rowS C (G R)).flatMap φ := by
  unfold tellG
  have e : N = R + 1 + (N - (R + 1)) := by omega
  rw [e, List.range_add, List.flatMap_append, List.range_succ, List.flatMap_append, List.append_assoc]
  congr 1
  have z : ((List.range (N - (R + 1))).map fun k => R + 1 + k).flatMap (fun i => (rowS width (G i)).flatMap φ) = [] := by
    rw [List.flatMap_eq_nil_iff]
    intro i hi
    obtain ⟨k, _, rfl⟩ := List.mem_map.1 hi
    exact tell_zero φ h0 _ _ (fun j => hfar _ (by omega) j)
  rw [z, List.append_nil, List.flatMap_cons, List.flatMap_nil, List.append_nil]
  have e2 : width = C + (width - C) := by omega
  rw [e2, rowS_split, List.flatMap_append, tell_zero φ h0 (width - C) (fun k => G R (C + k)) (fun j => hrest _ (by omega)), List.append_nil]
theorem tell_same (width N : Nat) (G H : Grd) (hm : ∀ x m, φ ⟨x, m⟩ = φ ⟨x, false⟩) (h : sameR G H) : tellG φ width N G = tellG φ width N H := by
  unfold tellG rowS
  simp only [List.flatMap_map]
  congr 1
  funext i
  congr 1
  funext k
  rw [hm, hm (H i k).1, h i k]
include h0 hm in
theorem tell_lay (width N : Nat) (s : LS) (x : Int) (l : List Int) (h : Nice width s (x :: l)) (hN : (layL width s x).row < N) : tellG φ width N (layL width s x).G = tellG φ width N s.G ++ tellR φ x := by
  by_cases hw : widthN x = 0
  · unfold layL tellR
    rw [if_pos hw, if_pos hw, List.append_nil]
  · have hx : widthN x = 1 ∨ widthN x = 2 := by have := width_le x; omega
    unfold Nice at h
    have hc : caretP width s (x :: l) = roomP width (s.row, s.col) (widthN x).toNat := by unfold caretP; rw [nextW_some x l hw]
    rw [nextW_some x l hw, hc] at h
    obtain ⟨R, C, hRC⟩ : ∃ R C, roomP width (s.row, s.col) (widthN x).toNat = (R, C) := ⟨_, _, rfl⟩
    rw [hRC] at h
    have e : layL width s x = ⟨R, C + (widthN x).toNat, max s.n (R + 1), layG s.G R C x (widthN x)⟩ := by unfold layL; rw [if_neg hw, hRC]
    rw [e] at hN ⊢
    simp only at h hN ⊢
    obtain ⟨b, hb⟩ := h.pend
    have hf := h.fit
    rw [tell_at φ h0 width N s.G R C hN (by omega) h.rest (fun i hi k => by rw [h.far i hi k])]
    rw [tell_at φ h0 width N _ R (C + (widthN x).toNat) hN hf (fun k hk => by rw [layG_keep _ _ _ _ _ _ (.inr hk) hx, h.clear _ hk]) (fun i hi k => by rw [layG_ne _ _ _ _ _ _ (by omega), h.far i hi k])]
    rw [laid_row s.G R C x b hx hb, List.flatMap_append, ← List.append_assoc, tell_cells φ hm x b]
    unfold tellR
    rw [if_neg hw]
    congr 2
    rw [List.flatMap_def, List.flatMap_def]
    congr 1
    apply List.map_congr_left
    intro i hi
    rw [layG_ne _ _ _ _ _ _ (by have := List.mem_range.1 hi; omega)]
include h0 hm in
theorem tell_run (width N : Nat) (h2 : 2 ≤ width) (l : List Int) : ∀ (s : LS), Nice width s l → (runL width s l).row < N → tellG φ width N (runL width s l).G = tellG φ width N s.G ++ l.flatMap (tellR φ) := by
  induction l with
  | nil => intro s _ _; rw [List.flatMap_nil, List.append_nil]; rfl
  | cons x l ih =>
    intro s h hN
    have hr : (layL width s x).row ≤ (runL width (layL width s x) l).row := by
      have h9 := posR_row width l ((layL width s x).row, (layL width s x).col)
      rw [← runL_pos] at h9; exact h9
    rw [runL_cons] at hN ⊢
    rw [ih _ (Nice.lay h2 h) hN, tell_lay φ h0 hm width N s x l h (by omega), List.flatMap_cons, List.append_assoc]
include h0 in
theorem tell_st0 (width N : Nat) : tellG φ width N st0.G = [] := by
  unfold tellG
  rw [List.flatMap_eq_nil_iff]
  intro i _
  exact tell_zero φ h0 _ _ (fun _ => rfl)
include h0 hm in
/-- What all cells of a page tell is what its runes tell. -/
theorem tell_page (width : Nat) (h2 : 2 ≤ width) (ps ls : List Int) (caret : Int) (os : List Int) :
    (gridL width (lineL width caret os 0 (runL width st0 ps, (0, 0)) ls).1.n (lineL width caret os 0 (runL width st0 ps, (0, 0)) ls).1.G).flatMap (fun r => r.flatMap φ) = (ps ++ ls).flatMap (tellR φ) := by
  have hn0 : (runL width st0 ps).row < (runL width st0 ps).n := by
    have : ∀ (l : List Int) (s : LS), s.row < s.n → (runL width s l).row < (runL width s l).n := by
      intro l
      induction l with
      | nil => intro s h; exact h
      | cons x l ih =>
        intro s h
        rw [runL_cons]
        exact ih _ (by have := layL_n width s x h; omega)
    exact this ps st0 (by decide)
  obtain ⟨C1, C2, C3, C4, C5⟩ := closed width caret os ls 0 (runL width st0 ps) (0, 0) hn0
  generalize lineL width caret os 0 (runL width st0 ps, (0, 0)) ls = t at C1 C2 C3 C4 C5 ⊢
  have hN := ((C4 _).1 (Nat.le_refl _)).2.1
  have e1 : (gridL width t.1.n t.1.G).flatMap (fun r => r.flatMap φ) = tellG φ width t.1.n t.1.G := by
    unfold gridL tellG
    rw [List.flatMap_map]
  have hrow : (runL width st0 (ps ++ ls)).row = t.1.row := by
    have h8 := runL_pos width ls (runL width st0 ps)
    rw [← C1, ← runL_append] at h8
    exact congrArg Prod.fst h8
  rw [e1, tell_same φ width _ _ _ hm C2, ← runL_append, tell_run φ h0 hm width _ h2 (ps ++ ls) st0 (nice_st0 width h2 _) (by rw [hrow]; omega), tell_st0 φ h0, List.nil_append]
end
end Go.Proofs.YtoidlaonolkgkaaDoor.Gq

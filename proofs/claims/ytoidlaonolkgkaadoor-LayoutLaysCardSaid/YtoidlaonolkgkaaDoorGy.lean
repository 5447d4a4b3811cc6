/- What Lay computes, in plain numbers; and what its walk leans on. -/
import Derived.Test.YtoidlaonolkgkaaDoorGn
set_option linter.unusedVariables false
set_option linter.unusedSimpArgs false
namespace Go.Proofs.YtoidlaonolkgkaaDoor.Gy
open Go.RowKit Go.Proofs.YtoidlaonolkgkaaDoor.Giv Go.Proofs.YtoidlaonolkgkaaDoor.Gr Go.Proofs.YtoidlaonolkgkaaDoor.Gl Go.Proofs.YtoidlaonolkgkaaDoor.Gn Go.Proofs.YtoidlaonolkgkaaDoorW.PrintWords Go.Proofs.YtoidlaonolkgkaaDoorW.PrintLast
/-- The pen: where it is, how many rows there are, what they hold. -/
structure LS where
  row : Nat
  col : Nat
  n : Nat
  G : Grd
def st0 : LS := ⟨0, 0, 1, fun _ _ => (0, false)⟩
def layL (width : Nat) (s : LS) (x : Int) : LS :=
  if widthN x = 0 then s else ⟨(roomP width (s.row, s.col) (widthN x).toNat).1, (roomP width (s.row, s.col) (widthN x).toNat).2 + (widthN x).toNat, max s.n ((roomP width (s.row, s.col) (widthN x).toNat).1 + 1), layG s.G (roomP width (s.row, s.col) (widthN x).toNat).1 (roomP width (s.row, s.col) (widthN x).toNat).2 x (widthN x)⟩
/-- Where a caret ahead of l stands. -/
def caretP (width : Nat) (s : LS) (l : List Int) : Nat × Nat := roomP width (s.row, s.col) (nextW l).toNat
def markG (G : Grd) (R C : Nat) : Grd := updG G R (updM (G R) C)
/-- Cells from C on, k of them, are marked. -/
def marks (G : Grd) (R C : Nat) : Nat → Grd
  | 0 => G
  | k + 1 => markG (marks G R C k) R (C + k)
/-- What happens ahead of the rune i: a caret's place is made, and marked if it is another's. -/
def spot (width : Nat) (s : LS) (l : List Int) (mark here : Bool) : LS :=
  if mark || here then ⟨s.row, s.col, max s.n ((caretP width s l).1 + 1), if mark then marks s.G (caretP width s l).1 (caretP width s l).2 (nextW l).toNat else s.G⟩ else s
/-- The line's loop, from the rune i on; the caret's place beside it. -/
def lineL (width : Nat) (caret : Int) (others : List Int) : Nat → LS × (Nat × Nat) → List Int → LS × (Nat × Nat)
  | i, s, [] => (spot width s.1 [] (others.contains (i : Int)) ((i : Int) == caret), if (i : Int) == caret then caretP width s.1 [] else s.2)
  | i, s, x :: l => lineL width caret others (i + 1) (layL width (spot width s.1 (x :: l) (others.contains (i : Int)) ((i : Int) == caret)) x, if (i : Int) == caret then caretP width s.1 (x :: l) else s.2) l
theorem room_le (width : Nat) (a : Nat × Nat) (w : Nat) (h2 : 2 ≤ width) (hc : a.2 ≤ width) (hw : w ≤ 2) : (roomP width a w).2 + w ≤ width ∧ (roomP width a w).1 ≤ a.1 + 1 ∧ a.1 ≤ (roomP width a w).1 := by
  unfold roomP
  split
  · exact ⟨by simp; omega, Nat.le_refl _, Nat.le_succ _⟩
  · exact ⟨by omega, Nat.le_succ _, Nat.le_refl _⟩
/-- How far the pen can be behind k runes. -/
structure Far (width k : Nat) (s : LS) : Prop where
  row : s.row ≤ k
  col : s.col ≤ width
  n1 : s.n ≤ k + 2
  n2 : s.row < s.n
theorem far_st0 (width : Nat) : Far width 0 st0 := ⟨Nat.le_refl _, Nat.zero_le _, by decide, by decide⟩
theorem Far.lay {width k : Nat} {s : LS} (h : Far width k s) (h2 : 2 ≤ width) (x : Int) : Far width (k + 1) (layL width s x) := by
  unfold layL
  have hw := width_le x
  obtain ⟨a, b, c⟩ := room_le width (s.row, s.col) (widthN x).toNat h2 h.col (by omega)
  have := h.row; have := h.n1; have := h.n2
  simp only at b c
  split
  · exact ⟨by omega, h.col, by omega, h.n2⟩
  · exact ⟨by simp only; omega, a, by simp only; omega, by simp only; omega⟩
theorem Far.spot {width k : Nat} {s : LS} (h : Far width k s) (h2 : 2 ≤ width) (l : List Int) (m c : Bool) : Far width k (spot width s l m c) := by
  unfold Gy.spot
  have hw := nextW_range l
  obtain ⟨a, b, d⟩ := room_le width (s.row, s.col) (nextW l).toNat h2 h.col (by omega)
  have := h.row; have := h.n1; have := h.n2
  split
  · exact ⟨h.row, h.col, by unfold caretP; simp only at b d ⊢; omega, by simp only; omega⟩
  · exact h
/-- A pen's copy. -/
theorem Pen.copy {base : Nat} {W wr : World} {p width row col n : Nat} {G : Grd} {bs : List Nat} {v : Value} (h : Pen base W wr p width row col n G bs v) :
    Pen base W (wr.alloc (.cells #[.int .i64 (width : Int), .int .i64 (row : Int), .int .i64 (col : Int), v] 54)) wr.heap.size width row col n G bs v := by
  have hb := below_alloc (Below.refl wr.heap.size wr) (.cells #[.int .i64 (width : Int), .int .i64 (row : Int), .int .i64 (col : Int), v] 54)
  have h1 := h.below hb
  exact ⟨heap_alloc_new _ _, Nat.le_trans h.hp (Nat.le_of_lt (blk_lt h.b)), h1.grid, h1.bel⟩
/-- The pen takes the copy's rows. -/
theorem Pen.take {base : Nat} {W wr : World} {p q width row col R C m : Nat} {G : Grd} {bs : List Nat} {v v2 : Value} (h : Pen base W wr q width R C m G bs v2) (hb : wr.heap[p]? = some (.cells #[.int .i64 (width : Int), .int .i64 (row : Int), .int .i64 (col : Int), v] 54 (0, 0))) (hp : base ≤ p) (hne : p ≠ q) :
    Pen base W (wr.setCell ⟨p, 3, none⟩ v2) p width row col m G bs v2 ∧ Pen base W (wr.setCell ⟨p, 3, none⟩ v2) q width R C m G bs v2 := by
  have hg : Grid base (wr.setCell ⟨p, 3, none⟩ v2) v2 width m G bs := by
    refine ⟨h.grid.len, own_setCell h.grid.own (own_ne h.grid.own hb (by decide)) v2, fun j b hj => ⟨(h.grid.blk j b hj).1, ?_⟩, h.grid.nd, h.grid.zero⟩
    have hbb := (h.grid.blk j b hj).2
    have hn : b ≠ p := fun e => by rw [e, hb] at hbb; have h2 := Option.some.inj hbb; injection h2 with _ h3; exact absurd h3 (by decide)
    exact (Below.heap_setCell wr ⟨p, 3, none⟩ v2 b hn).trans hbb
  exact ⟨⟨blk_put hb 3 v2 rfl, hp, hg, h.bel.setCell hp v2⟩, ⟨(Below.heap_setCell wr ⟨p, 3, none⟩ v2 q (fun e => hne e.symm)).trans h.b, h.hp, hg, h.bel.setCell hp v2⟩⟩
theorem Pen.setM {base : Nat} {W wr : World} {p width row col n : Nat} {G : Grd} {bs : List Nat} {v : Value} {b R C : Nat} (h : Pen base W wr p width row col n G bs v) (hb : bs[R]? = some b) (hR : R < n) (hC : C < width) (i : Nat) (hi : i = C * 2 + 1) :
    Pen base W (wr.setCell ⟨b, i, none⟩ (.bool true)) p width row col n (markG G R C) bs v ∧ ∀ (j : Nat) (t : TypeId) (cells : Array Value), t ≠ 47 → wr.heap[j]? = some (.cells cells t (0, 0)) → (wr.setCell ⟨b, i, none⟩ (.bool true)).heap[j]? = some (.cells cells t (0, 0)) := by
  subst hi
  obtain ⟨x1, x2⟩ := h.grid.blk R b hb
  have hk : ∀ j, j ≠ b → (wr.setCell ⟨b, C * 2 + 1, none⟩ (.bool true)).heap[j]? = wr.heap[j]? := fun j hj => Below.heap_setCell wr ⟨b, C * 2 + 1, none⟩ _ j hj
  refine ⟨Pen.row h hb x1 hR (blk_put x2 (C * 2 + 1) _ ?_) hk (h.bel.setCell x1 _), fun j t cells ht hc => (hk j (fun e => ?_)).trans hc⟩
  · rw [List.setIfInBounds_toArray, Nat.mul_comm, rowC_setM _ _ _ hC]
  · rw [e, x2] at hc; have h2 := Option.some.inj hc; injection h2 with _ h3; exact ht h3.symm
end Go.Proofs.YtoidlaonolkgkaaDoor.Gy

/- What the condition on the two tables gives the walks: they lie in memory as the program's text lays them. -/
import Derived.Test.YtoidlaonolkgkaaDoorRows
import Derived.Test.YtoidlaonolkgkaaDoorGiv
import Derived.ProofKit
import Derived.LaidMore
import Derived.OpenShut
import Derived.Stop.Joined
import Derived.Deep.Slices
import Derived.Lib.LaidU8T
import Derived.PinnedBridge
import Derived.Lay
set_option linter.unusedVariables false
set_option linter.unusedSimpArgs false
namespace Go.Proofs.YtoidlaonolkgkaaDoor.Ofl
open Go.ChangeShapes Go.WideShapes Go.ChangeAt Go.WideMaps Go.WideElems Go.RowKit Go.Deep
open Go.Proofs.YtoidlaonolkgkaaDoor.Giv
theorem gNone : Tryd.prog.globalNamed "duet/cells.none" = some 0 := by kernel_rfl
theorem gWide : Tryd.prog.globalNamed "duet/cells.wide" = some 1 := by kernel_rfl
theorem tNone : (Tryd.prog.globals[0]?).map (·.type) = some 92 := by kernel_rfl
theorem tWide : (Tryd.prog.globals[1]?).map (·.type) = some 92 := by kernel_rfl
theorem c102 : Tryd.prog.cellsOf 102 = 2 := by kernel_rfl
theorem c3 : Tryd.prog.cellsOf 3 = 1 := by kernel_rfl
def pairD {H : Type} (r : Int × Int) : DataW H := .agg [.lit (.int .i64 r.1), .lit (.int .i64 r.2)]
set_option maxRecDepth 100000 in
/-- A table that reads as such is one. -/
theorem tab_of {H : Type} {enc : TypeId × Value → H} {w : World} {base : Nat} {spare : Nat → Bool} {held : Bool} {fuel : Nat} {cs : List Value} {p : List MemPlace} {l : List (Int × Int)} (h0 : 0 < l.length)
    (h : DataW.trod enc Tryd.prog w base spare held fuel 92 cs = some (.slice (l.map pairD) [], p)) : ∃ v, cs = [v] ∧ Tab w l v := by
  rcases open_slice Tryd.underlying92 h with ⟨_, hx⟩ | ⟨a, len, cap, m, n, D, Pl, rfl, hb, hl, hm, hmm, hx, hel⟩
  · simp at hx
  simp only [Prod.mk.injEq, DataW.slice.injEq] at hx
  obtain ⟨⟨hx1, hx2⟩, _⟩ := hx
  have hlen : l.length = len := by have := congrArg List.length hx1; simpa using this
  subst hlen
  have hlm : l.length ≤ m := by rw [hmm]; split <;> omega
  have each : ∀ i, i < l.length → w.cell? (a.add (i * 2)) = some (.int .i64 (l.getD i (0, 0)).1) ∧ w.cell? ((a.add (i * 2)).add 1) = some (.int .i64 (l.getD i (0, 0)).2) := by
    intro i hi
    obtain ⟨cs', h1, h2⟩ := hel i (by omega)
    rw [c102] at h1
    obtain ⟨_, hcl, hcell⟩ := World.cells?_some h1
    have hD : D i = pairD (l.getD i (0, 0)) := by
      have := congrArg (fun x => x[i]?) hx1
      simp [hi] at this
      rw [← this, List.getD_eq_getElem?_getD, List.getElem?_eq_getElem hi]; rfl
    obtain ⟨xs, m1, rfl, hy, hyl, hxl, hf⟩ := DataW.trod_array Tryd.underlying102 h2
    rw [c3] at hf
    match xs, hxl, cs', hcl with
    | [y0, y1], _, [v0, v1], _ =>
      have f0 := hf 0 (by decide)
      have f1 := hf 1 (by decide)
      simp at f0 f1
      obtain ⟨n0, e0, z0, _⟩ := DataW.trod_int Tryd.underlying3 f0
      obtain ⟨n1, e1, z1, _⟩ := DataW.trod_int Tryd.underlying3 f1
      simp only [List.cons.injEq, and_true] at e0 e1
      subst e0 e1
      simp only [Prod.mk.injEq] at hy
      rw [hD] at hy
      have hy1 := hy.1
      simp [pairD, z0, z1] at hy1
      have q0 := hcell 0 (by decide)
      have q1 := hcell 1 (by decide)
      simp at q0 q1
      rw [show (a.add (i * 2)).add 0 = a.add (i * 2) by rw [add_add]; rfl] at q0
      exact ⟨by rw [q0, List.getD_eq_getElem?_getD, hy1.1], by rw [q1, List.getD_eq_getElem?_getD, hy1.2]⟩
  obtain ⟨b, off, spot⟩ := a
  have hspot : spot = none := by
    have := World.cell?_spot (each 0 h0).1
    simpa [Addr.add] using this
  subst hspot
  refine ⟨_, rfl, b, off, cap, rfl, fun i hi => ?_⟩
  obtain ⟨e1, e2⟩ := each i hi
  rw [add_add, Go.WideShapes.add_plain] at e2
  rw [Go.WideShapes.add_plain] at e1
  exact ⟨e1, by rw [Nat.add_assoc]; exact e2⟩
def laid2 : List (String × DataW Unit) := [("unicode/utf8.acceptRanges", Rows.laid_unicode_utf8_acceptRanges), ("duet/cells.none", Rows.laid_duet_cells_none), ("duet/cells.wide", Rows.laid_duet_cells_wide), ("unicode/utf8.first", Rows.laid_unicode_utf8_first)]
theorem of_laid {W : World} (h : laidMetH Tryd.prog laid2 W) : Laid W := by
  rw [MakeChecks.laidMetH_plain _ _ _ (by kernel_rfl)] at h
  have h0 := Go.Lib.laidMet.reads h (n := "duet/cells.none") (d := Rows.laid_duet_cells_none) (by simp [laid2])
  have h1 := Go.Lib.laidMet.reads h (n := "duet/cells.wide") (d := Rows.laid_duet_cells_wide) (by simp [laid2])
  obtain ⟨g0, t0, cs0, f0, p0, hg0, ht0, hv0, hd0⟩ := h0
  obtain ⟨g1, t1, cs1, f1, p1, hg1, ht1, hv1, hd1⟩ := h1
  obtain rfl := Option.some.inj (gNone.symm.trans hg0)
  obtain rfl := Option.some.inj (gWide.symm.trans hg1)
  obtain rfl := Option.some.inj (tNone.symm.trans ht0)
  obtain rfl := Option.some.inj (tWide.symm.trans ht1)
  obtain ⟨v0, e0, T0⟩ := tab_of (l := noneL) (by decide) hd0
  obtain ⟨v1, e1, T1⟩ := tab_of (l := wideL) (by decide) hd1
  refine ⟨v0, v1, ?_, T0, ?_, T1⟩
  · have := World.var?_cell hg0 hv0 0
    rw [Array.eq_one_of_toList e0] at this
    simpa using this
  · have := World.var?_cell hg1 hv1 0
    rw [Array.eq_one_of_toList e1] at this
    simpa using this
/-- The witness of a row: the world in which the tables are laid by the library's function. -/
theorem door_met (os : Os) (args : Array Value) : laidMetH Tryd.prog laid2 ((World.laidAll Tryd.prog os laid2).forCall (fun _ _ => 0) ⟨#[], args, []⟩).memory := by
  rw [MakeChecks.laidMetH_plain _ _ _ (by kernel_rfl)]; exact laidMet_laidAll _ (by kernel_rfl) (by kernel_rfl)
theorem door_shaped (os : Os) : (World.laidAll Tryd.prog os laid2).Shaped Tryd.prog := World.shaped_of_ZipB (by kernel_rfl) (by kernel_rfl)
end Go.Proofs.YtoidlaonolkgkaaDoor.Ofl

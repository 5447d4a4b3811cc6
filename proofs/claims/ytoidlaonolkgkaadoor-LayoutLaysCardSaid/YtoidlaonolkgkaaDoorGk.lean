/- A grid in memory as rows of cells in the printed words. -/
import Derived.Test.YtoidlaonolkgkaaDoorGz
import Derived.Test.YtoidlaonolkgkaaDoorGd
import Derived.Test.YtoidlaonolkgkaaDoorWApart
set_option linter.unusedVariables false
set_option linter.unusedSimpArgs false
namespace Go.Proofs.YtoidlaonolkgkaaDoor.Gk
open Go.RowKit Go.Proofs.YtoidlaonolkgkaaDoor.Giv Go.Proofs.YtoidlaonolkgkaaDoor.Gr Go.Proofs.YtoidlaonolkgkaaDoor.Gl Go.Proofs.YtoidlaonolkgkaaDoor.Gn Go.Proofs.YtoidlaonolkgkaaDoor.Gy Go.Proofs.YtoidlaonolkgkaaDoor.Gz Go.Proofs.YtoidlaonolkgkaaDoorW.PrintWords Go.Proofs.YtoidlaonolkgkaaDoorW.PrintLast Go.Proofs.YtoidlaonolkgkaaDoor.P Go.Proofs.YtoidlaonolkgkaaDoor.Gc
def rowS (width : Nat) (r : Nat → Int × Bool) : List S47 := (List.range width).map fun k => ⟨(r k).1, (r k).2⟩
def gridL (width n : Nat) (G : Grd) : List (List S47) := (List.range n).map fun i => rowS width (G i)
theorem rowS_len (width : Nat) (r : Nat → Int × Bool) : (rowS width r).length = width := by unfold rowS; rw [List.length_map, List.length_range]
theorem gridL_len (width n : Nat) (G : Grd) : (gridL width n G).length = n := by unfold gridL; rw [List.length_map, List.length_range]
theorem rowS_get (width : Nat) (r : Nat → Int × Bool) (k : Nat) (h : k < width) : (rowS width r)[k]? = some ⟨(r k).1, (r k).2⟩ := by
  unfold rowS; rw [List.getElem?_map, List.getElem?_range h]; rfl
theorem gridL_get (width n : Nat) (G : Grd) (i : Nat) (h : i < n) : (gridL width n G)[i]? = some (rowS width (G i)) := by
  unfold gridL; rw [List.getElem?_map, List.getElem?_range h]; rfl
theorem row_R {base b width : Nat} {w : World} {r : Nat → Int × Bool} {ok : Nat → Prop} (hb : base ≤ b) (hc : w.heap[b]? = some (.cells (rowC width r).toArray 47 (0, 0))) (hw : width ≤ 600) (hok : ok b) : k47.R 47 w base ok (.slice (some ⟨b, 0, none⟩) width width) (rowS width r) := by
  refine ⟨fun k hk => ?_, rowC width r, ⟨?_, .inr ⟨b, width, (rowC width r).toArray, ?_, hb, hc, by rw [rowS_len]; exact Nat.le_refl _, by unfold maxLen; omega, ?_, ?_⟩⟩, ?_, fun j p hj => ?_⟩
  · have : b = k := by simpa [Value.ownBlock] using hk
    rw [← this]; exact hok
  · rw [rowC_len, rowS_len]; show 2 * width = width * 2; omega
  · rw [rowS_len]
  · show (rowC width r).toArray.size = width * 2; simp [rowC_len]; omega
  · show (rowC width r).take _ = _
    rw [rowS_len, List.take_of_length_le (by rw [rowC_len]; show 2 * width ≤ width * 2; omega)]
  · rw [rowC_len, rowS_len]; show 2 * width = width * 2; omega
  · have hlt : j < width := by
      have := (List.getElem?_eq_some_iff.1 hj).1
      rw [rowS_len] at this; exact this
    rw [rowS_get _ _ _ hlt] at hj
    obtain rfl := Option.some.inj hj
    have hcs : ((rowC width r).drop (j * 2)).take 2 = [.int .i64 (r j).1, .bool (r j).2] := by
      obtain ⟨h1, h2⟩ := rowC_get width r j hlt
      have hl := rowC_len width r
      rw [Nat.mul_comm, List.drop_eq_getElem_cons (by omega), List.drop_eq_getElem_cons (by omega)]
      rw [List.getElem?_eq_getElem (by omega)] at h1 h2
      rw [Option.some.inj h1, Option.some.inj h2]; rfl
    show k47.M w base _ _ (((rowC width r).drop (j * 2)).take 2)
    rw [hcs]
    exact k47_mkM w base _ ⟨(r j).1, (r j).2⟩
theorem grid_S {base : Nat} {w : World} {v : Value} {width n : Nat} {G : Grd} {bs : List Nat} (h : Grid base w v width n G bs) (hw : width ≤ 600) : Kd.S (Kd.slice 47 k47) 45 w base (fun _ => True) v (gridL width n G) := by
  refine ⟨fun b => bs.idxOf b, fun _ _ => trivial, bs.map fun b : Nat => .slice (some ⟨b, 0, none⟩) width width, ?_, ?_, fun j p hj => ?_⟩
  · rw [List.length_zipIdx, gridL_len]; exact h.own
  · rw [List.length_map, List.length_zipIdx, gridL_len, h.len]; show n = n * 1; omega
  · have hlt : j < n := by
      have := (List.getElem?_eq_some_iff.1 hj).1
      rw [List.length_zipIdx, gridL_len] at this; exact this
    rw [Kd.zip_at (gridL_get width n G j hlt)] at hj
    obtain rfl := Option.some.inj hj
    have hlb : j < bs.length := by rw [h.len]; exact hlt
    have hbj := List.getElem?_eq_getElem hlb
    obtain ⟨x1, x2⟩ := h.blk j _ hbj
    have hcs : ((bs.map fun b : Nat => Value.slice (some ⟨b, 0, none⟩) width width).drop (j * 1)).take 1 = [.slice (some ⟨bs[j], 0, none⟩) width width] := by
      rw [Nat.mul_one, List.drop_eq_getElem_cons (by rw [List.length_map]; exact hlb), List.getElem_map]; rfl
    show (Kd.slice 47 k47).M w base _ _ (((bs.map fun b : Nat => Value.slice (some ⟨b, 0, none⟩) width width).drop (j * 1)).take 1)
    rw [hcs]
    refine ⟨_, rfl, row_R x1 x2 hw ⟨⟨trivial, fun e => ?_⟩, ?_⟩⟩
    · have e2 := e.symm
      obtain ⟨cs, hc⟩ := own_typed h.own _ e2
      rw [x2] at hc
      have h2 := Option.some.inj hc; injection h2 with _ h3; exact absurd h3 (by decide)
    · exact h.nd.idxOf_getElem j hlb
theorem grid_C {base : Nat} {w : World} {v : Value} {width n : Nat} {G : Grd} {bs : List Nat} (h : Grid base w v width n G bs) (hw : width ≤ 600) : ∃ A c, v = .slice A n c ∧ n ≤ c ∧ Kd.C (Kd.slice 47 k47) w A n (gridL width n G) := by
  obtain ⟨A, c, e, h1, h2⟩ := Kd.R_reads (Kd.S_R (grid_S h hw))
  rw [gridL_len] at e h1 h2
  exact ⟨A, c, e, h1, h2⟩
end Go.Proofs.YtoidlaonolkgkaaDoor.Gk

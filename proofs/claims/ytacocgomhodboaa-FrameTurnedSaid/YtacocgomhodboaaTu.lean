/- FrameTurned: a row of bytes, one turned. -/
import Derived.Test.YtacocgomhodboaaCt
import Derived.Laws.Rows
import Derived.Laws.BytesArg
import Derived.Lib.ConvBytes
set_option linter.unusedVariables false
set_option linter.unusedSimpArgs false
namespace Go.Proofs.Ytacocgomhodboaa.Tu
open Go.RowKit Go.Proofs.Ytacocgomhodboaa.Rd Go.Proofs.Ytacocgomhodboaa.Pk Go.Proofs.Ytacocgomhodboaa.En Go.Proofs.Ytacocgomhodboaa.Fs Go.Proofs.Ytacocgomhodboaa.Fd Go.Proofs.Ytacocgomhodboaa.Gv2 Go.Proofs.Ytacocgomhodboaa.Fl Go.Proofs.Ytacocgomhodboaa.Ft Go.Proofs.Ytacocgomhodboaa.Hs Go.Proofs.Ytacocgomhodboaa.Ct Go.Proofs.YtacocgomhodboaaW.PrintWords Go.Proofs.YtacocgomhodboaaW.PrintLast
/-- A row of bytes behind a conversion: block B, N bytes. -/
def Row8 (B N n : Nat) (w : World) (l : List UInt8) : Prop :=
  ∃ cs : Array Value, w.heap[B]? = some (.cells cs 5 (n, n + 1)) ∧ N ≤ n ∧ cs.size = n ∧ ∀ j, j < N → cs[j]? = some (.int .u8 (((l.getD j 0).toNat : Nat) : Int))
theorem Row8.cell {B N n : Nat} {w : World} {l : List UInt8} (h : Row8 B N n w l) (j : Nat) (hj : j < N) : w.cell? ⟨B, j, none⟩ = some (.int .u8 (((l.getD j 0).toNat : Nat) : Int)) := by
  obtain ⟨cs, hg, _, _, hc⟩ := h
  rw [cell_of_row w B j cs 5 _ hg, hc j hj]
theorem Row8.frozen {B N n : Nat} {w : World} {l : List UInt8} (h : Row8 B N n w l) (j : Nat) (hj : j < N) : w.frozen? ⟨B, j, none⟩ = false := by
  obtain ⟨cs, hg, hn, hs, hc⟩ := h
  simp [World.frozen?, hg]; omega
theorem Row8.set {B N n : Nat} {w : World} {l : List UInt8} (h : Row8 B N n w l) (k : Nat) (x : UInt8) (hk : k < N) (hl : l.length = N) : Row8 B N n (w.setCell ⟨B, k, none⟩ (.int .u8 ((x.toNat : Nat) : Int))) (l.set k x) := by
  obtain ⟨cs, hg, hn, hs, hc⟩ := h
  refine ⟨cs.setIfInBounds k (.int .u8 ((x.toNat : Nat) : Int)), ?_, hn, by simpa using hs, fun j hj => ?_⟩
  · rw [setCell_eq_setRow w B k cs 5 _ _ hg]; exact setRow_heap w B cs _ 5 _ hg
  · rw [Array.getElem?_setIfInBounds]
    by_cases e : k = j
    · subst e
      rw [if_pos rfl, if_pos (by omega), List.getD_eq_getElem?_getD, List.getElem?_set_self (by omega)]; rfl
    · rw [if_neg e, hc j hj, List.getD_eq_getElem?_getD, List.getD_eq_getElem?_getD, List.getElem?_set_ne e]
theorem Row8.start (w : World) (s : ByteArray) : Row8 w.heap.size s.size (Lib.bytesCells w 5 s).size (Lib.bytesWorld w 5 s) s.data.toList := by
  refine ⟨_, Lib.bytesWorld_at_new w 5 s, ?_, rfl, fun j hj => ?_⟩
  · simp [Lib.bytesCells]
  · have := Lib.bytesWorld_cell w 5 s j hj
    rw [cell_of_row _ _ j _ 5 _ (Lib.bytesWorld_at_new w 5 s)] at this
    exact this
theorem Row8.string {B N n : Nat} {w : World} {l : List UInt8} (h : Row8 B N n w l) (hl : l.length = N) (cap : Nat) :
    (convert 39 9 (.slice (some ⟨B, 0, none⟩) N cap)).run Try.prog w = .ok (.string ⟨l.toArray⟩) w := by
  rw [← strOfNums_bytes l]
  refine run_convert_bytes_arg w 39 5 Try.underlying39 Try.underlying5 B 0 N cap (l.map fun c : UInt8 => ((c.toNat : Nat) : Int)) (by simp [hl]) (fun i hi => ?_) 9 Try.underlying9
  rw [Nat.zero_add, h.cell i hi]
  congr 2
  rw [List.getD_eq_getElem?_getD, List.getD_eq_getElem?_getD, List.getElem?_map, List.getElem?_eq_getElem (by omega)]; rfl
theorem info3 : (Try.prog.info? 3).map (fun i => (i.zero, i.size, i.bytes)) = some (some (.int .i64 0), 1, 8) := by kernel_rfl
/-- Where each frame begins. -/
def froms (xs : List ByteArray) (k : Nat) : List Int := (List.range k).map fun i => ((fromL xs i : Nat) : Int)
theorem froms_succ (xs : List ByteArray) (k : Nat) : froms xs (k + 1) = froms xs k ++ [((fromL xs k : Nat) : Int)] := by simp [froms, List.range_succ]
theorem froms_len (xs : List ByteArray) (k : Nat) : (froms xs k).length = k := by simp [froms]
theorem froms_at (xs : List ByteArray) (k i : Nat) (h : i < k) : rd (froms xs k) (i : Int) = ((fromL xs i : Nat) : Int) := by
  unfold rd froms
  rw [Int.toNat_natCast, List.getD_eq_getElem?_getD, List.getElem?_map, List.getElem?_range h]; rfl
theorem from_size (xs : List ByteArray) (k : Nat) : (pkS (xs.take k)).size = fromL xs k := by rw [pkS_size]; rfl
/-- The row of beginnings, kept while the reader is fed. -/
theorem row_fed {W w4 : World} {g q : Nat} {v v4 : Value} {y : ByteArray} {l : List UInt8} {long : Bool} {bad : Int} {out : List ByteArray} {b n : Nat} {xs : List Value} {W2 : World}
    (hr : W.ownsRow b 3 1 v n xs) (hW : W.heap.size ≤ W2.heap.size) (hR : Rd (Kx (Kv v W) q v4 w4) W w4 g l long bad) (hS : Side (Kv v W) W2 w4 q y v4 out) : w4.ownsRow b 3 1 v n xs := by
  refine own_keep hr (fun j hj => ?_)
  obtain ⟨cs, hc⟩ := own_typed hr j hj
  have hlt := own_lt hr j hj
  have h1 := hS.q0
  rw [hc]
  refine (Fs.Rd.fr hR j _ ?_).1
  unfold Kx
  rw [if_neg, Kv, if_pos hj]
  · exact hc
  · rintro (e | e)
    · omega
    · have := own_base hS.row j e; omega
end Go.Proofs.Ytacocgomhodboaa.Tu

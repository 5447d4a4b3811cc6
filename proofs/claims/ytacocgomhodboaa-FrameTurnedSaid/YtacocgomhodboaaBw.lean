/- frame.bare: the walk. -/
import Derived.Test.YtacocgomhodboaaBa
set_option linter.unusedVariables false
set_option linter.unusedSimpArgs false
namespace Go.Proofs.Ytacocgomhodboaa.Bw
open Go.RowKit Go.Proofs.Ytacocgomhodboaa.Rd Go.Proofs.Ytacocgomhodboaa.Pk Go.Proofs.Ytacocgomhodboaa.Ba Go.Proofs.YtacocgomhodboaaW.PrintWords Go.Proofs.YtacocgomhodboaaW.PrintLast
/-- What bare answers, byte for byte: open or not, the row so far. -/
def bareF : Bool → List UInt8 → List UInt8 → List UInt8 × Bool
  | o, acc, [] => (acc, !o)
  | false, acc, c :: l => if c = 125 then bareF true acc l else bareF false (acc ++ [c]) l
  | true, acc, c :: l => if okE c = true then bareF false (acc ++ [c ^^^ 32]) l else ([], false)
theorem three (w : World) (a b c : Obj) : (((w.alloc a).alloc b).alloc c).heap[w.heap.size]? = some a ∧ (((w.alloc a).alloc b).alloc c).heap[w.heap.size + 1]? = some b ∧ (((w.alloc a).alloc b).alloc c).heap[w.heap.size + 1 + 1]? = some c ∧ (((w.alloc a).alloc b).alloc c).heap.size = w.heap.size + 3 := by
  have s1 : (w.alloc a).heap.size = w.heap.size + 1 := by simp
  have s2 : ((w.alloc a).alloc b).heap.size = w.heap.size + 1 + 1 := by simp
  refine ⟨?_, ?_, ?_, by simp⟩
  · rw [Below.heap_alloc _ _ _ (by omega), Below.heap_alloc _ _ _ (by omega)]; exact heap_alloc_new _ _
  · rw [Below.heap_alloc _ _ _ (by omega)]; have := heap_alloc_new (w.alloc a) b; rw [s1] at this; exact this
  · have := heap_alloc_new ((w.alloc a).alloc b) c; rw [s2] at this; exact this
set_option maxHeartbeats 2000000 in
theorem bare_calls (y : ByteArray) (hy : y.size ≤ 9000) (w : World) :
    Calls Try.prog 32 #[.string y] w fun e w' => e = .returned (.tuple #[.string ⟨(bareF false [] y.data.toList).1.toArray⟩, .bool (bareF false [] y.data.toList).2]) ∧ Below w.heap.size w w' := by
  have HY := Lib.hid hy
  clear hy
  go_enter Try.func32, Try.ntmps32
  go_upto_region 6 with fail
  obtain ⟨g0, g1, g2, gs⟩ := three w (Obj.cells #[Value.slice none 0 0] 39 (0, 0)) (Obj.cells #[takeV w.heap.size] 60 (0, 0)) (Obj.cells #[takeV w.heap.size] 60 (0, 0))
  have hb3 : Below w.heap.size w (((w.alloc (Obj.cells #[Value.slice none 0 0] 39 (0, 0))).alloc (Obj.cells #[takeV w.heap.size] 60 (0, 0))).alloc (Obj.cells #[takeV w.heap.size] 60 (0, 0))) := below_alloc (below_alloc (below_alloc (Below.refl _ _) _) _) _
  change Code.wp _ _ _ _ (((w.alloc (Obj.cells #[Value.slice none 0 0] 39 (0, 0))).alloc (Obj.cells #[takeV w.heap.size] 60 (0, 0))).alloc (Obj.cells #[takeV w.heap.size] 60 (0, 0)))
  generalize ((w.alloc (Obj.cells #[Value.slice none 0 0] 39 (0, 0))).alloc (Obj.cells #[takeV w.heap.size] 60 (0, 0))).alloc (Obj.cells #[takeV w.heap.size] 60 (0, 0)) = w3 at g0 g1 g2 gs hb3 ⊢
  have kc := print_bytes (P := Try.prog) 9 39 5 Try.underlying9 Try.underlying39 Try.underlying5 y w3
  have hBr : Hid (Br w.heap.size w (Lib.bytesWorld w3 5 y) w.heap.size (w.heap.size + 1) (w.heap.size + 1 + 1) w3.heap.size y (.slice none 0 0) [] (takeV w.heap.size)) := by
    have hB := bytes_below hb3 (by omega) 5 y
    have hsz := Lib.bytesWorld_size w3 5 y
    refine Lib.hid ⟨⟨hB, by omega, own_nil _ _ _ _, by simp [Value.ownBlock], by omega, fun j hj => Lib.bytesWorld_cell w3 5 y j hj⟩, ?_, ?_, ?_, by omega, by omega, by omega, by omega, by omega, by omega⟩
    · rw [Lib.bytesWorld_at_old w3 5 y _ (by omega)]; exact g0
    · rw [Lib.bytesWorld_at_old w3 5 y _ (by omega)]; exact g1
    · rw [Lib.bytesWorld_at_old w3 5 y _ (by omega)]; exact g2
  generalize w.heap.size + 1 + 1 = pn at hBr ⊢
  generalize w.heap.size + 1 = pt at hBr ⊢
  obtain ⟨pb, hpb⟩ : ∃ pb, pb = w.heap.size := ⟨_, rfl⟩
  rw [← hpb]
  have hBr2 : Hid (Br w.heap.size w (Lib.bytesWorld w3 5 y) pb pt pn w3.heap.size y (.slice none 0 0) [] (takeV pb)) := by rw [hpb]; exact hBr
  clear hBr g0 g1 g2 gs hb3 hpb
  go_wp2
  clear kc
  generalize grownCap w3 y.size 0 5 = gc at *
  generalize w3.heap.size = q at hBr2 ⊢
  generalize Lib.bytesWorld w3 5 y = w4 at hBr2 ⊢
  have hRel : Hid (bareF false [] y.data.toList = bareF false [] (y.data.toList.drop 0)) := Lib.hid rfl
  go_loopw [8, 10, 17] (fun v8 v10 v17 wr => ∃ (k : Nat) (o : Bool) (acc : List UInt8) (v nx : Value), v8 = .bool o ∧ v17 = .int .i64 k ∧ k ≤ y.size ∧ acc.length ≤ k ∧ nx = (if o then escV pt pn else takeV pb) ∧ Hid (bareF false [] y.data.toList = bareF o acc (y.data.toList.drop k)) ∧ Hid (Br w.heap.size w wr pb pt pn q y v acc nx)) (fun _ _ v17 _ => y.size - (intOf v17).toNat)
  case atStart => exact ⟨0, false, [], _, _, rfl, rfl, Nat.zero_le _, Nat.zero_le _, rfl, hRel, hBr2⟩
  case round =>
    clear hRel hBr2
    obtain ⟨k, o, acc, v, nx, rfl, rfl, hk, hacc, hnx, HR, HB⟩ := hrel
    have hys := HY.out
    by_cases hlt : k < y.size
    · have hkl : k < y.data.toList.length := by rw [Array.length_toList]; exact hlt
      obtain ⟨c, hc⟩ : ∃ c, c = y.data.toList[k] := ⟨_, rfl⟩
      have c0 := HB.out.m.at_ k hlt
      rw [List.getD_eq_getElem?_getD, List.getElem?_eq_getElem hkl, Option.getD_some, ← hc] at c0
      have hdr : y.data.toList.drop k = c :: y.data.toList.drop (k + 1) := by rw [List.drop_eq_getElem_cons hkl, ← hc]
      rw [hdr] at HR
      clear hc hkl hdr
      have n0 : wr.cell? ⟨pn, 0, none⟩ = some nx := by rw [blk_cell HB.out.n]; rfl
      have nf : wr.frozen? ⟨pn, 0, none⟩ = false := blk_frozen HB.out.n 0
      cases o with
      | false =>
        simp only [Bool.false_eq_true, if_false] at hnx
        subst hnx
        by_cases h1 : c = 125
        · have hS : Hid (Br w.heap.size w (wr.setCell ⟨pn, 0, none⟩ (escV pt pn)) pb pt pn q y v acc (escV pt pn)) := Lib.hid (HB.out.setN (escV pt pn))
          have HR2 : Hid (bareF false [] y.data.toList = bareF true acc (y.data.toList.drop (k + 1))) := Lib.hid (by rw [HR.out, bareF, if_pos h1])
          subst h1
          clear HR HB
          unfold takeV at n0
          go_wp2
          go_roundw
          case rel => exact ⟨k + 1, true, acc, v, escV pt pn, rfl, by go_num, by omega, by omega, rfl, HR2, hS⟩
          case measure => simp [intOf]; omega
        · have e2 : ((c.toNat : Int) == 125) = false := by
            simp only [beq_eq_false_iff_ne]
            intro e; exact h1 (UInt8.toNat_inj.1 (by simpa using (by omega : c.toNat = 125)))
          have HR2 : Hid (bareF false [] y.data.toList = bareF false (acc ++ [c]) (y.data.toList.drop (k + 1))) := Lib.hid (by rw [HR.out, bareF, if_neg h1])
          have ht := take_calls HB.out (by omega) c
          clear HR HB h1
          unfold takeV at n0
          go_wp2_with (go_at_call 38; refine ht.mono ?_; rintro e w5 ⟨rfl, v5, hv5⟩)
          go_roundw
          case rel => exact ⟨k + 1, false, acc ++ [c], v5, takeV pb, rfl, by go_num, by omega, by simp; omega, rfl, HR2, Lib.hid hv5⟩
          case measure => simp [intOf]; omega
      | true =>
        simp only [if_true] at hnx
        subst hnx
        have he := esc_calls HB.out (by omega) c
        have hbl := HB.out.m.bl
        clear HB
        unfold escV at n0
        cases ho : okE c with
        | true =>
          rw [ho] at he
          have HR2 : Hid (bareF false [] y.data.toList = bareF false (acc ++ [c ^^^ 32]) (y.data.toList.drop (k + 1))) := Lib.hid (by rw [HR.out, bareF, if_pos ho])
          clear HR ho
          go_wp2_with (go_at_call 39; refine he.mono ?_; rintro e w5 ⟨rfl, v5, hv5⟩)
          go_roundw
          case rel => exact ⟨k + 1, false, acc ++ [c ^^^ 32], v5, takeV pb, rfl, by go_num, by omega, by simp; omega, rfl, HR2, Lib.hid hv5⟩
          case measure => simp [intOf]; omega
        | false =>
          rw [ho] at he
          have HR2 : Hid (bareF false [] y.data.toList = ([], false)) := Lib.hid (by rw [HR.out, bareF, ho]; rfl)
          clear HR ho
          go_wp2_with (go_at_call 39; refine he.mono ?_; rintro e w5 ⟨rfl, v5, hv5⟩)
          go_ret2
          rw [HR2.out]
          exact ⟨rfl, hv5.m.bl⟩
    · obtain rfl : k = y.size := by omega
      have HR2 : Hid (bareF false [] y.data.toList = (acc, !o)) := Lib.hid (by rw [HR.out, List.drop_of_length_le (by rw [Array.length_toList]; exact Nat.le_refl _)]; cases o <;> rfl)
      obtain ⟨A, cp, rfl⟩ := own_slice HB.out.m.row
      have b0 : wr.cell? ⟨pb, 0, none⟩ = some (.slice A acc.length cp) := by rw [blk_cell HB.out.b]; rfl
      have hcv := bytes_string HB.out.m.row
      have hbl := HB.out.m.bl
      clear HR HB hnx
      go_wp2
      go_ret2
      rw [HR2.out]
      exact ⟨rfl, hbl⟩
end Go.Proofs.Ytacocgomhodboaa.Bw

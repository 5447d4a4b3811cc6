/- What the table of the sums holds, and what More answers: the walks of two Go functions. -/
import Derived.Test.YtacocgomhodboaaProg
import Derived.Test.YtacocgomhodboaaCrc
import Derived.WalkKit
import Derived.Lib.Hide
import Derived.Laws.Rows
import Derived.Great.Walk
import Derived.Laws.CopyOwn
set_option linter.unusedVariables false
set_option linter.unusedSimpArgs false
namespace Go.Proofs.Ytacocgomhodboaa.Giv
open Go.RowKit Go.Proofs.Ytacocgomhodboaa.Crc
def zeros : Array Value := Array.replicate 256 (.int .i64 0)
def tabAt (i : Nat) : Value := .int .i64 ((pw 8 (i * 65536) : Nat) : Int)
def tabV : Array Value := (Array.range 256).map tabAt
theorem tabV_size : tabV.size = 256 := by simp [tabV]
theorem tabV_at (i : Nat) (h : i < 256) : tabV[i]? = some (tabAt i) := by simp [tabV, h]
set_option maxRecDepth 100000 in
theorem alloc_run (ρ : Operand → Value) (w : World) (pos : String) (aft) : (execOp ρ { dst := some 0, op := Op.alloc 63, type := 0, pos := pos, after := aft, guard := none }).run Try.prog w = .ok (.value (.pointer (some ⟨w.heap.size, 0, none⟩))) (w.alloc (.cells zeros 63)) := by
  kernel_rfl
theorem info63 : (Try.prog.info? 63).map (·.size) = some 256 := by kernel_rfl
theorem pw8_lt (i : Nat) (h : i < 256) (k : Nat) : pw k (i * 65536) < 16777216 := pw_lt k _ (by omega)
theorem step_big (n : Nat) (h : n < 16777216) (h2 : ¬ (n : Int) * 2 ≤ 16777215) : bits .xor .i64 ((n : Int) * 2 % 16777216) 8801531 = ((lin n : Nat) : Int) := by
  have e : ((n : Int) * 2 % 16777216) = ((2 * n - 16777216 : Nat) : Int) := by omega
  rw [e, show (8801531 : Int) = ((8801531 : Nat) : Int) from rfl, i64_xor _ _ (by omega) (by omega)]
  refine congrArg (Nat.cast : Nat → Int) ?_
  have h1 : lin n = 2 * n ^^^ 0x1864cfb := by
    unfold lin; rw [testBit_23 n h, decide_eq_true (show 2 ^ 23 ≤ n by omega)]; rfl
  rw [h1]
  have e2 : (2 * n - 16777216) ^^^ 2 ^ 24 = 2 * n := by
    have := Nat.two_pow_add_eq_or_of_lt (show 2 * n - 16777216 < 2 ^ 24 by omega) 1
    have h3 : (2 * n - 16777216) ^^^ 2 ^ 24 = 2 ^ 24 * 1 ||| (2 * n - 16777216) := by
      apply Nat.eq_of_testBit_eq
      intro i
      rw [Nat.testBit_xor, Nat.testBit_or, Nat.mul_one, Nat.testBit_two_pow]
      by_cases hi : 24 = i
      · subst hi; rw [Nat.testBit_lt_two_pow (by omega)]; rfl
      · simp [hi]
    rw [h3, ← this]; omega
  rw [show (0x1864cfb : Nat) = 2 ^ 24 ^^^ 8801531 by decide, ← Nat.xor_assoc]
  conv => rhs; rw [← e2]
  rw [Nat.xor_assoc, Nat.xor_assoc, ← Nat.xor_assoc (2 ^ 24), Nat.xor_self, Nat.zero_xor]
theorem step_small (n : Nat) (h2 : (n : Int) * 2 ≤ 16777215) : (n : Int) * 2 = ((lin n : Nat) : Int) := by
  rw [lin_small n (by omega)]; omega
set_option maxRecDepth 100000 in
set_option maxHeartbeats 1000000 in
theorem table_calls (w : World) : Calls Try.prog 41 #[] w fun e w' => e = .returned (.agg tabV) ∧ Below w.heap.size w w' := by
  go_enter Try.func41, Try.ntmps41
  go_wp2_with (refine Go.Great.wpList_allocTo rfl _ rfl _ _ (alloc_run _ _ _ _) ?_)
  go_loopw [3] (fun v wr => ∃ (i : Nat) (cs : Array Value), i ≤ 256 ∧ v = .int .i64 i ∧ wr.heap[w.heap.size]? = some (.cells cs 63 (0, 0)) ∧ cs.size = 256 ∧ (∀ j, j < i → cs[j]? = some (tabAt j)) ∧ Below w.heap.size w wr) (fun v _ => 256 - (intOf v).toNat)
  case atStart => exact ⟨0, zeros, by omega, rfl, heap_alloc_new _ _, by simp [zeros], fun j hj => by omega, (Below.refl _ _).alloc (Nat.le_refl _) _⟩
  case round =>
    obtain ⟨i, cs, hi, rfl, hg, hs, hc, hB⟩ := hrel
    have HG := Lib.hid hg
    have HS := Lib.hid hs
    have HC := Lib.hid hc
    have HB := Lib.hid hB
    by_cases hlt : i < 256
    · obtain ⟨v0, hcell⟩ : ∃ v0, wr.cell? ⟨w.heap.size, i, none⟩ = some v0 := ⟨_, by
        rw [cell_of_row wr _ i cs 63 (0, 0) hg]; exact Array.getElem?_eq_getElem (by omega)⟩
      have hfr : wr.frozen? ⟨w.heap.size, i, none⟩ = false := frozen_of_row wr _ i cs 63 hg
      clear hg hs hc hB
      go_wp2
      go_loop [2, 8] (fun n v => ∃ k : Nat, k ≤ 8 ∧ v = .int .i64 k ∧ n = .int .i64 ((pw k (i * 65536) : Nat) : Int)) (fun _ v => 8 - (intOf v).toNat)
      case atStart => exact ⟨0, by omega, rfl, by simp [pw]⟩
      case round =>
        obtain ⟨k, hk, rfl, rfl⟩ := hrel
        have hp := pw8_lt i hlt k
        have hb1 := step_big _ hp
        have hb2 := step_small (pw k (i * 65536))
        rw [← pw_snoc] at hb1 hb2
        have HB1 := Lib.hid hb1
        have HB2 := Lib.hid hb2
        clear hb1 hb2
        by_cases hk8 : k < 8
        · by_cases h2 : ((pw k (i * 65536) : Nat) : Int) * 2 ≤ 16777215
          · go_wp2
            go_round
            case rel => exact ⟨k + 1, by omega, by go_num, by rw [← HB2.out h2]⟩
            case measure => simp [intOf]; omega
          · have hm : bits .and .i64 (((pw k (i * 65536) : Nat) : Int) * 2) 16777215 = ((pw k (i * 65536) : Nat) : Int) * 2 % 16777216 := i64_mask _
            go_wp2
            go_round
            case rel => exact ⟨k + 1, by omega, by go_num, by rw [← HB1.out h2]⟩
            case measure => simp [intOf]; omega
        · obtain rfl : k = 8 := by omega
          go_wp2
          go_roundw
          case rel =>
            refine ⟨i + 1, cs.setIfInBounds i (tabAt i), by omega, by go_num, ?_, by rw [Array.size_setIfInBounds]; exact HS.out, ?_, HB.out.setCell (Nat.le_refl _) _⟩
            · exact heap_setCell_same wr _ i cs 63 _ HG.out
            · intro j hj
              rw [Array.getElem?_setIfInBounds]
              by_cases e : i = j
              · subst e; rw [if_pos rfl, if_pos (by rw [HS.out]; omega)]
              · rw [if_neg e]; exact HC.out j (by omega)
          case measure => simp [intOf]; omega
    · have hi2 : i = 256 := by omega
      have e : cs = tabV := by
        apply Array.ext_getElem?
        intro j
        by_cases hj : j < 256
        · rw [hc j (by omega), tabV_at j hj]
        · rw [Array.getElem?_eq_none (by omega), Array.getElem?_eq_none (by rw [tabV_size]; omega)]
      have hone : tabV.all (·.oneCell') = true := by
        rw [Array.all_eq_true_iff_forall_mem]; intro v hv
        obtain ⟨j, _, rfl⟩ := Array.mem_map.1 hv; rfl
      have hsz : (Try.prog.info? 63).map (·.size) = some tabV.size := by rw [info63, tabV_size]
      have HGT : Hid (wr.heap[w.heap.size]? = some (.cells tabV 63 (0, 0))) := e ▸ hg
      have HO := Lib.hid hone
      have HZ := Lib.hid hsz
      clear hg hs hc hB hone hsz hi2 e
      go_wp2_with (first | (refine wpList_load_row rfl 63 _ rfl w.heap.size rfl 63 tabV (0, 0) _ HGT.out Try.underlying63 rfl HZ.out ?_) | (refine wpList_store_row rfl 63 _ _ rfl w.heap.size tabV rfl rfl 63 tabV HGT.out HZ.out rfl HO.out ?_))
      exact bodyPost_ret (v := .agg tabV) (results_cell_row rfl _ _ w.heap.size 63 tabV (0, 0) _ rfl (setRow_heap wr w.heap.size tabV tabV 63 (0, 0) HGT.out) Try.underlying63 rfl HZ.out) rfl ⟨rfl, below_setRow HB.out (Nat.le_refl _) _⟩

theorem alloc_run5 (ρ : Operand → Value) (w : World) (pos : String) (aft) : (execOp ρ { dst := some 5, op := Op.alloc 63, type := 0, pos := pos, after := aft, guard := none }).run Try.prog w = .ok (.value (.pointer (some ⟨w.heap.size, 0, none⟩))) (w.alloc (.cells zeros 63)) := by
  kernel_rfl
theorem tabV_one : tabV.all (·.oneCell') = true := by
  rw [Array.all_eq_true_iff_forall_mem]; intro v hv
  obtain ⟨j, _, rfl⟩ := Array.mem_map.1 hv; rfl
theorem tabV_info : (Try.prog.info? 63).map (·.size) = some tabV.size := by rw [info63, tabV_size]
theorem zeros_size : zeros.size = tabV.size := by rw [tabV_size]; simp [zeros]
def byteAt (s : ByteArray) (i : Nat) : Nat := (s.data.toList.getD i 0).toNat
def byts (s : ByteArray) : List Nat := s.data.toList.map UInt8.toNat
theorem byts_length (s : ByteArray) : (byts s).length = s.size := by simp [byts]
theorem byts_lt (s : ByteArray) : ∀ c ∈ byts s, c < 256 := by
  intro c hc
  obtain ⟨b, _, rfl⟩ := List.mem_map.1 hc
  exact b.toNat_lt
theorem byts_take (s : ByteArray) (k : Nat) (h : k < s.size) : (byts s).take (k + 1) = (byts s).take k ++ [(s[k]'h).toNat] := by
  rw [List.take_succ_eq_append_getElem (by rw [byts_length]; exact h)]
  congr 1
  simp [byts]; rfl
set_option maxRecDepth 100000 in
set_option maxHeartbeats 1000000 in
theorem more_calls (sum : Int) (s : ByteArray) (w : World) (hs : s.size ≤ 9223372036854775807) : Calls Try.prog 35 #[.int .i64 sum, .string s] w fun e w' => e = .returned (.int .i64 ((more (sum % 16777216).toNat (byts s) : Nat) : Int)) ∧ Below w.heap.size w w' := by
  have hm := i64_mask sum
  have HO := Lib.hid tabV_one
  have HZ := Lib.hid tabV_info
  have HZZ := Lib.hid zeros_size
  go_enter Try.func35, Try.ntmps35
  go_wp2_with (first | (go_at_call 41; refine (table_calls _).mono ?_; rintro e w1 ⟨rfl, hB1⟩) | (refine Go.Great.wpList_allocTo rfl _ rfl _ _ (alloc_run5 _ _ _ _) ?_) | (refine wpList_store_row rfl 63 _ _ rfl w1.heap.size tabV rfl rfl 63 zeros (heap_alloc_new _ _) HZ.out HZZ.out HO.out ?_))
  obtain ⟨W, hW⟩ : ∃ W, W = (w1.alloc (Obj.cells zeros 63)).setRow w1.heap.size tabV := ⟨_, rfl⟩
  rw [← hW]
  have hg : W.heap[w1.heap.size]? = some (.cells tabV 63 (0, 0)) := by rw [hW]; exact setRow_heap _ _ zeros tabV 63 (0, 0) (heap_alloc_new _ _)
  have HB : Hid (Below w.heap.size w W) := by rw [hW]; exact below_setRow (hB1.alloc hB1.size _) hB1.size _
  have HC : Hid (∀ j, j < 256 → W.cell? ⟨w1.heap.size, j, none⟩ = some (tabAt j)) := fun j hj => by rw [cell_of_row W _ j tabV 63 (0, 0) hg]; exact tabV_at j hj
  clear hW hg hB1
  go_loop [0, 12] (fun n v => ∃ k : Nat, k ≤ s.size ∧ v = .int .i64 k ∧ n = .int .i64 ((more (sum % 16777216).toNat ((byts s).take k) : Nat) : Int)) (fun _ v => s.size - (intOf v).toNat)
  case atStart => exact ⟨0, by omega, rfl, by simp [more]; omega⟩
  case round =>
    obtain ⟨k, hk, rfl, rfl⟩ := hrel
    by_cases hlt : k < s.size
    · have hmo := more_lt (sum % 16777216).toNat ((byts s).take k) (by omega) (fun c hc => byts_lt s c (List.mem_of_mem_take hc))
      have hst := byts_take s k hlt
      have hnx := more_append (sum % 16777216).toNat ((byts s).take k) [(s[k]'hlt).toNat]
      rw [← hst] at hnx
      generalize hM : more (sum % 16777216).toNat ((byts s).take k) = M at hmo hnx ⊢
      have hcb : (s[k]'hlt).toNat < 256 := (s[k]'hlt).toNat_lt
      have hx : bits .xor .i64 ((M : Int) / 65536) ((s[k]'hlt).toNat : Int) = ((M / 65536 ^^^ (s[k]'hlt).toNat : Nat) : Int) := by
        rw [← i64_xor _ _ (by omega) (by omega)]; rfl
      have hxl : M / 65536 ^^^ (s[k]'hlt).toNat < 256 := Nat.xor_lt_two_pow (n := 8) (by omega) (by omega)
      generalize hI : M / 65536 ^^^ (s[k]'hlt).toNat = I at hx hxl
      have hcl : W.cell? ⟨w1.heap.size, I, none⟩ = some (.int .i64 ((pw 8 (I * 65536) : Nat) : Int)) := HC.out _ hxl
      have hm2 : bits .and .i64 ((M : Int) * 256) 16777215 = ((M % 65536 * 256 : Nat) : Int) := by rw [i64_mask]; omega
      have hby : M % 65536 * 256 ^^^ pw 8 (I * 65536) = byte M (s[k]'hlt).toNat := by rw [← hI]; exact (byte_tab M _ hmo).symm
      have hx2 : bits .xor .i64 ((M % 65536 * 256 : Nat) : Int) ((pw 8 (I * 65536) : Nat) : Int) = ((byte M (s[k]'hlt).toNat : Nat) : Int) := by
        rw [i64_xor _ _ (by omega) (by have := pw8_lt I hxl 8; omega), hby]
      have HN : Hid (more (sum % 16777216).toNat ((byts s).take (k + 1)) = byte M (s[k]'hlt).toNat) := hnx
      clear hI hby hnx hst hM
      generalize M % 65536 * 256 = M2 at hm2 hx2
      go_wp2
      go_round
      case rel => exact ⟨k + 1, by omega, by go_num, by rw [HN.out]⟩
      case measure => simp [intOf]; omega
    · obtain rfl : k = s.size := by omega
      go_wp2
      go_ret
      exact ⟨by rw [List.take_of_length_le (by rw [byts_length]; omega)]; rfl, HB.out⟩
/-- What crcs.More answers, in the printed functions' form. -/
def crcs_More.f (a0 : Int) (a1 : ByteArray) : Option Int := if a1.size ≤ 9223372036854775807 then some ((more (a0 % 16777216).toNat (byts a1) : Nat) : Int) else none
theorem crcs_More.calls (a0 : Int) (a1 : ByteArray) (r : Int) (w : World) (h : crcs_More.f a0 a1 = some r) :
    Calls Try.prog 35 #[.int .i64 a0, .string a1] w fun e w' => e = .returned (.int .i64 r) ∧ Below w.heap.size w w' := by
  unfold crcs_More.f at h
  by_cases hs : a1.size ≤ 9223372036854775807
  · rw [if_pos hs] at h
    obtain rfl := Option.some.inj h
    exact more_calls a0 a1 w hs
  · rw [if_neg hs] at h
    exact absurd h (by simp)
end Go.Proofs.Ytacocgomhodboaa.Giv

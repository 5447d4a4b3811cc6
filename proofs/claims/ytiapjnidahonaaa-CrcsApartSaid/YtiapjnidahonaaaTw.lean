/- CrcsTurned: the walk of the law's own function. -/
import Derived.Test.YtiapjnidahonaaaLem
import Derived.Test.YtiapjnidahonaaaTurn
import Derived.WalkKit
import Derived.Lib.Hide
import Derived.Lib.ConvBytes
import Derived.Laws.Rows
import Derived.Laws.BytesArg
set_option linter.unusedVariables false
set_option linter.unusedSimpArgs false
namespace Go.Proofs.Ytiapjnidahonaaa.Tw
open Go.RowKit Go.Proofs.Ytiapjnidahonaaa.P Go.Proofs.Ytiapjnidahonaaa.Lem Go.Proofs.Ytiapjnidahonaaa.Turn Go.Proofs.YtiapjnidahonaaaW.PrintWords Go.Proofs.YtiapjnidahonaaaW.PrintLast Go.Proofs.YtiapjnidahonaaaW.PrintMore
theorem short_yes (s : ByteArray) (w : World) (h : s.size ≤ 3000) : Calls Try.prog 9 #[.string s] w fun e w' => e = .returned (.bool true) ∧ Drawn0 w w' :=
  duetlaw02_short.calls s true w (by unfold duetlaw02_short.f; rw [decide_eq_true (by omega)])
theorem short_no (s : ByteArray) (w : World) (h : ¬ s.size ≤ 3000) : Calls Try.prog 9 #[.string s] w fun e w' => e = .returned (.bool false) ∧ Drawn0 w w' :=
  duetlaw02_short.calls s false w (by unfold duetlaw02_short.f; rw [decide_eq_false (by omega)])
theorem live_yes (w : World) : Calls Try.prog 10 #[] w fun e w' => e = .returned (.bool true) ∧ Below w.heap.size w w' := duetlaw02_live.calls true w live_f
theorem seal_yes (s : ByteArray) (w : World) (h : s.size ≤ 3000) : Calls Try.prog 15 #[.string s] w fun e w' => e = .returned (.string (sealS s)) ∧ Below w.heap.size w w' :=
  crcs_Seal.calls s _ w (Seal_f s (by omega))
theorem open_yes (s : ByteArray) (w : World) (h : s.size ≤ 140737488351000) : Calls Try.prog 17 #[.string s] w fun e w' => e = .returned (.tuple #[.string (openS s).1, .int .i64 (openS s).2]) ∧ Below w.heap.size w w' :=
  crcs_Open.calls s _ _ w (Open_f s h)
/-- A row of bytes behind a conversion: block B, N bytes. -/
def Row (B N n : Nat) (w : World) (l : List Nat) : Prop :=
  ∃ cs : Array Value, w.heap[B]? = some (.cells cs 5 (n, n + 1)) ∧ N ≤ n ∧ cs.size = n ∧ ∀ j, j < N → cs[j]? = some (.int .u8 ((l.getD j 0 : Nat) : Int))
theorem Row.cell {B N n : Nat} {w : World} {l : List Nat} (h : Row B N n w l) (j : Nat) (hj : j < N) : w.cell? ⟨B, j, none⟩ = some (.int .u8 ((l.getD j 0 : Nat) : Int)) := by
  obtain ⟨cs, hg, _, _, hc⟩ := h
  rw [cell_of_row w B j cs 5 _ hg, hc j hj]
theorem Row.frozen {B N n : Nat} {w : World} {l : List Nat} (h : Row B N n w l) (j : Nat) (hj : j < N) : w.frozen? ⟨B, j, none⟩ = false := by
  obtain ⟨cs, hg, hn, hs, hc⟩ := h
  simp [World.frozen?, hg]; omega
theorem Row.set {B N n : Nat} {w : World} {l : List Nat} (h : Row B N n w l) (k x : Nat) (hk : k < N) (hl : l.length = N) : Row B N n (w.setCell ⟨B, k, none⟩ (.int .u8 (x : Int))) (l.set k x) := by
  obtain ⟨cs, hg, hn, hs, hc⟩ := h
  refine ⟨cs.setIfInBounds k (.int .u8 (x : Int)), ?_, hn, by simpa using hs, fun j hj => ?_⟩
  · rw [setCell_eq_setRow w B k cs 5 _ _ hg]; exact setRow_heap w B cs _ 5 _ hg
  · rw [Array.getElem?_setIfInBounds]
    by_cases e : k = j
    · subst e
      rw [if_pos rfl, if_pos (by omega), List.getD_eq_getElem?_getD, List.getElem?_set_self (by omega)]; rfl
    · rw [if_neg e, hc j hj, List.getD_eq_getElem?_getD, List.getD_eq_getElem?_getD, List.getElem?_set_ne e]
theorem byts_getD (s : ByteArray) (j : Nat) : (s.data.toList.getD j 0).toNat = (Giv.byts s).getD j 0 := by
  simp only [Giv.byts, List.getD_eq_getElem?_getD, List.getElem?_map]
  cases s.data.toList[j]? <;> rfl
theorem seal_row (w : World) (s : ByteArray) : Row w.heap.size s.size (Lib.bytesCells w 5 s).size (Lib.bytesWorld w 5 s) (Giv.byts s) := by
  refine ⟨_, Lib.bytesWorld_at_new w 5 s, ?_, rfl, fun j hj => ?_⟩
  · simp [Lib.bytesCells]
  · have := Lib.bytesWorld_cell w 5 s j hj
    rw [cell_of_row _ _ j _ 5 _ (Lib.bytesWorld_at_new w 5 s), byts_getD] at this
    exact this
theorem turn_byte (x r : Nat) (hx : x < 256) : Go.bits .xor .u8 (x : Int) (128 / 2 ^ (r % 8)) = ((x ^^^ 2 ^ (7 - r % 8) : Nat) : Int) := by
  have h : (128 : Int) / 2 ^ (r % 8) = ((2 ^ (7 - r % 8) : Nat) : Int) := by
    have : r % 8 < 8 := Nat.mod_lt _ (by decide)
    generalize r % 8 = q at this ⊢
    rcases (show q = 0 ∨ q = 1 ∨ q = 2 ∨ q = 3 ∨ q = 4 ∨ q = 5 ∨ q = 6 ∨ q = 7 by omega) with rfl | rfl | rfl | rfl | rfl | rfl | rfl | rfl <;> rfl
  rw [h, Crc.u8_xor x _ hx (Nat.pow_lt_pow_right (n := 8) (by omega) (by omega))]
theorem getD_lt {l : List Nat} (h : ∀ c ∈ l, c < 256) (k : Nat) : l.getD k 0 < 256 := by
  rw [List.getD_eq_getElem?_getD]
  by_cases hk : k < l.length
  · rw [List.getElem?_eq_getElem hk]; exact h _ (List.getElem_mem hk)
  · rw [List.getElem?_eq_none (by omega)]; decide
def strN (l : List Nat) : ByteArray := strOfNums (l.map fun c : Nat => (c : Int))
theorem strN_size (l : List Nat) : (strN l).size = l.length := by simp [strN, strOfNums_size]
theorem byts_strN (l : List Nat) (h : ∀ c ∈ l, c < 256) : Giv.byts (strN l) = l := by
  unfold Giv.byts strN
  rw [strOfNums_data, List.map_map, List.map_map]
  conv => rhs; rw [← List.map_id l]
  apply List.map_congr_left
  intro c hc
  have := h c hc
  simp; omega
theorem Row.string {B N n : Nat} {w : World} {l : List Nat} (h : Row B N n w l) (hl : l.length = N) (cap : Nat) :
    (convert 31 9 (.slice (some ⟨B, 0, none⟩) N cap)).run Try.prog w = .ok (.string (strN l)) w := by
  refine run_convert_bytes_arg w 31 5 Try.underlying31 Try.underlying5 B 0 N cap (l.map fun c : Nat => (c : Int)) (by simp [hl]) (fun i hi => ?_) 9 Try.underlying9
  rw [Nat.zero_add, h.cell i hi]
  congr 2
  rw [List.getD_eq_getElem?_getD, List.getD_eq_getElem?_getD, List.getElem?_map, List.getElem?_eq_getElem (by omega)]; rfl
/-- What has a sum that is not 0 is not opened. -/
theorem open_bad (T : ByteArray) (h : 3 ≤ T.size) (hne : sumN T ≠ 0) : openS T = (⟨#[]⟩, 4) := by
  unfold openS
  rw [if_neg (by omega), if_neg]
  intro e
  apply hne
  rw [e, sumN_seal]
set_option maxRecDepth 100000 in
set_option maxHeartbeats 1000000 in
theorem turned_calls (s : ByteArray) (at_ bits : Int) (w : World) (hs : s.size ≤ 3000) (h0 : ¬ at_ < 0) (h1 : ¬ Go.bits .and .i64 bits 16777215 = 0) :
    Calls Try.prog 6 #[.string s, .int .i64 at_, .int .i64 bits] w fun e w' => e = .returned (.bool true) ∧ Below w.heap.size w w' := by
  have h1b : (Go.bits .and .i64 bits 16777215 == 0) = false := by simpa using h1
  have h0b : decide (at_ < 0) = false := by simpa using h0
  clear h0 h1
  go_enter Try.func6, Try.ntmps6
  go_wp2_with (first | (go_at_call 9; refine (short_yes _ _ hs).mono ?_; rintro e w' ⟨rfl, ⟨nd, rfl⟩⟩) | (go_at_call 15; refine (seal_yes _ _ hs).mono ?_; rintro e w1 ⟨rfl, hB1⟩; have hcv := Lib.run_convert_string_bytes (P := Try.prog) w1 9 31 5 (sealS s) Try.underlying9 Try.underlying31 Try.underlying5; have hz := sealS_size s; have hz2 : (8 * ((s.size : Int) + 3) - 23).toNat = 8 * s.size + 1 := by omega))
  obtain ⟨f, hf⟩ : ∃ f : Nat, at_.tmod (8 * ((s.size : Int) + 3) - 23) = f := by
    have : 0 ≤ at_ := by have := of_decide_eq_false h0b; omega
    refine ⟨(at_.tmod (8 * ((s.size : Int) + 3) - 23)).toNat, ?_⟩
    rw [Int.tmod_eq_emod_of_nonneg this]
    have := Int.emod_nonneg at_ (show (8 * ((s.size : Int) + 3) - 23) ≠ 0 by omega)
    omega
  have hfl : f + 24 ≤ 8 * (s.size + 3) := by
    have h : 0 ≤ at_ := by have := of_decide_eq_false h0b; omega
    rw [Int.tmod_eq_emod_of_nonneg h] at hf
    have := Int.emod_lt_of_pos at_ (show 0 < (8 * ((s.size : Int) + 3) - 23) by omega)
    omega
  rw [hf]
  have hrow := seal_row w1 (sealS s)
  have hbel : Below w.heap.size w (Lib.bytesWorld w1 5 (sealS s)) := bytes_below (Below.trans (pw_below_drewN (Below.refl _ _) nd) hB1) hB1.size 5 (sealS s)
  have hsz : w.heap.size ≤ w1.heap.size := hB1.size
  rw [hz] at hrow
  have hlen : (Giv.byts (sealS s)).length = s.size + 3 := by rw [Giv.byts_length, hz]
  generalize (Lib.bytesCells w1 5 (sealS s)).size = n at hrow
  generalize hW : Lib.bytesWorld w1 5 (sealS s) = W at hrow hbel
  generalize grownCap w1 (s.size + 3) 0 5 = cap
  have HL := Lib.hid hlen
  have HN : Hid (bits % 16777216 ≠ 0) := by
    rw [Crc.i64_mask] at h1b
    intro e
    simp [e] at h1b
  clear hcv hz hz2 hf hW h1b h0b hB1 hlen
  generalize w1.heap.size = B at hrow hsz
  go_loopw [9] (fun v wr => ∃ i : Nat, i ≤ 24 ∧ v = .int .i64 i ∧ Row B (s.size + 3) n wr (turned bits f (Giv.byts (sealS s)) i) ∧ Below w.heap.size w wr) (fun v _ => 24 - (intOf v).toNat)
  case atStart => exact ⟨0, by omega, rfl, hrow, hbel⟩
  case round =>
    clear hrow hbel
    obtain ⟨i, hi, rfl, hr, hb⟩ := hrel
    by_cases hlt : i < 24
    · have hc := hr.cell ((f + i) / 8) (by omega)
      have hf := hr.frozen ((f + i) / 8) (by omega)
      cases hbit : bitOf bits i
      · have hbb : ((bits / 2 ^ i).tmod 2 != 0) = false := hbit
        have HB : Hid (bitOf bits i = false) := hbit
        clear hbit
        go_wp2
        exact ⟨⟨i + 1, by omega, by go_num, by rw [turned, turn, if_neg (by rw [HB.out]; simp)]; exact hr, hb⟩, by simp [intOf]; omega⟩
      · have hbb : ((bits / 2 ^ i).tmod 2 != 0) = true := hbit
        have HB : Hid (bitOf bits i = true) := hbit
        clear hbit
        go_wp2
        refine ⟨⟨i + 1, by omega, by go_num, ?_, hb.setCell hsz _⟩, by simp [intOf]; omega⟩
        rw [turned, turn, if_pos HB.out, ← List.getD_eq_getElem?_getD, turn_byte _ _ (getD_lt (turned_lt bits f _ (Giv.byts_lt _) i) _)]
        exact hr.set _ _ (by omega) (by rw [turned_length, HL.out])
    · obtain rfl : i = 24 := by omega
      have hcv := hr.string (by rw [turned_length, HL.out]) cap
      have hsT := strN_size (turned bits f (Giv.byts (sealS s)) 24)
      rw [turned_length, HL.out] at hsT
      have hop := open_bad (strN (turned bits f (Giv.byts (sealS s)) 24)) (by omega) (by
        unfold sumN
        rw [byts_strN _ (turned_lt bits f _ (Giv.byts_lt _) 24)]
        exact turned_ne _ bits f _ (by rw [HL.out]; omega) HN.out (sumN_seal s))
      generalize strN (turned bits f (Giv.byts (sealS s)) 24) = T at hcv hsT hop
      have HO : ∀ w, Calls Try.prog 17 #[.string T] w fun e w' => e = .returned (.tuple #[.string ⟨#[]⟩, .int .i64 4]) ∧ Below w.heap.size w w' := by
        intro w; have := open_yes T w (by omega); rw [hop] at this; exact this
      have HH := Lib.hid HO
      clear hop HO hsT hr
      go_wp2_with (first | (go_at_call 17; refine (HH.out _).mono ?_; rintro e w2 ⟨rfl, hB2⟩) | (go_at_call 10; refine (live_yes _).mono ?_; rintro e w3 ⟨rfl, hB3⟩))
      go_ret
      exact ⟨rfl, below_then (below_then hb hb.size hB2) (Nat.le_trans hb.size hB2.size) hB3⟩
set_option maxRecDepth 100000 in
set_option maxHeartbeats 1000000 in
theorem short_turned (s : ByteArray) (at_ bits : Int) (w : World) (hs : ¬ s.size ≤ 3000) :
    Calls Try.prog 6 #[.string s, .int .i64 at_, .int .i64 bits] w fun e w' => e = .returned (.bool true) ∧ Below w.heap.size w w' := by
  go_enter Try.func6, Try.ntmps6
  go_wp2_with (first | (go_at_call 9; refine (short_no _ _ hs).mono ?_; rintro e w' ⟨rfl, ⟨nd, rfl⟩⟩) | (go_at_call 10; refine (live_yes _).mono ?_; rintro e w3 ⟨rfl, hB3⟩))
  go_ret
  exact ⟨rfl, Below.trans (pw_below_drewN (Below.refl _ _) nd) hB3⟩
set_option maxRecDepth 100000 in
set_option maxHeartbeats 1000000 in
theorem neg_turned (s : ByteArray) (at_ bits : Int) (w : World) (hs : s.size ≤ 3000) (h0 : at_ < 0) :
    Calls Try.prog 6 #[.string s, .int .i64 at_, .int .i64 bits] w fun e w' => e = .returned (.bool true) ∧ Below w.heap.size w w' := by
  have h0b : decide (at_ < 0) = true := by simpa using h0
  clear h0
  go_enter Try.func6, Try.ntmps6
  go_wp2_with (first | (go_at_call 9; refine (short_yes _ _ hs).mono ?_; rintro e w' ⟨rfl, ⟨nd, rfl⟩⟩) | (go_at_call 10; refine (live_yes _).mono ?_; rintro e w3 ⟨rfl, hB3⟩))
  go_ret
  exact ⟨rfl, Below.trans (pw_below_drewN (Below.refl _ _) nd) hB3⟩
set_option maxRecDepth 100000 in
set_option maxHeartbeats 1000000 in
theorem none_turned (s : ByteArray) (at_ bits : Int) (w : World) (hs : s.size ≤ 3000) (h0 : ¬ at_ < 0) (h1 : Go.bits .and .i64 bits 16777215 = 0) :
    Calls Try.prog 6 #[.string s, .int .i64 at_, .int .i64 bits] w fun e w' => e = .returned (.bool true) ∧ Below w.heap.size w w' := by
  have h1b : (Go.bits .and .i64 bits 16777215 == 0) = true := by simpa using h1
  have h0b : decide (at_ < 0) = false := by simpa using h0
  clear h0 h1
  go_enter Try.func6, Try.ntmps6
  go_wp2_with (first | (go_at_call 9; refine (short_yes _ _ hs).mono ?_; rintro e w' ⟨rfl, ⟨nd, rfl⟩⟩) | (go_at_call 10; refine (live_yes _).mono ?_; rintro e w3 ⟨rfl, hB3⟩))
  go_ret
  exact ⟨rfl, Below.trans (pw_below_drewN (Below.refl _ _) nd) hB3⟩
theorem walk (s : ByteArray) (at_ bits : Int) (w : World) (_ : s.size ≤ 140737488351232) (_ : (Lit.int .i64 at_).wf = true) (_ : (Lit.int .i64 bits).wf = true) :
    Calls Try.prog 6 #[.string s, .int .i64 at_, .int .i64 bits] w fun e w' => e = .returned (.bool true) ∧ Below w.heap.size w w' := by
  by_cases hs : s.size ≤ 3000
  · by_cases h0 : at_ < 0
    · exact neg_turned s at_ bits w hs h0
    · by_cases h1 : Go.bits .and .i64 bits 16777215 = 0
      · exact none_turned s at_ bits w hs h0 h1
      · exact turned_calls s at_ bits w hs h0 h1
  · exact short_turned s at_ bits w hs
end Go.Proofs.Ytiapjnidahonaaa.Tw

/- KeysCut: the walk. -/
import Derived.Test.YtmgdikfgejablaaDoorKb
set_option linter.unusedVariables false
set_option linter.unusedSimpArgs false
namespace Go.Proofs.YtmgdikfgejablaaDoor.Kc
open Go.RowKit Go.Proofs.YtmgdikfgejablaaDoor.Ky Go.Proofs.YtmgdikfgejablaaDoor.Kd Go.Proofs.YtmgdikfgejablaaDoor.Ke Go.Proofs.YtmgdikfgejablaaDoor.Kn Go.Proofs.YtmgdikfgejablaaDoor.Ko Go.Proofs.YtmgdikfgejablaaDoor.Kl Go.Proofs.YtmgdikfgejablaaDoor.Kv Go.Proofs.YtmgdikfgejablaaDoor.Kp Go.Proofs.YtmgdikfgejablaaDoor.Kb Go.Proofs.YtmgdikfgejablaaDoor.P Go.Proofs.YtmgdikfgejablaaDoorW.PrintWords Go.Proofs.YtmgdikfgejablaaDoorW.PrintLast Go.Proofs.YtmgdikfgejablaaDoorW.PrintMore
attribute [local go_sem] min2_int min_two
def sz : Value → Nat | .string s => s.size | _ => 0
theorem nats_nil {s : ByteArray} (h : s.size = 0) : nats s = [] := List.eq_nil_of_length_eq_zero (by rw [nats_len]; exact h)
theorem nats_cut (r : ByteArray) (n : Nat) : nats (r.extract 0 n) ++ nats (r.extract n r.size) = nats r := by
  have hz : r.data.toList.length = r.size := Array.length_toList
  unfold nats
  rw [← List.map_append]
  congr 1
  simp only [ByteArray.data_extract, Array.toList_extract, List.extract_eq_take_drop, List.drop_zero, Nat.sub_zero]
  rw [List.take_of_length_le (i := r.size - n) (by rw [List.length_drop]; omega), List.take_append_drop]
theorem run_fst_len (l : List Nat) (w : List Nat) (h : Waits w) : (run w l).1.length + (run w l).2.length ≤ w.length + l.length := (run_waits l w h).2
theorem same_c {W : World} {c c2 n : Nat} {A B : Option Addr} {l : List Key} (hn : l.length = n) (hl : n ≤ 1000000) (h : Kd.C k45 W A (l.map s45).length (l.map s45)) (hc : n ≤ c) (h2 : Kd.C k45 W B (l.map s45).length (l.map s45)) (hc2 : n ≤ c2) :
    Calls Tryd.prog 11 #[.slice A n c, .slice B n c2] W fun e w' => e = .returned (.bool true) ∧ Below W.heap.size W w' := by
  subst hn
  exact same_calls hl h hc h2 hc2
def Post (w : World) (e : Ending) (w' : World) : Prop := e = .returned (.bool true) ∧ Below w.heap.size w w'
set_option maxHeartbeats 8000000 in
set_option maxRecDepth 100000 in
theorem cut_ok (s : ByteArray) (m : Nat) (w : World) (hL : Laid w) (hs : s.size ≤ 300) (hm : 1 ≤ m) :
    Calls Tryd.prog 5 #[.string s, .int .i64 m] w fun e w' => e = .returned (.bool true) ∧ Below w.heap.size w w' := by
  have HL := Lib.hid hL
  have d1 : decide ((300 : Int) < (s.size : Nat)) = false := decide_eq_false (by omega)
  have d2 : decide ((m : Int) < 1) = false := decide_eq_false (by omega)
  have HM := Lib.hid hm
  have HS := Lib.hid hs
  clear hL hm hs
  go_enter Tryd.func5, Tryd.ntmps5
  go_upto_region 4 with (go_at_call 10; refine (New_box w).mono ?_; rintro e w1 ⟨rfl, hB1, hn1⟩)
  have HB1 := Lib.hid hB1
  have hlt1 := blk_lt hn1
  obtain ⟨g1, hg1⟩ : ∃ g1, g1 = w.heap.size := ⟨_, rfl⟩
  have HG := Lib.hid hg1
  rw [← hg1] at hn1 hlt1 ⊢
  have HN1 := Lib.hid hn1
  clear hB1 hn1 hg1 d1 d2
  go_upto_region 7 with (go_at_call 10; refine (New_box w1).mono ?_; rintro e w2 ⟨rfl, hB2, hn2⟩)
  have hW2 : Below w.heap.size w w2 := below_then HB1.out HB1.out.size hB2
  have hlt2 := blk_lt hn2
  obtain ⟨g2, hg2⟩ : ∃ g2, g2 = w1.heap.size := ⟨_, rfl⟩
  rw [← hg2] at hn2 hlt2 ⊢
  have hK1 : Kr (Kq (fun _ => none) g2 (.cells #[fnV 20 g2, .slice none 0 0, .slice none 0 0] 49 (0, 0))) w w2 g1 (fnV 20 g1) [] [] :=
    Kr.fresh _ hW2 (by rw [HG.out]; exact Nat.le_refl _) ((hB2.block g1 (by omega)).trans HN1.out) (fun j o hj => by
      unfold Kq at hj
      by_cases hc : j = g2
      · rw [if_pos hc] at hj
        rw [← Option.some.inj hj, hc]
        exact ⟨hn2, by omega⟩
      · rw [if_neg hc] at hj; cases hj)
  have hg2w : w.heap.size ≤ g2 := by rw [hg2]; exact HB1.out.size
  have HG2 := Lib.hid hg2w
  have hF1 := Feed_calls (w := []) HL.out hK1 trivial s (by have := HS.out; omega)
  obtain ⟨ksa, hksa⟩ : ∃ ksa, ksa = (run [] (nats s)).1 := ⟨_, rfl⟩
  obtain ⟨wa, hwa⟩ : ∃ wa, wa = (run [] (nats s)).2 := ⟨_, rfl⟩
  obtain ⟨na, hna⟩ : ∃ na, ksa.length = na := ⟨_, rfl⟩
  have hln := run_fst_len (nats s) [] trivial
  rw [← hksa, ← hwa, nats_len, hna, List.length_nil, Nat.zero_add] at hln
  rw [← hksa, ← hwa] at hF1
  replace hF1 := hF1.mono (fun e w' h => toldN hna h)
  unfold ToldN at hF1
  have HNA := Lib.hid hna
  have HKA := Lib.hid hksa
  have HWA := Lib.hid hwa
  have HLN := Lib.hid hln
  clear hK1 hn2 hlt2 hlt1 hB2 hg2 hW2 hg2w hksa hwa hna hln
  go_upto_region 8 with (go_at_call 15; go_loud (refine hF1.mono ?_; rintro e w3 ⟨A3, c3, rfl, hr3, hK3, hf3⟩))
  obtain ⟨hb3, hall3⟩ := hf3 g2 _ (by unfold Kq; rw [if_pos rfl])
  obtain ⟨KA, hKA1, hKA2, hKA3⟩ := Kr.saved hK3 hr3
  have hb2 : Kr KA w w3 g2 (fnV 20 g2) [] [] := Kr.fresh KA hK3.bl HG2.out hb3 (fun j o hj => ⟨hKA1 j o hj, fun e => by
    have := hKA2 j (fun _ _ _ => trivial) ⟨_, Kt_old (by rw [e]; exact hall3) (by unfold Kq; rw [if_pos e])⟩ (by rw [e]; exact hall3)
    rw [this] at hj; cases hj⟩)
  have HC := Lib.hid (Cs.start hb2)
  have HK3 := Lib.hid hKA3
  clear hF1 hr3 hK3 hf3 hb3 hall3 hKA1 hKA2 hKA3 hb2
  go_upto_region 10 with fail
  go_loopw [8, 9] (fun v8 v9 wr => ∃ (r : ByteArray) (wb : List Nat) (ks : List Key) (nk : Nat), v9 = .string r ∧ Hid (ks ++ (run wb (nats r)).1 = ksa) ∧ Hid ((run wb (nats r)).2 = wa) ∧ Hid (Waits wb) ∧ ks.length = nk ∧ nk + wb.length + r.size ≤ 1000 ∧ Hid (Cs KA w wr g2 (Kf.nx g2 wb) wb ks v8)) (fun _ v9 _ => sz v9)
  case atStart => exact ⟨s, [], [], 0, rfl, Lib.hid (by rw [HKA.out]; rfl), Lib.hid HWA.out.symm, Lib.hid trivial, rfl, by have := HS.out; rw [List.length_nil]; omega, HC⟩
  case round =>
    clear HC
    obtain ⟨r, wb, ks, nk, rfl, HR1, HR2, HWB, hnk, hrs, HX⟩ := hrel
    have hrow := HX.out.row
    rw [hnk] at hrow
    obtain ⟨A8, cp, rfl⟩ := own_slice hrow
    have HNK := Lib.hid hnk
    clear hnk
    by_cases hr : r.size = 0
    · have n1 : r.toList.isEmpty = true := by rw [ByteArray.toList_eq, List.isEmpty_iff, ← List.length_eq_zero_iff, Array.length_toList]; exact hr
      have hk : ks = ksa := by have := HR1.out; rw [nats_nil hr] at this; simpa [run] using this
      have hwb : wb = wa := by have := HR2.out; rw [nats_nil hr] at this; simpa [run] using this
      obtain ⟨hA, hAr⟩ := HK3.out wr HX.out.b.bl (fun j o hj => (HX.out.old j o hj).1)
      have hnn : nk = na := by rw [← HNK.out, hk]; exact HNA.out
      have hN := HNA.out
      have hrow2 : wr.ownsRow w.heap.size 50 2 (.slice A8 na cp) na (flat ksa) := by rw [← hk, ← hnn]; exact hrow
      have hBk := HX.out.b
      rw [hwb] at hBk
      rw [hnn]
      have hle := HLN.out
      have hle2 : decide ((na : Int) + (wa.length : Int) ≤ (s.size : Int)) = true := decide_eq_true (by omega)
      have hna2 : na ≤ 1000000 := by have := HS.out; omega
      have hnw : na + wa.length ≤ 300 := by have := HS.out; omega
      have HA := Lib.hid hA
      have HAr := Lib.hid hAr
      have HBr := Lib.hid hrow2
      have HBk := Lib.hid hBk
      clear hA hAr hrow hrow2 hBk hrs hr hk hwb hnn hN hle HX HK3 HNK HR1 HR2 HWB
      go_wp2_with (first
        | (go_at_call 12; first
            | ((with_reducible refine (told_n HNA.out HAr.out hna2).mono ?_); rintro e w5 ⟨A5, c5, rfl, hB5, hc5, hC5⟩; have HB5 := Lib.hid hB5; have HC5 := Lib.hid hC5; clear hB5 hC5)
            | ((with_reducible refine (told_n HNA.out (row_below HBr.out HB5.out) hna2).mono ?_); rintro e w6 ⟨A6, c6, rfl, hB6, hc6, hC6⟩; have HB6 := Lib.hid (below_then HB5.out HB5.out.size hB6); have HC6 := Lib.hid hC6; have HC56 := Lib.hid (Kd.C_below HC5.out hB6); clear hB6 hC6))
        | (go_at_call 11; (with_reducible refine (same_c HNA.out hna2 HC56.out hc5 HC6.out hc6).mono ?_); rintro e w7 ⟨rfl, hB7⟩; have HB7 := Lib.hid (below_then HB6.out HB6.out.size hB7); clear hB7)
        | (go_at_call 17; first
            | ((with_reducible refine (Waits_calls (HA.out.below HB7.out)).mono ?_); rintro e w8 ⟨rfl, hw8⟩; subst hw8)
            | ((with_reducible refine (Waits_calls (HBk.out.below HB7.out)).mono ?_); rintro e w8 ⟨rfl, hw8⟩; subst hw8))
        | (go_at_call 9; refine (live_calls _ (HL.out.below (below_then HA.out.bl HA.out.bl.size HB7.out))).mono ?_; rintro e w9 ⟨rfl, hB9⟩))
      go_ret
      exact ⟨rfl, below_then (below_then HA.out.bl HA.out.bl.size HB7.out) (below_then HA.out.bl HA.out.bl.size HB7.out).size hB9⟩
    · have n1 : r.toList.isEmpty = false := by
        rw [ByteArray.toList_eq]
        cases e : r.data.toList with
        | nil => exact absurd (by rw [← Array.length_toList (xs := r.data), e]; rfl : r.data.size = 0) hr
        | cons _ _ => rfl
      obtain ⟨n, hn1, hn2, hn3⟩ : ∃ n : Nat, 1 ≤ n ∧ n ≤ r.size ∧ (if r.size < m then (r.size : Int) else (m : Int)) = (n : Int) := by
        by_cases h : r.size < m
        · exact ⟨r.size, by omega, Nat.le_refl _, if_pos h⟩
        · exact ⟨m, HM.out, by omega, if_neg h⟩
      have hy : (r.extract 0 n).size = n := by rw [ByteArray.size_extract]; omega
      have hz : (r.extract n r.size).size = r.size - n := by rw [ByteArray.size_extract]; omega
      have hcut := nats_cut r n
      have hap := run_app (nats (r.extract 0 n)) (nats (r.extract n r.size)) wb
      rw [hcut] at hap
      have hq1 := HR1.out
      have hq2 := HR2.out
      rw [hap] at hq1 hq2
      simp only at hq1 hq2
      rw [← List.append_assoc] at hq1
      obtain ⟨hwt, hwl⟩ := run_waits (nats (r.extract 0 n)) wb HWB.out
      have hw6 := waits_len wb HWB.out
      rw [nats_len, hy] at hwl
      have hF1 := Feed_calls HL.out HX.out.b HWB.out (r.extract 0 n) (by omega)
      generalize hwb2 : (run wb (nats (r.extract 0 n))).2 = wb2 at *
      generalize hks2 : (run wb (nats (r.extract 0 n))).1 = ks2 at *
      obtain ⟨n2, hn2'⟩ : ∃ n2, ks2.length = n2 := ⟨_, rfl⟩
      rw [hn2'] at hwl
      replace hF1 := hF1.mono (fun e w' h => toldN hn2' h)
      unfold ToldN at hF1
      have hsum : (ks ++ ks2).length = nk + n2 := by rw [List.length_append, HNK.out, hn2']
      have G : Hid (nk + n2 + wb2.length + (r.extract n r.size).size ≤ 1000 ∧ r.size - n < r.size) := Lib.hid ⟨by omega, by omega⟩
      have HQ1 := Lib.hid hq1
      have HQ2 := Lib.hid hq2
      have HWT := Lib.hid hwt
      have HZ := Lib.hid hz
      have HSUM := Lib.hid hsum
      have HROW := Lib.hid hrow
      have hgo : (nk + n2) * 16 ≤ 140737488355328 := by omega
      have HF : Hid (flat (ks ++ ks2) = flat ks ++ flat ks2) := Lib.hid (flat_app ks ks2)
      clear hcut hap hq1 hq2 hwt hwl hw6 hy hz hsum HR1 HR2 HWB hrs hrow hwb2 hks2 hn2' hr
      go_wp2_with (first
        | (go_at_call 15; go_loud (refine hF1.mono ?_; rintro e w4 ⟨A4, c4, rfl, hR4, hK4, hf4⟩; have HX4 := Lib.hid (HX.out.fed hK4 hf4); have hrow4 := HX4.out.row; rw [HNK.out] at hrow4; have HROW4 := Lib.hid hrow4; have HR4 := Lib.hid hR4; clear hR4 hK4 hf4 hrow4))
        | (at_builtin; go_loud (refine append_rows (w0 := w) w.heap.size w.heap.size rfl _ _ 33 50 (.agg #[.int .i64 0, .int .i64 0]) 2 16 rfl Tryd.underlying33 info50 rfl (by decide) (by decide) (.slice A8 nk cp) nk (flat ks) (flat ks2) A4 _ c4 rfl rfl (flat_cells _) HROW4.out HR4.out HX4.out.b.bl HX4.out.b.bl.size hgo ?_; intro v1 w5 hown hB5 hg5 hat5; obtain ⟨O2, hO2⟩ : ∃ O2, O2 = ks ++ ks2 := ⟨_, rfl⟩; obtain ⟨p2, hp2⟩ : ∃ p2, p2 = nk + n2 := ⟨_, rfl⟩; rw [← HF.out, ← hO2, ← hp2] at hown; have hlO : O2.length = p2 := (by rw [hO2, hp2]; exact HSUM.out); obtain ⟨A2, k2, rfl⟩ := own_slice hown; rw [← hlO] at hown hat5; have hX5 := HX4.out.push hown hg5 hat5; rw [hlO] at hX5; have HX5 := Lib.hid hX5; have HO2 := Lib.hid hO2; have HP2 := Lib.hid hp2; have HLO := Lib.hid hlO; clear hown hB5 hg5 hat5 hX5 hO2 hp2 hlO)))
      go_roundw
      case rel => exact ⟨r.extract n r.size, wb2, O2, p2, rfl, Lib.hid (by rw [HO2.out]; exact HQ1.out), HQ2, HWT, HLO.out, by rw [HP2.out]; exact G.out.1, HX5⟩
      case measure => simp only [sz]; rw [HZ.out]; exact G.out.2
set_option maxRecDepth 100000 in
theorem cut_law (s : ByteArray) (m : Int) (w : World) (hL : Laid w) : Calls Tryd.prog 5 #[.string s, .int .i64 m] w fun e w' => e = .returned (.bool true) ∧ Below w.heap.size w w' := by
  by_cases hs : s.size ≤ 300
  · by_cases hm : 1 ≤ m
    · obtain ⟨k, rfl⟩ : ∃ k : Nat, m = (k : Int) := ⟨m.toNat, by omega⟩
      exact cut_ok s k w hL hs (by omega)
    · have HL := Lib.hid hL
      have d1 : decide ((300 : Int) < (s.size : Nat)) = false := decide_eq_false (by omega)
      have d2 : decide (m < 1) = true := decide_eq_true (by omega)
      clear hs hm hL
      go_enter Tryd.func5, Tryd.ntmps5
      go_wp2_with (go_at_call 9; refine (live_calls _ HL.out).mono ?_; rintro e w6 ⟨rfl, hB6⟩)
      go_ret
      exact ⟨rfl, hB6⟩
  · have HL := Lib.hid hL
    have d1 : decide ((300 : Int) < (s.size : Nat)) = true := decide_eq_true (by omega)
    clear hs hL
    go_enter Tryd.func5, Tryd.ntmps5
    go_wp2_with (go_at_call 9; refine (live_calls _ HL.out).mono ?_; rintro e w6 ⟨rfl, hB6⟩)
    go_ret
    exact ⟨rfl, hB6⟩
end Go.Proofs.YtmgdikfgejablaaDoor.Kc

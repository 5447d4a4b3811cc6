/- KeysReads: the walk. -/
import Derived.Test.YtmgdikfgejablaaDoorRg
set_option linter.unusedVariables false
set_option linter.unusedSimpArgs false
namespace Go.Proofs.YtmgdikfgejablaaDoor.Kr2
open Go.RowKit Go.Proofs.YtmgdikfgejablaaDoor.Ky Go.Proofs.YtmgdikfgejablaaDoor.Kd Go.Proofs.YtmgdikfgejablaaDoor.Ke Go.Proofs.YtmgdikfgejablaaDoor.Kn Go.Proofs.YtmgdikfgejablaaDoor.Ko Go.Proofs.YtmgdikfgejablaaDoor.Kl Go.Proofs.YtmgdikfgejablaaDoor.Kv Go.Proofs.YtmgdikfgejablaaDoor.Rf Go.Proofs.YtmgdikfgejablaaDoor.Rg Go.Proofs.YtmgdikfgejablaaDoor.P Go.Proofs.YtmgdikfgejablaaDoorW.PrintWords Go.Proofs.YtmgdikfgejablaaDoorW.PrintLast
theorem waits_b {w1 W : World} {g h : Nat} {S : ByteArray} (H : Bt w1 W g h S) : Calls Tryd.prog 17 #[.pointer (some ⟨g, 0, none⟩)] W fun e w' => e = .returned (.int .i64 (S.size : Nat)) ∧ w' = W := by
  refine (Waits_calls H.rd).mono ?_
  rintro e w' ⟨rfl, h⟩
  exact ⟨by rw [nats_len], h⟩
/-- The reference's reader is fed what the program's was. -/
theorem feed_ref {w1 w6 : World} {g h n : Nat} {S y : ByteArray} {ks : List Key} {w : List Nat} {v : Value} (H : Mid w1 w6 g h S ks w 45 v n) (hw : run (nats S) (nats y) = (ks, w)) (wt : Waits (nats S)) (rn : run [] (nats S) = ([], nats S)) (hS : S.size ≤ 6) (hy : y.size ≤ 300) :
    Calls Tryd.prog 16 #[.pointer (some ⟨h, 0, none⟩), .string y] w6 fun e w7 => ∃ A c S2, e = .returned (.slice A n c) ∧ Bt w1 w7 g h S2 ∧ w7.ownsRow w1.heap.size 45 2 v n (flat ks) ∧ w7.ownsRow w6.heap.size 45 2 (.slice A n c) n (flat ks) := by
  refine (refFeed_calls H.b (by omega) y (by omega)).mono ?_
  rintro e w7 ⟨A, c, n3, ks3, S2, rfl, hX, hn, h1, h2⟩
  have h3 : run [] (nats (S ++ y)) = (ks, w) := by rw [show nats (S ++ y) = nats S ++ nats y by simp [nats], run_app, rn]; show (([] ++ (run (nats S) (nats y)).1), (run (nats S) (nats y)).2) = _; rw [hw, List.nil_append]
  rw [h1] at h3
  injection h3 with h4 h5
  subst h4
  obtain rfl : n3 = n := hn.symm.trans H.len
  obtain ⟨hB, hr⟩ := H.ref hX h5 (by rw [← show (run (nats S) (nats y)).2 = w by rw [hw]]; exact (run_waits _ _ wt).1) (by rw [← h5]; exact h2)
  exact ⟨A, c, S2, rfl, hB, hr, hX.row⟩
theorem flush_ref {w1 w6 : World} {g h n : Nat} {S : ByteArray} {v : Value} (H : Mid w1 w6 g h S (flushK (nats S)) [] 45 v n) :
    Calls Tryd.prog 14 #[.pointer (some ⟨h, 0, none⟩)] w6 fun e w7 => ∃ A c S2, e = .returned (.slice A n c) ∧ Bt w1 w7 g h S2 ∧ w7.ownsRow w1.heap.size 45 2 v n (flat (flushK (nats S))) ∧ w7.ownsRow w6.heap.size 45 2 (.slice A n c) n (flat (flushK (nats S))) := by
  refine (refFlush_calls H.b).mono ?_
  rintro e w7 ⟨A, c, n3, rfl, hX, hn⟩
  obtain rfl : n3 = n := hn.symm.trans H.len
  obtain ⟨hB, hr⟩ := H.ref hX rfl trivial rfl
  exact ⟨A, c, _, rfl, hB, hr, hX.row⟩
theorem flush_len (w : List Nat) : (flushK w).length ≤ 1 := by unfold flushK; split <;> (try split) <;> simp
theorem bt_cell {w1 W : World} {g h : Nat} {S : ByteArray} (H : Bt w1 W g h S) : W.cell? ⟨h, 0, none⟩ = some (.string S) := by rw [blk_cell H.b]; rfl
set_option maxHeartbeats 8000000 in
set_option maxRecDepth 100000 in
theorem reads_ok (A : Option Addr) (c : Nat) (xs : List ByteArray) (w : World) (hL : Laid w) (hC : Kd.C Kd.string w A xs.length xs) (hc : xs.length ≤ c) (hs : shortB xs = true) :
    Calls Tryd.prog 3 #[.slice A xs.length c] w fun e w' => e = .returned (.bool true) ∧ Below w.heap.size w w' := by
  have hsh := short_calls A c xs w hC hc
  rw [hs] at hsh
  obtain ⟨hlen, hall⟩ := (shortB_iff xs).1 hs
  have HL := Lib.hid hL
  have HC := Lib.hid hC
  have HA := Lib.hid hall
  clear hL hC hs hc hall
  go_enter Tryd.func3, Tryd.ntmps3
  go_upto_region 6 with (first
    | (go_at_call 8; refine hsh.mono ?_; rintro e w1 ⟨rfl, hD⟩)
    | (go_at_call 10; refine (New_calls (fun _ => none) _ (fun _ _ h => by cases h)).mono ?_; rintro e w3 ⟨g, rfl, hR3⟩))
  have HB1 := Lib.hid (drawn_below hD)
  go_upto_region 8 with fail
  have hBt : Hid (Bt w1 (w3.alloc (Obj.cells #[.string ⟨#[]⟩] 29)) g w3.heap.size ⟨#[]⟩) := by
    have hb := below_alloc (Below.refl w3.heap.size w3) (Obj.cells #[.string ⟨#[]⟩] 29)
    obtain ⟨bv, tv, hR⟩ := hR3.ex
    have hg := blk_lt hR.hb
    refine Lib.hid ⟨⟨below_then hR3.bl hR3.bl.size hb, bv, tv, (hb.block g hg).trans hR.hb, hR.hg, own_keep hR.br (fun j hj => hb.block j (own_lt hR.br j hj)), own_keep hR.tr (fun j hj => hb.block j (own_lt hR.tr j hj)), fun j o hj => ?_⟩, hR3.bl.size, trivial, rfl⟩
    obtain ⟨rfl, rfl⟩ := Kh_some hj
    exact ⟨heap_alloc_new _ _, by omega, fun e => by have := own_lt hR.br _ e; omega, fun e => by have := own_lt hR.tr _ e; omega⟩
  clear hD hsh hR3
  generalize w3.heap.size = h at hBt ⊢
  generalize w3.alloc (Obj.cells #[.string ⟨#[]⟩] 29) = w4 at hBt ⊢
  go_loopw [5] (fun v5 wr => ∃ (k : Nat) (S : ByteArray), v5 = .int .i64 k ∧ k ≤ xs.length ∧ Hid (Bt w1 wr g h S)) (fun v5 _ => xs.length - (intOf v5).toNat)
  case atStart => exact ⟨0, ⟨#[]⟩, rfl, Nat.zero_le _, hBt⟩
  case round =>
    clear hBt
    obtain ⟨k, S, rfl, hk, HB⟩ := hrel
    have hL1 : Laid w1 := HL.out.below HB1.out
    have HL1 := Lib.hid hL1
    clear hL1
    by_cases hlt : k < xs.length
    · obtain ⟨ad, rfl, cw⟩ := Kd.at_string HC.out (k : Int) (by omega) (by omega)
      rw [rdOf_nat xs k hlt, Int.toNat_natCast] at cw
      have c0 := pw_cell_below (below_then HB1.out HB1.out.size HB.out.rd.bl) cw
      have CW := Lib.hid cw
      clear cw
      have hy : xs[k].size ≤ 300 := HA.out _ (List.getElem_mem hlt)
      generalize xs[k] = y at c0 hy CW
      have hS := HB.out.size
      by_cases h0 : y.size = 0
      · have n1 : y.toList.isEmpty = true := by rw [ByteArray.toList_eq, List.isEmpty_iff, ← List.length_eq_zero_iff, Array.length_toList]; exact h0
        have hF1 := Flush_calls HB.out.rd
        have hfl := flush_len (nats S)
        have hmm : (flushK (nats S)).length ≤ 1000000 := by omega
        clear hfl h0 hy
        go_upto_region 15 with (first
          | (go_at_call 13; go_loud (refine hF1.mono ?_; rintro e w5 hT; obtain ⟨A5, c5, n5, rfl, hn5, hM5⟩ := Bt.told HB.out.hh hT; have hn6 : n5 ≤ 1000000 := (by rw [hn5]; exact hmm); have hT6 := told_own hM5.len hM5.row hn6; have HM5 := Lib.hid hM5; clear hT hM5 hn5))
          | (go_at_call 12; go_loud (refine hT6.mono ?_; rintro e w6 ⟨A6, c6, rfl, hB6, hr6⟩; have HM6 := Lib.hid (HM5.out.turn hB6 hr6); have hR7 := flush_ref HM6.out; clear hB6 hr6))
          | (go_at_call 14; go_loud (refine hR7.mono ?_; rintro e w7 ⟨A7, c7, S7, rfl, hB7, hr7, hq7⟩; have hS8 := same_own HM6.out.len hn6 hr7 hq7; have HB7 := Lib.hid hB7; clear hB7 hr7 hq7))
          | (go_at_call 11; go_loud (refine hS8.mono ?_; rintro e w8 ⟨rfl, hb8⟩; have HB8 := Lib.hid (HB7.out.below hb8); clear hb8)))
        clear hF1 hT6 hR7 hS8 HM5 HM6 HB7 c0
        have hz := HB8.out.size
        have HBd := Lib.hid (HB8.out.below (below_drew (Below.refl _ _)))
        have x8 := bt_cell HBd.out
        have e7 : decide ((7 : Int) < (S7.size : Nat)) = false := decide_eq_false (by omega)
        clear HB8 hz
        go_region_with (go_at_call 17; go_loud (refine (waits_b HBd.out).mono ?_; rintro e w9 ⟨rfl, hw9⟩; subst hw9))
        all_goals
          go_wp2
          go_roundw
          case rel => exact ⟨k + 1, S7, by go_num, by omega, HBd⟩
          case measure => simp [intOf]; omega
      · have n1 : y.toList.isEmpty = false := by
          rw [ByteArray.toList_eq]
          cases e : y.data.toList with
          | nil => exact absurd (by rw [← Array.length_toList (xs := y.data), e]; rfl : y.data.size = 0) h0
          | cons _ _ => rfl
        have HBd0 := Lib.hid (HB.out.below (below_drew (Below.refl _ _)))
        have d0 := pw_cell_below (below_drew (Below.refl wr.heap.size wr)) c0
        have hF1 := Feed_calls HL1.out HBd0.out.rd HB.out.wt y (by omega)
        have hwl := (run_waits (nats y) (nats S) HB.out.wt).2
        rw [nats_len, nats_len] at hwl
        obtain ⟨ks, wk, hrun⟩ : ∃ ks wk, run (nats S) (nats y) = (ks, wk) := ⟨_, _, rfl⟩
        rw [hrun] at hF1 hwl
        have hmm : ks.length ≤ 1000000 := by simp only at hwl; omega
        have HRUN := Lib.hid hrun
        have HY := Lib.hid hy
        clear hwl h0 hrun
        go_upto_region 13 with fail
        go_region_with ((first
          | (go_at_call 15; go_loud (refine hF1.mono ?_; rintro e w5 hT; obtain ⟨A5, c5, n5, rfl, hn5, hM5⟩ := Bt.told HB.out.hh hT; have hn6 : n5 ≤ 1000000 := (by rw [hn5]; exact hmm); have hT6 := told_own hM5.len hM5.row hn6; have d5 := pw_cell_below (below_then HB1.out HB1.out.size hM5.rd.bl) CW.out; have HM5 := Lib.hid hM5; clear hT hM5 hn5))
          | (go_at_call 12; go_loud (refine hT6.mono ?_; rintro e w6 ⟨A6, c6, rfl, hB6, hr6⟩; have HM6 := Lib.hid (HM5.out.turn hB6 hr6); have hR7 := feed_ref HM6.out HRUN.out HB.out.wt HB.out.rn hS HY.out; have d6 := pw_cell_below hB6 d5; clear hB6 hr6))
          | (go_at_call 16; go_loud (refine hR7.mono ?_; rintro e w7 ⟨A7, c7, S7, rfl, hB7, hr7, hq7⟩; have hS8 := same_own HM6.out.len hn6 hr7 hq7; have d7 := pw_cell_below (below_then HB1.out HB1.out.size hB7.rd.bl) CW.out; have HB7 := Lib.hid hB7; clear hB7 hr7 hq7))
          | (go_at_call 11; go_loud (refine hS8.mono ?_; rintro e w8 ⟨rfl, hb8⟩; have HB8 := Lib.hid (HB7.out.below hb8); clear hb8))))
        all_goals
          go_upto_region 15 with fail
          clear hF1 hT6 hR7 hS8 HM5 HM6 HB7 c0 d0 d5 d6 d7 HBd0
          have hz := HB8.out.size
          have HBd := Lib.hid (HB8.out.below (below_drew (Below.refl _ _)))
          have x8 := bt_cell HBd.out
          have e7 : decide ((7 : Int) < (S7.size : Nat)) = false := decide_eq_false (by omega)
          clear HB8 hz
          go_region_with (go_at_call 17; go_loud (refine (waits_b HBd.out).mono ?_; rintro e w9 ⟨rfl, hw9⟩; subst hw9))
          all_goals
            go_wp2
            go_roundw
            case rel => exact ⟨k + 1, S7, by go_num, by omega, HBd⟩
            case measure => simp [intOf]; omega
    · obtain rfl : k = xs.length := by omega
      go_wp2_with (go_at_call 9; refine (live_calls _ (HL1.out.below HB.out.rd.bl)).mono ?_; rintro e w6 ⟨rfl, hB6⟩)
      go_ret
      exact ⟨rfl, below_then (below_then HB1.out HB1.out.size HB.out.rd.bl) (below_then HB1.out HB1.out.size HB.out.rd.bl).size hB6⟩
set_option maxRecDepth 100000 in
theorem reads_law (A : Option Addr) (c : Nat) (xs : List ByteArray) (w : World) (hL : Laid w) (hc : xs.length ≤ c) (hC : Kd.C Kd.string w A xs.length xs) :
    Calls Tryd.prog 3 #[.slice A xs.length c] w fun e w' => e = .returned (.bool true) ∧ Below w.heap.size w w' := by
  cases hs : shortB xs with
  | true => exact reads_ok A c xs w hL hC hc hs
  | false =>
    have hsh := short_calls A c xs w hC hc
    rw [hs] at hsh
    have HL := Lib.hid hL
    clear hs hC hL
    go_enter Tryd.func3, Tryd.ntmps3
    go_wp2_with (first
      | (go_at_call 8; refine hsh.mono ?_; rintro e w1 ⟨rfl, hD⟩; have hB1 := Lib.hid (drawn_below hD); clear hD)
      | (go_at_call 9; refine (live_calls _ (HL.out.below hB1.out)).mono ?_; rintro e w6 ⟨rfl, hB6⟩))
    go_ret
    exact ⟨rfl, below_then hB1.out hB1.out.size hB6⟩
end Go.Proofs.YtmgdikfgejablaaDoor.Kr2

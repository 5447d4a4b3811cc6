/- KeysRunes: the walk. -/
import Derived.Test.YtmgdikfgejablaaDoorKs
set_option linter.unusedVariables false
set_option linter.unusedSimpArgs false
namespace Go.Proofs.YtmgdikfgejablaaDoor.Kz
open Go.RowKit Go.Proofs.YtmgdikfgejablaaDoor.Ky Go.Proofs.YtmgdikfgejablaaDoor.Kd Go.Proofs.YtmgdikfgejablaaDoor.Ke Go.Proofs.YtmgdikfgejablaaDoor.Kn Go.Proofs.YtmgdikfgejablaaDoor.Ko Go.Proofs.YtmgdikfgejablaaDoor.Kl Go.Proofs.YtmgdikfgejablaaDoor.Kv Go.Proofs.YtmgdikfgejablaaDoor.Kp Go.Proofs.YtmgdikfgejablaaDoor.Ks Go.Proofs.YtmgdikfgejablaaDoor.P Go.Proofs.YtmgdikfgejablaaDoorW.PrintWords Go.Proofs.YtmgdikfgejablaaDoorW.PrintLast
theorem nats_app (s t : ByteArray) : nats (s ++ t) = nats s ++ nats t := by simp [nats]
theorem rune_calls (n : Int) (b : Bool) (w : World) (h : duetref12_Rune.f n = some b) : Calls Tryd.prog 18 #[.int .i64 n] w fun e w' => e = .returned (.bool b) ∧ Below w.heap.size w w' := by
  refine (duetref12_Rune.calls n b w h).mono ?_
  rintro e w' ⟨rfl, h⟩
  exact ⟨rfl, drawn_below h⟩
theorem waits_0 {K : Nat → Option Obj} {w0 W : World} {g : Nat} {fn : Value} {told : List Key} (h : Kr K w0 W g fn [] told) :
    Calls Tryd.prog 17 #[.pointer (some ⟨g, 0, none⟩)] W fun e w' => e = .returned (.int .i64 0) ∧ w' = W := Waits_calls h
set_option maxHeartbeats 8000000 in
set_option maxRecDepth 100000 in
theorem runes_law (A : Option Addr) (c : Nat) (xs : List Int) (w : World) (hL : Laid w) (hc : xs.length ≤ c) (hC : Kd.C (Kd.int .i64) w A xs.length xs) : Calls Tryd.prog 6 #[.slice A xs.length c] w fun e w' => e = .returned (.bool true) ∧ Below w.heap.size w w' := by
  have HL := Lib.hid hL
  have HC := Lib.hid hC
  clear hL hC
  by_cases h : (60 : Int) < (xs.length : Nat)
  · have d : decide ((60 : Int) < (xs.length : Nat)) = true := decide_eq_true h
    clear h
    go_enter Tryd.func6, Tryd.ntmps6
    go_wp2_with (go_at_call 9; refine (live_calls _ HL.out).mono ?_; rintro e w1 ⟨rfl, hB⟩)
    go_ret
    exact ⟨rfl, hB⟩
  have d : decide ((60 : Int) < (xs.length : Nat)) = false := decide_eq_false h
  have hsz : xs.length ≤ 60 := by omega
  clear h
  go_enter Tryd.func6, Tryd.ntmps6
  go_upto_region 6 with fail
  clear d
  go_loopw [3, 4, 5] (fun v3 v4 v5 wr => ∃ (k : Nat) (s : ByteArray) (ks : List Key), v5 = .int .i64 k ∧ v3 = .string s ∧ k ≤ xs.length ∧ Hid (run [] (nats s) = (ks, [])) ∧ Hid (ks = (xs.take k).map fun n => (1, n)) ∧ s.size ≤ 4 * k ∧ Hid (wr.ownsRow w.heap.size 45 2 v4 k (flat ks)) ∧ Hid (Below w.heap.size w wr)) (fun _ _ v5 _ => xs.length - (intOf v5).toNat)
  case atStart => exact ⟨0, ⟨#[]⟩, [], rfl, rfl, Nat.zero_le _, Lib.hid rfl, Lib.hid rfl, Nat.zero_le _, Lib.hid (own_nil _ _ _ _), Lib.hid (Below.refl _ _)⟩
  case round =>
    obtain ⟨k, s, ks, rfl, rfl, hk, HN, HK, hss, HO, HB⟩ := hrel
    obtain ⟨A3, cp, rfl⟩ := own_slice HO.out
    by_cases hlt : k < xs.length
    · obtain ⟨ad, rfl, c0⟩ := Kd.at_int (Kd.C_below HC.out HB.out) (k : Int) (by omega) (by omega)
      have hrd : rd xs (k : Int) = xs[k] := by unfold rd; rw [Int.toNat_natCast, List.getD_eq_getElem?_getD, List.getElem?_eq_getElem hlt]; rfl
      rw [hrd, Int.toNat_natCast] at c0
      have HT : Hid (xs.take (k + 1) = xs.take k ++ [xs[k]]) := Lib.hid (List.take_succ_eq_append_getElem hlt)
      clear hrd
      generalize xs[k] = n at c0 HT
      obtain ⟨b, hb1, hb2⟩ := Rune_f n
      have hRune := fun W => rune_calls n b W hb1
      cases b with
      | false =>
        clear hb1 hb2
        go_wp2_with (first
          | (go_at_call 18; (with_reducible refine (hRune _).mono ?_); rintro e w5 ⟨rfl, hB5⟩; have HB5 := Lib.hid (below_then HB.out HB.out.size hB5); clear hB5)
          | (go_at_call 9; refine (live_calls _ (HL.out.below HB5.out)).mono ?_; rintro e w6 ⟨rfl, hB6⟩))
        go_ret
        exact ⟨rfl, below_then HB5.out HB5.out.size hB6⟩
      | true =>
        obtain ⟨m, rfl, ho⟩ := hb2 rfl
        have hSign := fun W => duetref12_Sign.calls 1 (m : Int) _ W (Sign_ok m ho)
        obtain ⟨z1, z2, z3⟩ := sign_run m ho
        have z4 : nats (bstr (signL m)) = signL m := nats_bstr _ z2
        have z5 : (bstr (signL m)).size ≤ 4 := by rw [← nats_len, z4]; exact z3
        generalize bstr (signL m) = y at hSign z4 z5
        have hrun : run [] (nats (s ++ y)) = (ks ++ [(1, (m : Int))], []) := by rw [nats_app, run_app, HN.out, z4]; show ((ks ++ (run [] (signL m)).1), (run [] (signL m)).2) = _; rw [z1]
        have hkk : ks ++ [(1, (m : Int))] = (xs.take (k + 1)).map fun n => ((1, n) : Key) := by rw [HT.out, List.map_append, ← HK.out]; rfl
        have hsy : (s ++ y).size = s.size + y.size := ByteArray.size_append
        have G : Hid ((s ++ y).size ≤ 4 * (k + 1)) := Lib.hid (by omega)
        have HP : Hid (flat (ks ++ [(1, (m : Int))]) = flat ks ++ [.int .i64 1, .int .i64 (m : Int)]) := Lib.hid (flat_snoc _ _)
        have HRUN := Lib.hid hrun
        have HKK := Lib.hid hkk
        have hcat : ¬ 9223372036854775807 < s.size + y.size := by omega
        have hgo : (k + 1) * 16 ≤ 140737488355328 := by omega
        clear hb1 hb2 ho z1 z2 z3 z4 hrun hkk hsy HN HK
        go_wp2_with (first
          | (go_at_call 18; (with_reducible refine (hRune _).mono ?_); rintro e w5 ⟨rfl, hB5⟩; have HB5 := Lib.hid (below_then HB.out HB.out.size hB5); have c5 := pw_cell_below hB5 c0; have HO5 := Lib.hid (row_below HO.out hB5); clear hB5)
          | (go_at_call 19; (with_reducible refine (hSign _).mono ?_); rintro e w6 ⟨rfl, hB6⟩; have HB6 := Lib.hid (below_then HB5.out HB5.out.size hB6); have c6 := pw_cell_below hB6 c5; have HO6 := Lib.hid (row_below HO5.out hB6); clear hB6)
          | (at_builtin; go_loud (refine print_append_cells (w0 := w) w.heap.size rfl _ _ 31 45 (.agg #[.int .i64 0, .int .i64 0]) 2 16 rfl Tryd.underlying31 Kp.info45 rfl (by decide) (by decide) (.slice A3 k cp) k (flat ks) [.int .i64 1, .int .i64 (m : Int)] rfl rfl rfl (by simp [Value.oneCell']) HO6.out HB6.out HB6.out.size hgo ?_; intro v1 w2 hown hB2 hgr hat; rw [← HP.out] at hown; obtain ⟨A2, k2, rfl⟩ := own_slice hown; have HO2 := Lib.hid hown; have HB2 := Lib.hid hB2; clear hown hB2 hgr hat)))
        go_roundw
        case rel => exact ⟨k + 1, s ++ y, ks ++ [(1, (m : Int))], by go_num, rfl, by omega, HRUN, HKK, G.out, HO2, HB2⟩
        case measure => simp [intOf]; omega
    · obtain rfl : k = xs.length := by omega
      have HKL : Hid (ks.length = xs.length) := Lib.hid (by rw [HK.out, List.length_map, List.take_of_length_le (Nat.le_refl _)])
      clear HK
      go_upto_region 15 with (go_at_call 10; refine (New_calls (Kx (.slice A3 xs.length cp) wr) _ Kx_kept).mono ?_; rintro e w1 ⟨g, rfl, hK1⟩)
      have hF1 := Feed_calls (w := []) (HL.out.below HB.out) hK1 trivial s (by omega)
      rw [HN.out] at hF1
      replace hF1 := hF1.mono (fun e w' h => toldN HKL.out h)
      unfold ToldN at hF1
      clear hK1
      have hsz2 : xs.length ≤ 1000000 := by omega
      go_wp2_with (first
        | (go_at_call 15; go_loud (refine hF1.mono ?_; rintro e w2 ⟨A2, c2, rfl, hr2, hK2, hf2⟩; have HR2 := Lib.hid hr2; have HK2 := Lib.hid hK2; have HW2 := Lib.hid (row_kept HO.out (fun j o h1 h2 => (hf2 j o (Kx_own h1 h2)).1)); clear hr2 hK2 hf2))
        | (go_at_call 12; (with_reducible refine (told_n HKL.out HR2.out hsz2).mono ?_; rintro e w5 ⟨A5, c5, rfl, hB5, hc5, hC5⟩))
        | (go_at_call 11; (with_reducible refine (same_n HKL.out hsz2 hC5 hc5 (row_below HW2.out hB5)).mono ?_; rintro e w6 ⟨rfl, hB6⟩; have HK6 := Lib.hid (HK2.out.below (below_then hB5 hB5.size hB6)); clear hB5 hC5 hB6))
        | (go_at_call 17; go_loud (refine (waits_0 HK6.out).mono ?_; rintro e w7 ⟨rfl, hw7⟩; subst hw7; have HB7 := Lib.hid (below_then HB.out HB.out.size HK6.out.bl)))
        | (go_at_call 9; refine (live_calls _ (HL.out.below HB7.out)).mono ?_; rintro e w8 ⟨rfl, hB8⟩))
      go_ret
      exact ⟨rfl, below_then HB7.out HB7.out.size hB8⟩
end Go.Proofs.YtmgdikfgejablaaDoor.Kz

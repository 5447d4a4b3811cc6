/- KeysPlain: the walk. -/
import Derived.Test.YtmgdikfgejablaaDoorKv
set_option linter.unusedVariables false
set_option linter.unusedSimpArgs false
namespace Go.Proofs.YtmgdikfgejablaaDoor.Kp
open Go.RowKit Go.Proofs.YtmgdikfgejablaaDoor.Ky Go.Proofs.YtmgdikfgejablaaDoor.Kd Go.Proofs.YtmgdikfgejablaaDoor.Ke Go.Proofs.YtmgdikfgejablaaDoor.Kn Go.Proofs.YtmgdikfgejablaaDoor.Ko Go.Proofs.YtmgdikfgejablaaDoor.Kl Go.Proofs.YtmgdikfgejablaaDoor.Kv Go.Proofs.YtmgdikfgejablaaDoor.P Go.Proofs.YtmgdikfgejablaaDoorW.PrintWords Go.Proofs.YtmgdikfgejablaaDoorW.PrintLast
theorem info45 : (Tryd.prog.info? 45).map (fun i => (i.zero, i.size, i.bytes)) = some (some (.agg #[.int .i64 0, .int .i64 0]), 2, 16) := by kernel_rfl
/-- A row's own block is kept. -/
def Kx (v : Value) (W : World) : Nat → Option Obj := fun j => if v.ownBlock = some j then W.heap[j]? else none
theorem Kx_kept {v : Value} {W : World} : ∀ j o, Kx v W j = some o → W.heap[j]? = some o := fun j o h => by
  unfold Kx at h
  by_cases hc : v.ownBlock = some j
  · rw [if_pos hc] at h; exact h
  · rw [if_neg hc] at h; cases h
theorem Kx_own {v : Value} {W : World} {j : Nat} {o : Obj} (hj : v.ownBlock = some j) (ho : W.heap[j]? = some o) : Kx v W j = some o := by unfold Kx; rw [if_pos hj]; exact ho
def pk (c : Nat) : Key := if c < 32 then (2, (c : Int) + 96) else (1, (c : Int))
theorem run_plain (l : List Nat) (h : ∀ x ∈ l, x ≠ 27 ∧ x < 127) : run [] l = (l.map pk, []) := by
  induction l with
  | nil => rfl
  | cons c l ih =>
    obtain ⟨h1, h2⟩ := h c (List.mem_cons_self ..)
    have hm : mach [] c = ([pk c], []) := by
      show firstM c = _
      unfold firstM pk
      rw [if_neg h1]
      by_cases h3 : c < 32
      · rw [if_pos h3, if_pos h3]
      · rw [if_neg h3, if_neg (by omega), if_pos h2, if_neg h3]
    unfold run
    rw [hm, ih (fun x hx => h x (List.mem_cons_of_mem _ hx))]
    rfl
theorem nat_at (s : ByteArray) (k : Nat) (hk : k < s.size) : ∃ c : Nat, c < 256 ∧ ((s[k]'hk).toNat : Int) = (c : Int) ∧ (nats s).take (k + 1) = (nats s).take k ++ [c] := by
  have hl : k < (nats s).length := by rw [nats_len]; exact hk
  have hl2 : k < s.data.toList.length := by rw [Array.length_toList]; exact hk
  have e : (nats s)[k] = (s.data.toList[k]).toNat := by simp [nats]
  exact ⟨(nats s)[k], by rw [e]; exact UInt8.toNat_lt _, by rw [e]; rfl, List.take_succ_eq_append_getElem hl⟩
theorem same_n {W : World} {base c c2 n : Nat} {A B : Option Addr} {l : List Key} (hn : l.length = n) (hl : n ≤ 1000000) (h : Kd.C k45 W A (l.map s45).length (l.map s45)) (hc : n ≤ c) (h2 : W.ownsRow base 45 2 (.slice B n c2) n (flat l)) :
    Calls Tryd.prog 11 #[.slice A n c, .slice B n c2] W fun e w' => e = .returned (.bool true) ∧ Below W.heap.size W w' := by
  subst hn
  obtain ⟨h3, h4⟩ := own_C45 h2
  exact same_calls hl h hc h4 h3
theorem flush_0 {K : Nat → Option Obj} {w0 W : World} {g : Nat} (h : Kr K w0 W g (Kf.nx g []) [] []) :
    Calls Tryd.prog 13 #[.pointer (some ⟨g, 0, none⟩)] W fun e w' => ∃ A c, e = .returned (.slice A 0 c) ∧ Below w0.heap.size w0 w' := by
  refine (Flush_calls h).mono ?_
  rintro e w' ⟨A, c, rfl, h1, h2, h3⟩
  exact ⟨A, c, rfl, h2.bl⟩
set_option maxHeartbeats 4000000 in
set_option maxRecDepth 100000 in
theorem plain_law (s : ByteArray) (w : World) (hL : Laid w) : Calls Tryd.prog 7 #[.string s] w fun e w' => e = .returned (.bool true) ∧ Below w.heap.size w w' := by
  have HL := Lib.hid hL
  clear hL
  by_cases h : (300 : Int) < (s.size : Nat)
  · have d : decide ((300 : Int) < (s.size : Nat)) = true := decide_eq_true h
    clear h
    go_enter Tryd.func7, Tryd.ntmps7
    go_wp2_with (go_at_call 9; refine (live_calls _ HL.out).mono ?_; rintro e w1 ⟨rfl, hB⟩)
    go_ret
    exact ⟨rfl, hB⟩
  have d : decide ((300 : Int) < (s.size : Nat)) = false := decide_eq_false h
  have hsz : s.size ≤ 300 := by omega
  clear h
  go_enter Tryd.func7, Tryd.ntmps7
  go_upto_region 5 with fail
  clear d
  go_loopw [3, 4] (fun v3 v4 wr => ∃ k : Nat, v4 = .int .i64 k ∧ k ≤ s.size ∧ Hid (∀ x ∈ (nats s).take k, x ≠ 27 ∧ x < 127) ∧ Hid (wr.ownsRow w.heap.size 45 2 v3 k (flat (((nats s).take k).map pk))) ∧ Hid (Below w.heap.size w wr)) (fun _ v4 _ => s.size - (intOf v4).toNat)
  case atStart => exact ⟨0, rfl, Nat.zero_le _, Lib.hid (by simp), Lib.hid (own_nil _ _ _ _), Lib.hid (Below.refl _ _)⟩
  case round =>
    obtain ⟨k, rfl, hk, HN, HO, HB⟩ := hrel
    obtain ⟨A3, cp, rfl⟩ := own_slice HO.out
    by_cases hlt : k < s.size
    · obtain ⟨c, hc, hbyte, hT⟩ := nat_at s k hlt
      have HT := Lib.hid hT
      clear hT
      by_cases h1 : c = 27
      · have e1 : ((c : Int) == 27) = true := by rw [h1]; rfl
        clear h1
        go_wp2_with (go_at_call 9; refine (live_calls _ (HL.out.below HB.out)).mono ?_; rintro e w6 ⟨rfl, hB6⟩)
        go_ret
        exact ⟨rfl, below_then HB.out HB.out.size hB6⟩
      have e1 : ((c : Int) == 27) = false := by simp only [beq_eq_false_iff_ne]; omega
      by_cases h2 : 127 ≤ c
      · have e2 : decide ((127 : Int) ≤ (c : Int)) = true := decide_eq_true (by omega)
        clear h1 h2
        go_wp2_with (go_at_call 9; refine (live_calls _ (HL.out.below HB.out)).mono ?_; rintro e w6 ⟨rfl, hB6⟩)
        go_ret
        exact ⟨rfl, below_then HB.out HB.out.size hB6⟩
      have e2 : decide ((127 : Int) ≤ (c : Int)) = false := decide_eq_false (by omega)
      have HN2 : Hid (∀ x ∈ (nats s).take (k + 1), x ≠ 27 ∧ x < 127) := Lib.hid (by
        rw [HT.out]
        intro x hx
        rcases List.mem_append.1 hx with hx | hx
        · exact HN.out x hx
        · rw [List.mem_singleton.1 hx]; exact ⟨h1, by omega⟩)
      have hgo : (k + 1) * 16 ≤ 140737488355328 := by omega
      clear HN h1
      by_cases h3 : c < 32
      · have e3 : decide ((c : Int) < 32) = true := decide_eq_true (by omega)
        have HP : Hid (flat (((nats s).take (k + 1)).map pk) = flat (((nats s).take k).map pk) ++ [.int .i64 2, .int .i64 ((c : Int) + 96)]) := Lib.hid (by rw [HT.out, List.map_append, List.map_singleton, flat_snoc]; unfold pk; rw [if_pos h3])
        clear h2 h3
        go_wp2_with (at_builtin; go_loud (refine print_append_cells (w0 := w) w.heap.size rfl _ _ 31 45 (.agg #[.int .i64 0, .int .i64 0]) 2 16 rfl Tryd.underlying31 info45 rfl (by decide) (by decide) (.slice A3 k cp) k (flat (((nats s).take k).map pk)) [.int .i64 2, .int .i64 ((c : Int) + 96)] rfl rfl rfl (by simp [Value.oneCell']) HO.out HB.out HB.out.size hgo ?_; intro v1 w2 hown hB2 hgr hat; rw [← HP.out] at hown; obtain ⟨A2, k2, rfl⟩ := own_slice hown; have HO2 := Lib.hid hown; have HB2 := Lib.hid hB2; clear hown hB2 hgr hat))
        go_roundw
        case rel => exact ⟨k + 1, by go_num, by omega, HN2, HO2, HB2⟩
        case measure => simp [intOf]; omega
      · have e3 : decide ((c : Int) < 32) = false := decide_eq_false (by omega)
        have HP : Hid (flat (((nats s).take (k + 1)).map pk) = flat (((nats s).take k).map pk) ++ [.int .i64 1, .int .i64 (c : Int)]) := Lib.hid (by rw [HT.out, List.map_append, List.map_singleton, flat_snoc]; unfold pk; rw [if_neg h3])
        clear h2 h3
        go_wp2_with (at_builtin; go_loud (refine print_append_cells (w0 := w) w.heap.size rfl _ _ 31 45 (.agg #[.int .i64 0, .int .i64 0]) 2 16 rfl Tryd.underlying31 info45 rfl (by decide) (by decide) (.slice A3 k cp) k (flat (((nats s).take k).map pk)) [.int .i64 1, .int .i64 (c : Int)] rfl rfl rfl (by simp [Value.oneCell']) HO.out HB.out HB.out.size hgo ?_; intro v1 w2 hown hB2 hgr hat; rw [← HP.out] at hown; obtain ⟨A2, k2, rfl⟩ := own_slice hown; have HO2 := Lib.hid hown; have HB2 := Lib.hid hB2; clear hown hB2 hgr hat))
        go_roundw
        case rel => exact ⟨k + 1, by go_num, by omega, HN2, HO2, HB2⟩
        case measure => simp [intOf]; omega
    · obtain rfl : k = s.size := by omega
      have hN := HN.out
      have hO := HO.out
      rw [List.take_of_length_le (by rw [nats_len]; exact Nat.le_refl _)] at hN hO
      have hrun := run_plain (nats s) hN
      have hkl : ((nats s).map pk).length = s.size := by rw [List.length_map, nats_len]
      have HKL := Lib.hid hkl
      have HRUN := Lib.hid hrun
      have HO3 := Lib.hid hO
      clear hN hO hrun HN HO hkl
      generalize hks : (nats s).map pk = ks at *
      clear hks
      go_upto_region 15 with (go_at_call 10; refine (New_calls (Kx (.slice A3 s.size cp) wr) _ Kx_kept).mono ?_; rintro e w1 ⟨g, rfl, hK1⟩)
      have hF1 := Feed_calls (w := []) (HL.out.below HB.out) hK1 trivial s (by omega)
      rw [HRUN.out] at hF1
      replace hF1 := hF1.mono (fun e w' h => toldN HKL.out h)
      unfold ToldN at hF1
      clear hK1
      have hsz2 : s.size ≤ 1000000 := by omega
      go_wp2_with (first
        | (go_at_call 15; go_loud (refine hF1.mono ?_; rintro e w2 ⟨A2, c2, rfl, hr2, hK2, hf2⟩; have HR2 := Lib.hid hr2; have HK2 := Lib.hid hK2; have HW2 := Lib.hid (row_kept HO3.out (fun j o h1 h2 => (hf2 j o (Kx_own h1 h2)).1)); clear hr2 hK2 hf2))
        | (go_at_call 12; (with_reducible refine (told_n HKL.out HR2.out hsz2).mono ?_; rintro e w5 ⟨A5, c5, rfl, hB5, hc5, hC5⟩))
        | (go_at_call 11; (with_reducible refine (same_n HKL.out hsz2 hC5 hc5 (row_below HW2.out hB5)).mono ?_; rintro e w6 ⟨rfl, hB6⟩; have HK6 := Lib.hid (HK2.out.below (below_then hB5 hB5.size hB6)); clear hB5 hC5 hB6))
        | (go_at_call 13; go_loud (refine (flush_0 HK6.out).mono ?_; rintro e w7 ⟨A7, c7, rfl, hB7⟩; have HB7 := Lib.hid (below_then HB.out HB.out.size hB7); clear hB7))
        | (go_at_call 9; refine (live_calls _ (HL.out.below HB7.out)).mono ?_; rintro e w8 ⟨rfl, hB8⟩))
      go_ret
      exact ⟨rfl, below_then HB7.out HB7.out.size hB8⟩
end Go.Proofs.YtmgdikfgejablaaDoor.Kp

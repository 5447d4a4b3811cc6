/- keys.Reader: args: the walk. -/
import Derived.Test.YtmgdikfgejablaaDoorKe
set_option linter.unusedVariables false
set_option linter.unusedSimpArgs false
namespace Go.Proofs.YtmgdikfgejablaaDoor.Kg
open Go.RowKit Go.Proofs.YtmgdikfgejablaaDoor.Ky Go.Proofs.YtmgdikfgejablaaDoor.Kd Go.Proofs.YtmgdikfgejablaaDoor.Kf Go.Proofs.YtmgdikfgejablaaDoor.Ke Go.Proofs.YtmgdikfgejablaaDoorW.PrintWords Go.Proofs.YtmgdikfgejablaaDoorW.PrintLast
theorem bts_nums (w : List Nat) : bts w = nums .u8 (w.map fun b : Nat => (b : Int)) := by simp [bts, nums]
theorem nats_str (a : List Nat) (h : ∀ x ∈ a, x < 256) : nats (strOfNums (a.map fun b : Nat => (b : Int))) = a := by
  unfold nats
  rw [strOfNums_data, List.map_map, List.map_map]
  conv => rhs; rw [← List.map_id a]
  apply List.map_congr_left
  intro c hc
  have := h c hc
  simp; omega
/-- The bytes that wait, but for the first two, as a text. -/
theorem tail_str {W : World} {base c : Nat} {A : Option Addr} {w : List Nat} (h : W.ownsRow base 5 1 (.slice A w.length c) w.length (bts w)) (h2 : 2 ≤ w.length) :
    ∃ q : Nat, A = some ⟨q, 0, none⟩ ∧ w.length ≤ c ∧ ∀ c2, (convert 47 9 (.slice (if c = 2 then some ⟨q, 0, none⟩ else some ⟨q, 2, none⟩) (w.length - 2) c2)).run Tryd.prog W = .ok (.string (strOfNums ((w.drop 2).map fun b : Nat => (b : Int)))) W := by
  rw [bts_nums] at h
  obtain ⟨A', c', e, hr⟩ := own_reads h
  injection e with e1 e2 e3
  subst e1 e3
  rcases h.2 with ⟨_, hz⟩ | ⟨q, cap, cur, hv, _, _, hnc, _⟩
  · omega
  · injection hv with v1 v2 v3
    subst v1 v3
    refine ⟨q, rfl, hnc, fun c2 => ?_⟩
    have hd := hr.drop_ (c := c) 2 h2 hnc
    rw [← List.map_drop] at hd
    exact string_of_reads Tryd.underlying47 Tryd.underlying5 Tryd.underlying9 hd
theorem ends_big (l : List Nat) (h : ∃ x ∈ l, 127 < x) : endsK l = 12 := by
  obtain ⟨x, hx, h1⟩ := h
  unfold endsK
  have f : ∀ t : List Nat, (∀ y ∈ t, y ≤ 127) → l ≠ t := fun t ht e => by have := ht x (e ▸ hx); omega
  rw [if_neg (f _ (by decide)), if_neg (f _ (by decide)), if_neg (f _ (by decide)), if_neg (f _ (by decide)), if_neg (f _ (by decide)), if_neg (f _ (by decide)), if_neg (f _ (by decide)), if_neg (f _ (by decide)), if_neg (f _ (by decide))]
theorem enc_byte (c : Nat) (hc : c < 256) : ∃ rs : ByteArray, Utf8.encode (c : Int) = rs ∧ rs.size ≤ 2 ∧ ∀ a, endsK (a ++ nats rs) = endsK (a ++ [c]) := by
  refine ⟨_, rfl, ?_⟩
  have hv : Utf8.valid (c : Int) = true := by unfold Utf8.valid; simp; omega
  unfold Utf8.encode
  simp only [hv, if_true, Int.toNat_natCast]
  by_cases h : c < 128
  · rw [if_pos h]
    refine ⟨Nat.le_succ 1, fun a => ?_⟩
    have : nats ⟨#[UInt8.ofNat c]⟩ = [c] := by simp [nats]; omega
    rw [this]
  · rw [if_neg h, if_pos (by omega)]
    refine ⟨Nat.le_refl 2, fun a => ?_⟩
    rw [ends_big (a ++ [c]) ⟨c, by simp, by omega⟩]
    refine ends_big _ ⟨192 + c / 64, ?_, by omega⟩
    refine List.mem_append_right _ ?_
    simp [nats]
    left; omega
set_option maxHeartbeats 2000000 in
set_option maxRecDepth 100000 in
theorem args_calls {K : Nat → Option Obj} {w0 W : World} {g : Nat} {fn : Value} {a : List Nat} {told : List Key} (h : Kr K w0 W g fn (27 :: 91 :: a) told) (hl : told.length ≤ 900000) (ha : a.length ≤ 4) (hab : ∀ x ∈ a, x < 256) (c : Nat) (hc : c < 256) :
    Calls Tryd.prog 30 #[.pointer (some ⟨g, 0, none⟩), .int .i64 (c : Int)] W (Post K w0 g told (27 :: 91 :: a) c) := by
  have hT := tell_calls h (by omega) 12 0
  have hW := wait_calls h (by simp; omega) c hc (fnV 30 g) ⟨30, rfl⟩
  have HK := Lib.hid h
  obtain ⟨bv, tv, hR⟩ := h.ex
  obtain ⟨A, cp, rfl⟩ := own_slice hR.br
  obtain ⟨q, rfl, hnc, hcv⟩ := tail_str hR.br (by simp)
  obtain ⟨_, c1, _⟩ := hR.c
  have htk : tk (27 :: 91 :: a) c = true := rfl
  unfold Post res
  rw [htk, if_pos rfl, mach_args]
  clear htk hR
  have hlen : (27 :: 91 :: a).length = a.length + 2 := rfl
  rw [hlen] at hcv c1 hnc
  rw [show a.length + 2 - 2 = a.length by omega] at hcv
  have hdr : (27 :: 91 :: a).drop 2 = a := rfl
  rw [hdr] at hcv
  have hsz : (strOfNums (a.map fun b : Nat => (b : Int))).size = a.length := by rw [strOfNums_size]; simp
  have hna := nats_str a hab
  generalize strOfNums (a.map fun b : Nat => (b : Int)) = s at *
  unfold argsM
  obtain ⟨rs, hrs, hrz, hre⟩ := enc_byte c hc
  have hcn : ∀ W : World, (convert 21 9 (.int .i32 (c : Int))).run Tryd.prog W = .ok (.string rs) W := fun W => by
    rw [run_convert_int_string W 21 9 .i32 (c : Int) (by kernel_rfl) Tryd.underlying9, hrs]
  have hsum : (s ++ rs).size = s.size + rs.size := ByteArray.size_append
  have hE := fun w => ends_calls (s ++ rs) (by omega) w
  have hnv : nats (s ++ rs) = a ++ nats rs := by rw [← hna]; simp [nats]
  rw [hnv, hre] at hE
  have hcat : ¬ 9223372036854775807 < s.size + rs.size := by omega
  have hnlen : (s.size == 4) = decide (a.length = 4) := by rw [hsz]; by_cases e : a.length = 4 <;> simp [e]
  have HSZ := Lib.hid hsz
  clear hab hna hsz hrs hre hsum hnv hdr hlen h
  have hz4 : s.size ≤ 4 := by rw [HSZ.out]; exact ha
  by_cases hcp : cp = 2
  · have hcv2 := hcv 0
    simp only [if_pos hcp] at hcv2
    subst hcp
    clear hcv
    obtain rfl : a = [] := List.length_eq_zero_iff.1 (by omega)
    replace hcv2 : (convert 47 9 (.slice (some ⟨q, 0, none⟩) 0 0)).run Tryd.prog W = .ok (.string s) W := hcv2
    replace c1 : W.cell? ⟨g, 1, none⟩ = some (.slice (some ⟨q, 0, none⟩) 2 2) := c1
    by_cases h59 : c = 59
    · have d1 : ((c : Int) != 59) = false := by rw [h59]; rfl
      have ha1 : argB c = true := by rw [h59]; rfl
      rw [if_pos ha1]
      · clear ha1 h59
        by_cases h4 : ([] : List Nat).length = 4
        · exact absurd h4 (by decide)
        · rw [if_neg h4]
          rw [decide_eq_false h4] at hnlen
          clear h4 hT
          go_enter Tryd.func30, Tryd.ntmps30
          go_wp2_with (go_at_call 25; refine hW.mono ?_; rintro e w2 ⟨rfl, hK2⟩)
          go_ret
          exact ⟨rfl, by rw [List.append_nil]; exact hK2⟩
    · have d1 : ((c : Int) != 59) = true := by simp only [bne_iff_ne]; omega
      by_cases h48 : c < 48
      · have d2 : decide ((c : Int) < 48) = true := decide_eq_true (by omega)
        have ha1 : ¬ argB c = true := by unfold argB; simp; omega
        rw [if_neg ha1]
        clear ha1 h59 h48 hW hT
        generalize endsK ([] ++ [c]) = ek at *
        go_enter Tryd.func30, Tryd.ntmps30
        go_wp2_with (first
          | (go_at_call 34; refine (hE _).mono ?_; rintro e w1 ⟨rfl, hB1⟩)
          | (go_at_call 21; refine (tell_calls (HK.out.below hB1) (by omega) ek 0).mono ?_; rintro e w2 ⟨rfl, hK2⟩))
        go_ret
        exact ⟨rfl, hK2⟩
      · have d2 : decide ((c : Int) < 48) = false := decide_eq_false (by omega)
        by_cases h57 : 57 < c
        · have d3 : decide ((57 : Int) < (c : Int)) = true := decide_eq_true (by omega)
          have ha1 : ¬ argB c = true := by unfold argB; simp; omega
          rw [if_neg ha1]
          clear ha1 h59 h48 h57 hW hT
          generalize endsK ([] ++ [c]) = ek at *
          go_enter Tryd.func30, Tryd.ntmps30
          go_wp2_with (first
            | (go_at_call 34; refine (hE _).mono ?_; rintro e w1 ⟨rfl, hB1⟩)
            | (go_at_call 21; refine (tell_calls (HK.out.below hB1) (by omega) ek 0).mono ?_; rintro e w2 ⟨rfl, hK2⟩))
          go_ret
          exact ⟨rfl, hK2⟩
        · have d3 : decide ((57 : Int) < (c : Int)) = false := decide_eq_false (by omega)
          have ha1 : argB c = true := by unfold argB; simp; omega
          rw [if_pos ha1]
          clear ha1 h59 h48 h57
          by_cases h4 : ([] : List Nat).length = 4
          · exact absurd h4 (by decide)
          · rw [if_neg h4]
            rw [decide_eq_false h4] at hnlen
            clear h4 hT
            go_enter Tryd.func30, Tryd.ntmps30
            go_wp2_with (go_at_call 25; refine hW.mono ?_; rintro e w2 ⟨rfl, hK2⟩)
            go_ret
            exact ⟨rfl, by rw [List.append_nil]; exact hK2⟩
  · have hcp2 : (cp == 2) = false := by simpa using hcp
    simp only [if_neg hcp] at hcv
    have hcv2 := hcv (cp - 2)
    clear hcv
    by_cases h59 : c = 59
    · have d1 : ((c : Int) != 59) = false := by rw [h59]; rfl
      have ha1 : argB c = true := by rw [h59]; rfl
      rw [if_pos ha1]
      · clear ha1 h59
        by_cases h4 : a.length = 4
        · have d4 : (a.length == 4) = true := by simpa using h4
          rw [if_pos h4]
          rw [decide_eq_true h4] at hnlen
          clear h4 hW d4
          go_enter Tryd.func30, Tryd.ntmps30
          go_wp2_with (go_at_call 21; refine hT.mono ?_; rintro e w2 ⟨rfl, hK2⟩)
          go_ret
          exact ⟨rfl, hK2⟩
        · rw [if_neg h4]
          rw [decide_eq_false h4] at hnlen
          clear h4 hT
          go_enter Tryd.func30, Tryd.ntmps30
          go_wp2_with (go_at_call 25; refine hW.mono ?_; rintro e w2 ⟨rfl, hK2⟩)
          go_ret
          exact ⟨rfl, by rw [List.append_nil]; exact hK2⟩
    · have d1 : ((c : Int) != 59) = true := by simp only [bne_iff_ne]; omega
      by_cases h48 : c < 48
      · have d2 : decide ((c : Int) < 48) = true := decide_eq_true (by omega)
        have ha1 : ¬ argB c = true := by unfold argB; simp; omega
        rw [if_neg ha1]
        clear ha1 h59 h48 hW hT
        generalize endsK (a ++ [c]) = ek at *
        go_enter Tryd.func30, Tryd.ntmps30
        go_wp2_with (first
          | (go_at_call 34; refine (hE _).mono ?_; rintro e w1 ⟨rfl, hB1⟩)
          | (go_at_call 21; refine (tell_calls (HK.out.below hB1) (by omega) ek 0).mono ?_; rintro e w2 ⟨rfl, hK2⟩))
        go_ret
        exact ⟨rfl, hK2⟩
      · have d2 : decide ((c : Int) < 48) = false := decide_eq_false (by omega)
        by_cases h57 : 57 < c
        · have d3 : decide ((57 : Int) < (c : Int)) = true := decide_eq_true (by omega)
          have ha1 : ¬ argB c = true := by unfold argB; simp; omega
          rw [if_neg ha1]
          clear ha1 h59 h48 h57 hW hT
          generalize endsK (a ++ [c]) = ek at *
          go_enter Tryd.func30, Tryd.ntmps30
          go_wp2_with (first
            | (go_at_call 34; refine (hE _).mono ?_; rintro e w1 ⟨rfl, hB1⟩)
            | (go_at_call 21; refine (tell_calls (HK.out.below hB1) (by omega) ek 0).mono ?_; rintro e w2 ⟨rfl, hK2⟩))
          go_ret
          exact ⟨rfl, hK2⟩
        · have d3 : decide ((57 : Int) < (c : Int)) = false := decide_eq_false (by omega)
          have ha1 : argB c = true := by unfold argB; simp; omega
          rw [if_pos ha1]
          clear ha1 h59 h48 h57
          by_cases h4 : a.length = 4
          · have d4 : (a.length == 4) = true := by simpa using h4
            rw [if_pos h4]
            rw [decide_eq_true h4] at hnlen
            clear h4 hW d4
            go_enter Tryd.func30, Tryd.ntmps30
            go_wp2_with (go_at_call 21; refine hT.mono ?_; rintro e w2 ⟨rfl, hK2⟩)
            go_ret
            exact ⟨rfl, hK2⟩
          · rw [if_neg h4]
            rw [decide_eq_false h4] at hnlen
            clear h4 hT
            go_enter Tryd.func30, Tryd.ntmps30
            go_wp2_with (go_at_call 25; refine hW.mono ?_; rintro e w2 ⟨rfl, hK2⟩)
            go_ret
            exact ⟨rfl, by rw [List.append_nil]; exact hK2⟩
end Go.Proofs.YtmgdikfgejablaaDoor.Kg

/- The signs of runes, as bytes: what the machine says of them. -/
import Derived.Test.YtmgdikfgejablaaDoorKp
import Derived.Test.YtmgdikfgejablaaDoorPx4
set_option linter.unusedVariables false
set_option linter.unusedSimpArgs false
namespace Go.Proofs.YtmgdikfgejablaaDoor.Ks
open Go.RowKit Go.Proofs.YtmgdikfgejablaaDoor.Ky Go.Proofs.YtmgdikfgejablaaDoor.Kd Go.Proofs.YtmgdikfgejablaaDoor.Ke Go.Proofs.YtmgdikfgejablaaDoor.Kn Go.Proofs.YtmgdikfgejablaaDoor.P Go.Proofs.YtmgdikfgejablaaDoorW.PrintWords Go.Proofs.YtmgdikfgejablaaDoorW.PrintLast Go.Proofs.YtmgdikfgejablaaDoorW.PrintMore
def okN (m : Nat) : Prop := 32 ≤ m ∧ m ≤ 1114111 ∧ ¬ (127 ≤ m ∧ m ≤ 159) ∧ ¬ (55296 ≤ m ∧ m ≤ 57343)
def signL (m : Nat) : List Nat := if m < 128 then [m] else if m < 2048 then [192 + m / 64, 128 + m % 64] else if m < 65536 then [224 + m / 4096, 128 + m / 64 % 64, 128 + m % 64] else [240 + m / 262144, 128 + m / 4096 % 64, 128 + m / 64 % 64, 128 + m % 64]
theorem Rune_f (n : Int) : ∃ b, duetref12_Rune.f n = some b ∧ (b = true → ∃ m : Nat, n = (m : Int) ∧ okN m) := by
  unfold duetref12_Rune.f duetref04_Rune.f
  by_cases h1 : n ≥ 32
  · by_cases h2 : n ≤ 1114111
    · rw [if_pos h1, if_pos h2]
      by_cases h3 : n ≥ 127
      · rw [if_pos h3]
        by_cases h4 : n ≤ 159
        · rw [if_pos h4]; exact ⟨_, rfl, fun h => by cases h⟩
        · rw [if_neg h4]
          by_cases h5 : n ≥ 55296
          · rw [if_pos h5]
            refine ⟨_, rfl, fun h => ⟨n.toNat, by omega, ?_⟩⟩
            have h6 : ¬ n ≤ 57343 := by simpa using h
            unfold okN; omega
          · rw [if_neg h5]
            exact ⟨_, rfl, fun h => ⟨n.toNat, by omega, by unfold okN; omega⟩⟩
      · rw [if_neg h3, if_neg (by omega)]
        exact ⟨_, rfl, fun h => ⟨n.toNat, by omega, by unfold okN; omega⟩⟩
    · rw [if_pos h1, if_neg h2]; exact ⟨_, rfl, fun h => by cases h⟩
  · rw [if_neg h1]; exact ⟨_, rfl, fun h => by cases h⟩
theorem wid (q : Nat) (h : q < 2000000) : wrap64 ((q : Nat) : Int) = (q : Int) := by unfold wrap64; omega
theorem tdn (m d : Nat) : Int.tdiv (m : Int) (d : Int) = ((m / d : Nat) : Int) := by rw [Int.tdiv_eq_ediv_of_nonneg (by omega)]; rfl
theorem num (n : Int) (m : Nat) (h : n = (m : Int)) : UInt8.ofNat n.toNat = UInt8.ofNat m := by rw [h]; rfl
theorem ba_ext {a b : ByteArray} (h : a.data.toList = b.data.toList) : a = b := ByteArray.ext (Array.toList_inj.1 h)
theorem bstr_data (l : List Nat) : (bstr l).data.toList = l.map UInt8.ofNat := rfl
theorem Sign_ok (m : Nat) (h : okN m) : duetref12_Sign.f 1 (m : Int) = some (bstr (signL m)) := by
  unfold okN at h
  have good : duetref12_Sign.j0 1 (m : Int) false = some (bstr (signL m)) := by
    rw [duetref12_Sign.j0, if_neg (by simp)]
    have t64 : Int.tdiv (m : Int) 64 = ((m / 64 : Nat) : Int) := tdn m 64
    have t40 : Int.tdiv (m : Int) 4096 = ((m / 4096 : Nat) : Int) := tdn m 4096
    have t26 : Int.tdiv (m : Int) 262144 = ((m / 262144 : Nat) : Int) := tdn m 262144
    have w64 : wrap64 ((m / 64 : Nat) : Int) = ((m / 64 : Nat) : Int) := wid _ (Nat.lt_of_le_of_lt (Nat.div_le_self _ _) (by omega))
    have w40 : wrap64 ((m / 4096 : Nat) : Int) = ((m / 4096 : Nat) : Int) := wid _ (Nat.lt_of_le_of_lt (Nat.div_le_self _ _) (by omega))
    have w26 : wrap64 ((m / 262144 : Nat) : Int) = ((m / 262144 : Nat) : Int) := wid _ (Nat.lt_of_le_of_lt (Nat.div_le_self _ _) (by omega))
    have low : ∀ q : Nat, wrap64 (128 + Int.tmod (q : Int) 64) % 256 = ((128 + q % 64 : Nat) : Int) := by
      intro q
      have h1 : Int.tmod (q : Int) 64 = ((q % 64 : Nat) : Int) := by rw [Int.tmod_eq_emod_of_nonneg (by omega)]; rfl
      have h2 : q % 64 < 64 := Nat.mod_lt _ (by decide)
      rw [h1, show (128 : Int) + ((q % 64 : Nat) : Int) = ((128 + q % 64 : Nat) : Int) by omega, wid _ (by omega)]
      generalize q % 64 = z at h2 ⊢
      omega
    have top : ∀ a q : Nat, a + q < 256 → wrap64 ((a : Int) + (q : Int)) % 256 = ((a + q : Nat) : Int) := by
      intro a q h; rw [show (a : Int) + (q : Int) = ((a + q : Nat) : Int) by omega, wid _ (by omega)]; omega
    rw [t64, t40, t26, w64, w40, w26, low, low, low]
    unfold signL
    by_cases h1 : m < 128
    · rw [if_pos (by omega), if_pos h1]
      refine congrArg some (ba_ext ?_)
      rw [strOfNums_data, bstr_data]
      simp only [List.map_cons, List.map_nil]
      rw [num _ m (by omega)]
    · rw [if_neg (by omega), if_neg h1]
      by_cases h2 : m < 2048
      · rw [if_pos (by omega), if_pos h2]
        refine congrArg some (ba_ext ?_)
        have hq : m / 64 < 32 := (Nat.div_lt_iff_lt_mul (by decide)).2 (by omega)
        have e := top 192 (m / 64) (Nat.lt_of_lt_of_le (Nat.add_lt_add_left hq 192) (by decide))
        rw [show ((192 : Nat) : Int) = 192 from rfl] at e
        rw [strOfNums_data, bstr_data, e]
        simp only [List.map_cons, List.map_nil, Int.toNat_natCast]
      · rw [if_neg (by omega), if_neg h2]
        by_cases h3 : m < 65536
        · rw [if_pos (by omega), if_pos h3]
          refine congrArg some (ba_ext ?_)
          have hq : m / 4096 < 16 := (Nat.div_lt_iff_lt_mul (by decide)).2 (by omega)
          have e := top 224 (m / 4096) (Nat.lt_of_lt_of_le (Nat.add_lt_add_left hq 224) (by decide))
          rw [show ((224 : Nat) : Int) = 224 from rfl] at e
          rw [strOfNums_data, bstr_data, e]
          simp only [List.map_cons, List.map_nil, Int.toNat_natCast]
        · rw [if_neg (by omega), if_neg h3]
          refine congrArg some (ba_ext ?_)
          have hq : m / 262144 < 5 := (Nat.div_lt_iff_lt_mul (by decide)).2 (by omega)
          have e := top 240 (m / 262144) (Nat.lt_of_lt_of_le (Nat.add_lt_add_left hq 240) (by decide))
          rw [show ((240 : Nat) : Int) = 240 from rfl] at e
          rw [strOfNums_data, bstr_data, e]
          simp only [List.map_cons, List.map_nil, Int.toNat_natCast]
  unfold duetref12_Sign.f
  rw [if_neg (by omega), if_neg (by omega)]
  by_cases h2 : (m : Int) ≥ 55296
  · rw [if_pos h2, decide_eq_false (by omega)]; exact good
  · rw [if_neg h2]; exact good
theorem nats_bstr (l : List Nat) (h : ∀ x ∈ l, x < 256) : nats (bstr l) = l := by
  unfold nats
  rw [bstr_data, List.map_map]
  conv => rhs; rw [← List.map_id l]
  refine List.map_congr_left fun x hx => ?_
  have := h x hx
  simp [UInt8.toNat_ofNat', Nat.mod_eq_of_lt this]
theorem run_one {c : Nat} {l : List Nat} {w w2 : List Nat} {k : List Key} (h : mach w c = (k, w2)) : run w (c :: l) = (k ++ (run w2 l).1, (run w2 l).2) := by
  show ((mach w c).1 ++ (run (mach w c).2 l).1, (run (mach w c).2 l).2) = _
  rw [h]
theorem first_long (b : Nat) (h1 : 194 ≤ b) (h2 : b ≤ 244) : mach [] b = ([], [b]) := by
  show firstM b = _
  unfold firstM
  rw [if_neg (by omega), if_neg (by omega), if_neg (by omega), if_neg (by omega), if_pos ⟨h1, h2⟩]
theorem more_on (b : Nat) (r : List Nat) (c : Nat) (hb : 194 ≤ b) (h1 : 128 ≤ c) (h2 : c ≤ 191) (h3 : r.length + 2 < sizeN b) : mach (b :: r) c = ([], b :: (r ++ [c])) := by
  rw [mach_more _ _ _ (by omega)]; unfold moreM; rw [if_neg (by omega), if_pos h3]
theorem more_end (b : Nat) (r : List Nat) (c : Nat) (hb : 194 ≤ b) (h1 : 128 ≤ c) (h2 : c ≤ 191) (h3 : ¬ r.length + 2 < sizeN b) : mach (b :: r) c = ([runeKey (b :: (r ++ [c]))], []) := by
  rw [mach_more _ _ _ (by omega)]; unfold moreM; rw [if_neg (by omega), if_neg h3]
theorem key_is (l : List Nat) (m : Nat) (h : valN l = (m : Int)) (hl : leastN (l.headD 0) ≤ (m : Int)) (ho : okN m) (h1 : 159 < m) : runeKey l = (1, (m : Int)) := by
  unfold okN at ho
  unfold runeKey
  rw [h, if_neg (by omega)]
theorem sign_run (m : Nat) (h : okN m) : run [] (signL m) = ([(1, (m : Int))], []) ∧ (∀ x ∈ signL m, x < 256) ∧ (signL m).length ≤ 4 := by
  have ho := h
  unfold okN at h
  unfold signL
  have q0 := Nat.mod_lt m (show 64 > 0 by decide)
  have d0 : 64 * (m / 64) + m % 64 = m := by omega
  by_cases h1 : m < 128
  · rw [if_pos h1]
    have hm : mach [] m = ([(1, (m : Int))], []) := by
      show firstM m = _
      unfold firstM
      rw [if_neg (by omega), if_neg (by omega), if_neg (by omega), if_pos (by omega)]
    rw [run_one hm]
    exact ⟨rfl, by simp; omega, by simp⟩
  rw [if_neg h1]
  by_cases h2 : m < 2048
  · rw [if_pos h2]
    generalize ha : m / 64 = a at *
    generalize hb : m % 64 = b at *
    have hs : sizeN (192 + a) = 2 := by unfold sizeN; rw [if_neg (by omega), if_neg (by omega)]
    rw [run_one (first_long _ (by omega) (by omega)), run_one (more_end _ [] (128 + b) (by omega) (by omega) (by omega) (by rw [hs]; simp)), key_is _ m (by
      simp only [valN, List.nil_append, List.foldl_cons, List.foldl_nil]
      rw [if_neg (by omega), if_neg (by omega)]; omega) (by simp only [List.headD_cons]; unfold leastN; rw [if_neg (by omega), if_neg (by omega)]; omega) ho (by omega)]
    exact ⟨rfl, by simp; omega, by simp⟩
  rw [if_neg h2]
  have q1 := Nat.mod_lt (m / 64) (show 64 > 0 by decide)
  by_cases h3 : m < 65536
  · rw [if_pos h3]
    have d1 : 4096 * (m / 4096) + 64 * (m / 64 % 64) + m % 64 = m := by omega
    have k1 : m / 4096 < 16 := by omega
    have k2 : (m / 4096 = 0 → 32 ≤ m / 64 % 64) := by omega
    clear d0
    generalize ha : m / 4096 = a at *
    generalize hb : m / 64 % 64 = b at *
    generalize hc : m % 64 = c at *
    have hs : sizeN (224 + a) = 3 := by unfold sizeN; rw [if_neg (by omega), if_pos (by omega)]
    rw [run_one (first_long _ (by omega) (by omega)), run_one (more_on _ [] (128 + b) (by omega) (by omega) (by omega) (by rw [hs]; simp)), run_one (more_end (224 + a) ([] ++ [128 + b]) (128 + c) (by omega) (by omega) (by omega) (by rw [hs]; simp)), key_is _ m (by
      simp only [valN, List.nil_append, List.cons_append, List.foldl_cons, List.foldl_nil]
      rw [if_neg (by omega), if_pos (by omega)]; omega) (by simp only [List.headD_cons]; unfold leastN; rw [if_neg (by omega), if_pos (by omega)]; omega) ho (by omega)]
    exact ⟨rfl, by simp; omega, by simp⟩
  · rw [if_neg h3]
    have q2 := Nat.mod_lt (m / 4096) (show 64 > 0 by decide)
    have d1 : 262144 * (m / 262144) + 4096 * (m / 4096 % 64) + 64 * (m / 64 % 64) + m % 64 = m := by omega
    have k1 : m / 262144 < 5 := by omega
    clear d0
    generalize ha : m / 262144 = a at *
    generalize hd : m / 4096 % 64 = d at *
    generalize hb : m / 64 % 64 = b at *
    generalize hc : m % 64 = c at *
    have hs : sizeN (240 + a) = 4 := by unfold sizeN; rw [if_pos (by omega)]
    rw [run_one (first_long _ (by omega) (by omega)), run_one (more_on _ [] (128 + d) (by omega) (by omega) (by omega) (by rw [hs]; simp)), run_one (more_on (240 + a) ([] ++ [128 + d]) (128 + b) (by omega) (by omega) (by omega) (by rw [hs]; simp)), run_one (more_end (240 + a) (([] ++ [128 + d]) ++ [128 + b]) (128 + c) (by omega) (by omega) (by omega) (by rw [hs]; simp)), key_is _ m (by
      simp only [valN, List.nil_append, List.cons_append, List.foldl_cons, List.foldl_nil]
      rw [if_pos (by omega)]; omega) (by simp only [List.headD_cons]; unfold leastN; rw [if_pos (by omega)]; omega) ho (by omega)]
    exact ⟨rfl, by simp; omega, by simp⟩
end Go.Proofs.YtmgdikfgejablaaDoor.Ks

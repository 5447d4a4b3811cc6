/- A rune's sign, by the document's own function; and what of it is no blank. -/
import Derived.Test.YtoidlaonolkgkaaDoorPx5
import Derived.Test.YtoidlaonolkgkaaDoorGe
set_option linter.unusedVariables false
set_option linter.unusedSimpArgs false
namespace Go.Proofs.YtoidlaonolkgkaaDoor.Gs
open Go.RowKit Go.Proofs.YtoidlaonolkgkaaDoor.Giv Go.Proofs.YtoidlaonolkgkaaDoorW.PrintWords Go.Proofs.YtoidlaonolkgkaaDoorW.PrintLast Go.Proofs.YtoidlaonolkgkaaDoor.P Go.Proofs.YtoidlaonolkgkaaDoor.Ge
def signB (n : Int) : ByteArray := ⟨(Lib.encodeRune (signN n)).toArray⟩
theorem wid (q : Nat) (h : q < 2000000) : wrap64 ((q : Nat) : Int) = (q : Int) := by unfold wrap64; omega
theorem td (m d : Nat) (h : m < 2000000) : wrap64 (Int.tdiv (m : Int) (d : Int)) = ((m / d : Nat) : Int) := by
  rw [← Int.ofNat_tdiv, wid _ (Nat.lt_of_le_of_lt (Nat.div_le_self _ _) h)]
theorem low (q : Nat) : wrap64 (128 + Int.tmod (q : Int) 64) % 256 = 128 + (q : Int) % 64 := by
  have h1 : Int.tmod (q : Int) 64 = ((q % 64 : Nat) : Int) := (Int.ofNat_tmod q 64).symm
  rw [h1]; unfold wrap64; omega
theorem top (a q : Nat) (h : a + q < 256) : wrap64 ((a : Int) + (q : Int)) % 256 = (a : Int) + (q : Int) := by unfold wrap64; omega
theorem sign_bad (n : Int) (h : n < 0 ∨ (55296 ≤ n ∧ n ≤ 57343) ∨ 1114111 < n) : signB n = ⟨#[239, 191, 189]⟩ := by
  unfold signB Lib.encodeRune
  have hs : signN n < 0 ∨ (55296 ≤ signN n ∧ signN n ≤ 57343) ∨ 1114111 < signN n := by unfold signN; split <;> omega
  rw [Lib.encodeRuneZ_bad hs]
  rfl
theorem nums_of (l : List Int) : strOfNums l = ⟨(l.map fun x => x.toNat.toUInt8).toArray⟩ := by
  apply ByteArray.ext
  apply Array.toList_inj.1
  rw [strOfNums_data]
set_option maxHeartbeats 4000000 in
theorem Sign_f (k : Nat) (n : Int) : duetref12_Sign.f (k + 1) n = some (signB n) := by
  have bad : ∀ b, b = true → (n < 0 ∨ (55296 ≤ n ∧ n ≤ 57343) ∨ 1114111 < n) → duetref12_Sign.j0 (k + 1) n b = some (signB n) := by
    rintro b rfl h
    rw [duetref12_Sign.j0, if_pos rfl, sign_bad n h]
  have good : ¬ (n < 0 ∨ (55296 ≤ n ∧ n ≤ 57343) ∨ 1114111 < n) → duetref12_Sign.j0 (k + 1) n false = some (signB n) := by
    intro h
    obtain ⟨m, rfl⟩ : ∃ m : Nat, n = (m : Int) := ⟨n.toNat, by omega⟩
    have hsn : signN (m : Int) = (m : Int) := by unfold signN; rw [if_pos (by omega)]
    have t64 : wrap64 (Int.tdiv (m : Int) 64) = ((m / 64 : Nat) : Int) := td m 64 (by omega)
    have t40 : wrap64 (Int.tdiv (m : Int) 4096) = ((m / 4096 : Nat) : Int) := td m 4096 (by omega)
    have t26 : wrap64 (Int.tdiv (m : Int) 262144) = ((m / 262144 : Nat) : Int) := td m 262144 (by omega)
    rw [duetref12_Sign.j0, if_neg (by simp), t64, t40, t26, low, low, low]
    unfold signB Lib.encodeRune
    rw [hsn]
    by_cases h1 : m < 128
    · rw [if_pos (by omega), nums_of, Lib.encodeRuneZ_one (by omega) (by omega), show (m : Int) % 256 = (m : Int) by omega]
    · rw [if_neg (by omega)]
      by_cases h2 : m < 2048
      · have hq : m / 64 < 32 := (Nat.div_lt_iff_lt_mul (by decide)).2 (by omega)
        have e := top 192 (m / 64) (Nat.lt_of_lt_of_le (Nat.add_lt_add_left hq 192) (by decide))
        rw [show ((192 : Nat) : Int) = 192 from rfl] at e
        rw [if_pos (by omega), nums_of, Lib.encodeRuneZ_two (by omega) (by omega), e]
        rfl
      · rw [if_neg (by omega)]
        by_cases h3 : m < 65536
        · have hq : m / 4096 < 16 := (Nat.div_lt_iff_lt_mul (by decide)).2 (by omega)
          have e := top 224 (m / 4096) (Nat.lt_of_lt_of_le (Nat.add_lt_add_left hq 224) (by decide))
          rw [show ((224 : Nat) : Int) = 224 from rfl] at e
          rw [if_pos (by omega), nums_of, Lib.encodeRuneZ_three (by omega), e]
          rfl
        · have hq : m / 262144 < 5 := (Nat.div_lt_iff_lt_mul (by decide)).2 (by omega)
          have e := top 240 (m / 262144) (Nat.lt_of_lt_of_le (Nat.add_lt_add_left hq 240) (by decide))
          rw [show ((240 : Nat) : Int) = 240 from rfl] at e
          rw [if_neg (by omega), nums_of, Lib.encodeRuneZ_four (by omega) (by omega), e]
          rfl
  unfold duetref12_Sign.f
  by_cases h0 : n < 0
  · rw [if_pos h0]; exact bad _ rfl (.inl h0)
  · rw [if_neg h0]
    by_cases h1 : n > 1114111
    · rw [if_pos h1]; exact bad _ rfl (.inr (.inr h1))
    · rw [if_neg h1]
      by_cases h2 : n ≥ 55296
      · rw [if_pos h2]
        by_cases h3 : n ≤ 57343
        · exact bad _ (decide_eq_true h3) (.inr (.inl ⟨h2, h3⟩))
        · rw [decide_eq_false h3]; exact good (by omega)
      · rw [if_neg h2]; exact good (by omega)
/-- No byte of a rune other than the blank is one. -/
theorem enc_blank (r : Int) (x : UInt8) (hx : x ∈ Lib.encodeRune r) (h : x = 32) : r = 32 := by
  unfold Lib.encodeRune at hx
  obtain ⟨z, hz, rfl⟩ := List.mem_map.1 hx
  obtain ⟨h0, h1⟩ := Lib.encodeRuneZ_byte r z hz
  have hz32 : z = 32 := by
    have h2 := congrArg UInt8.toNat h
    have h3 : (z.toNat.toUInt8).toNat = z.toNat := by
      show z.toNat % 256 = z.toNat
      omega
    rw [h3] at h2
    have h4 : (32 : UInt8).toNat = 32 := rfl
    omega
  subst hz32
  unfold Lib.encodeRuneZ at hz
  split at hz
  · exact (List.mem_singleton.1 hz).symm
  · split at hz
    · simp at hz; omega
    · split at hz
      · simp at hz; omega
      · split at hz
        · simp at hz; omega
        · simp at hz
theorem enc_len (r : Int) : 1 ≤ (Lib.encodeRune r).length ∧ (Lib.encodeRune r).length ≤ 4 := by
  unfold Lib.encodeRune; rw [List.length_map]; exact Lib.encodeRuneZ_length r
theorem enc_filter (r : Int) : (Lib.encodeRune r).filter (· != 32) = if r = 32 then [] else Lib.encodeRune r := by
  by_cases h : r = 32
  · subst h; rfl
  · rw [if_neg h, List.filter_eq_self]
    intro x hx
    simp only [bne_iff_ne, ne_eq]
    exact fun e => h (enc_blank r x hx e)
end Go.Proofs.YtoidlaonolkgkaaDoor.Gs

/- Bits that are turned within 24 that stand one behind the other: what becomes of the sum. Plain numbers. -/
import Derived.Test.YtiapjnidahonaaaCrc
set_option linter.unusedVariables false
set_option linter.unusedSimpArgs false
namespace Go.Proofs.Ytiapjnidahonaaa.Turn
open Go.Proofs.Ytiapjnidahonaaa.Crc
/-- Which bit is turned. -/
def bitOf (bits : Int) (i : Nat) : Bool := (bits / 2 ^ i).tmod 2 != 0
theorem bitOf_iff (bits : Int) (i : Nat) : bitOf bits i = true ↔ (bits / 2 ^ i) % 2 = 1 := by
  unfold bitOf
  rw [bne_iff_ne]
  generalize bits / 2 ^ i = q
  rcases Int.le_total 0 q with h | h
  · rw [Int.tmod_eq_emod_of_nonneg h]; omega
  · obtain ⟨p, rfl⟩ : ∃ p, q = -p := ⟨-q, by omega⟩
    rw [Int.neg_tmod, Int.tmod_eq_emod_of_nonneg (by omega)]; omega
/-- The pattern of the turned bits so far, the first one at the top of 24. -/
def pat (bits : Int) : Nat → Nat
  | 0 => 0
  | i + 1 => pat bits i ^^^ (if bitOf bits i = true then 2 ^ (23 - i) else 0)
theorem pat_bit (bits : Int) (i : Nat) (hi : i ≤ 24) (j : Nat) (hj : j < 24) : (pat bits i).testBit (23 - j) = (decide (j < i) && bitOf bits j) := by
  induction i with
  | zero => simp [pat]
  | succ i ih =>
    simp only [pat]
    rw [Nat.testBit_xor, ih (by omega)]
    by_cases e : j = i
    · subst e
      cases hb : bitOf bits j <;> simp [hb]
    · rw [show decide (j < i + 1) = decide (j < i) by rw [decide_eq_decide]; omega]
      cases hb : bitOf bits i
      · simp
      · simp only [if_true, Nat.testBit_two_pow]
        rw [decide_eq_false (show ¬ 23 - i = 23 - j by omega)]
        simp
theorem none_zero (bits : Int) (n : Nat) (h : ∀ i, i < n → bitOf bits i = false) : bits % 2 ^ n = 0 := by
  induction n with
  | zero => simp
  | succ n ih =>
    have h1 := ih fun i hi => h i (by omega)
    have h2 := h n (by omega)
    have h3 : (bits / 2 ^ n) % 2 = 0 := by
      have := mt (bitOf_iff bits n).2 (by rw [h2]; simp)
      omega
    have h4 := Int.emod_add_mul_ediv bits (2 ^ n)
    have h5 := Int.emod_add_mul_ediv (bits / 2 ^ n) 2
    have e : bits = 2 ^ (n + 1) * (bits / 2 ^ n / 2) := by
      rw [Int.pow_succ, Int.mul_assoc]
      rw [h1] at h4
      rw [h3] at h5
      rw [show 2 * (bits / 2 ^ n / 2) = bits / 2 ^ n by omega]
      omega
    rw [e]
    exact Int.mul_emod_right _ _
theorem pat_ne (bits : Int) (h : bits % 16777216 ≠ 0) : pat bits 24 ≠ 0 := by
  intro e
  apply h
  have := none_zero bits 24 fun i hi => by
    have := pat_bit bits 24 (by omega) i hi
    rw [e] at this
    simpa [hi] using this.symm
  exact this
/-- One round of the loop. -/
def turn (bits : Int) (from_ i : Nat) (l : List Nat) : List Nat :=
  if bitOf bits i = true then l.set ((from_ + i) / 8) (l.getD ((from_ + i) / 8) 0 ^^^ 2 ^ (7 - (from_ + i) % 8)) else l
def turned (bits : Int) (from_ : Nat) (l : List Nat) : Nat → List Nat
  | 0 => l
  | i + 1 => turn bits from_ i (turned bits from_ l i)
theorem turned_length (bits : Int) (from_ : Nat) (l : List Nat) (i : Nat) : (turned bits from_ l i).length = l.length := by
  induction i with
  | zero => rfl
  | succ i ih => simp only [turned, turn]; split <;> simp [ih]
theorem turned_lt (bits : Int) (from_ : Nat) (l : List Nat) (h : ∀ c ∈ l, c < 256) (i : Nat) : ∀ c ∈ turned bits from_ l i, c < 256 := by
  induction i with
  | zero => exact h
  | succ i ih =>
    simp only [turned, turn]
    split
    · intro c hc
      rcases List.mem_or_eq_of_mem_set hc with hc | rfl
      · exact ih c hc
      · refine Nat.xor_lt_two_pow (n := 8) ?_ (Nat.pow_lt_pow_right (by omega) (by omega))
        rw [List.getD_eq_getElem?_getD]
        by_cases hk : (from_ + i) / 8 < (turned bits from_ l i).length
        · rw [List.getElem?_eq_getElem hk]; exact ih _ (List.getElem_mem hk)
        · rw [List.getElem?_eq_none (by omega)]; decide
    · exact ih
theorem pw_top (i : Nat) (hi : i ≤ 23) : pw i (2 ^ (23 - i)) = 2 ^ 23 := by
  have e : 2 ^ (23 - i) * 2 ^ i = 2 ^ 23 := by rw [← Nat.pow_add]; congr 1; omega
  rw [pw_small i _ (by rw [e]; decide), e]
theorem turned_more (s : Nat) (bits : Int) (from_ : Nat) (l : List Nat) (hf : from_ + 24 ≤ 8 * l.length) (i : Nat) (hi : i ≤ 24) :
    more s (turned bits from_ l i) = more s l ^^^ pw (8 * l.length - from_) (pat bits i) := by
  induction i with
  | zero => simp [turned, pat, pw_zero]
  | succ i ih =>
    simp only [turned, pat, turn]
    cases hb : bitOf bits i
    · simp [ih (by omega)]
    · simp only [if_true]
      rw [more_set _ _ _ _ (by rw [turned_length]; omega), ih (by omega), turned_length, Nat.xor_assoc, pw_xor]
      congr 2
      have e1 : 2 ^ (7 - (from_ + i) % 8) * 65536 = 2 ^ (23 - (from_ + i) % 8) := by
        rw [show (65536 : Nat) = 2 ^ 16 from rfl, ← Nat.pow_add]; congr 1; omega
      rw [e1, show 8 * (l.length - (from_ + i) / 8) = (from_ + i) % 8 + (8 * l.length - (from_ + i)) by omega, pw_add, pw_top _ (by omega),
        show 8 * l.length - from_ = i + (8 * l.length - (from_ + i)) by omega, pw_add, pw_top _ (by omega)]
theorem turned_ne (s : Nat) (bits : Int) (from_ : Nat) (l : List Nat) (hf : from_ + 24 ≤ 8 * l.length) (h : bits % 16777216 ≠ 0) (h0 : more s l = 0) :
    more s (turned bits from_ l 24) ≠ 0 := by
  rw [turned_more s bits from_ l hf 24 (by omega), h0, Nat.zero_xor]
  exact pw_ne _ _ (pat_ne bits h)
end Go.Proofs.Ytiapjnidahonaaa.Turn

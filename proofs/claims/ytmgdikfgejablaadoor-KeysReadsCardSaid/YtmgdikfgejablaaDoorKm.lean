/- What a rune's bytes decode to. Plain numbers. -/
import Derived.Test.YtmgdikfgejablaaDoorKy
import Derived.Lib.DecodeN
set_option linter.unusedVariables false
set_option linter.unusedSimpArgs false
namespace Go.Proofs.YtmgdikfgejablaaDoor.Km
open Go.Lib Go.Proofs.YtmgdikfgejablaaDoor.Ky
/-- May v be told as a rune of n bytes? -/
def okR (l : List Nat) : Bool := decide (¬ (valN l < leastN (l.headD 0) ∨ 1114111 < valN l ∨ (55296 ≤ valN l ∧ valN l ≤ 57343)))
theorem val2 (a b : Nat) (h1 : 194 ≤ a) (h2 : a < 224) (h3 : 128 ≤ b) (h4 : b ≤ 191) : valN [a, b] = ((a % 32 * 64 + b % 64 : Nat) : Int) := by
  simp only [valN, List.foldl_cons, List.foldl_nil]
  rw [if_neg (by omega), if_neg (by omega)]
  omega
theorem val3 (a b c : Nat) (h1 : 224 ≤ a) (h2 : a < 240) (h3 : 128 ≤ b) (h4 : b ≤ 191) (h5 : 128 ≤ c) (h6 : c ≤ 191) : valN [a, b, c] = ((a % 16 * 4096 + b % 64 * 64 + c % 64 : Nat) : Int) := by
  simp only [valN, List.foldl_cons, List.foldl_nil]
  rw [if_neg (by omega), if_pos (by omega)]
  omega
theorem val4 (a b c d : Nat) (h1 : 240 ≤ a) (h2 : a ≤ 244) (h3 : 128 ≤ b) (h4 : b ≤ 191) (h5 : 128 ≤ c) (h6 : c ≤ 191) (h7 : 128 ≤ d) (h8 : d ≤ 191) : valN [a, b, c, d] = ((a % 8 * 262144 + b % 64 * 4096 + c % 64 * 64 + d % 64 : Nat) : Int) := by
  simp only [valN, List.foldl_cons, List.foldl_nil]
  rw [if_pos (by omega)]
  omega
theorem dec2 (a b c d : Nat) (h1 : 194 ≤ a) (h2 : a < 224) (h3 : 128 ≤ b) (h4 : b ≤ 191) : decodeN 2 a b c d = if okR [a, b] = true then ((valN [a, b]).toNat, 2) else (65533, 1) := by
  have hv := val2 a b h1 h2 h3 h4
  have hl : leastN (([a, b] : List Nat).headD 0) = 128 := by
    show leastN a = 128
    unfold leastN; rw [if_neg (by omega), if_neg (by omega)]
  unfold decodeN okR
  rw [hl, hv, if_neg (by omega), if_pos (by omega), if_pos (by omega), Int.toNat_natCast, if_pos (by simp; omega)]
theorem dec3 (a b c d : Nat) (h1 : 224 ≤ a) (h2 : a < 240) (h3 : 128 ≤ b) (h4 : b ≤ 191) (h5 : 128 ≤ c) (h6 : c ≤ 191) : decodeN 3 a b c d = if okR [a, b, c] = true then ((valN [a, b, c]).toNat, 3) else (65533, 1) := by
  have hv := val3 a b c h1 h2 h3 h4 h5 h6
  have hl : leastN (([a, b, c] : List Nat).headD 0) = 2048 := by
    show leastN a = 2048
    unfold leastN; rw [if_neg (by omega), if_pos (by omega)]
  unfold decodeN okR
  rw [hl, hv, if_neg (by omega), if_neg (by omega), if_pos (by omega), Int.toNat_natCast]
  generalize a % 16 * 4096 + b % 64 * 64 + c % 64 = v at *
  by_cases g : v ≥ 2048 ∧ (v < 55296 ∨ (57344 ≤ v ∧ v ≤ 1114111))
  · rw [if_pos g, if_pos (by simp; omega)]
  · rw [if_neg g, if_neg (by simp; omega)]
theorem dec4 (a b c d : Nat) (h1 : 240 ≤ a) (h2 : a ≤ 244) (h3 : 128 ≤ b) (h4 : b ≤ 191) (h5 : 128 ≤ c) (h6 : c ≤ 191) (h7 : 128 ≤ d) (h8 : d ≤ 191) : decodeN 4 a b c d = if okR [a, b, c, d] = true then ((valN [a, b, c, d]).toNat, 4) else (65533, 1) := by
  have hv := val4 a b c d h1 h2 h3 h4 h5 h6 h7 h8
  have hl : leastN (([a, b, c, d] : List Nat).headD 0) = 65536 := by
    show leastN a = 65536
    unfold leastN; rw [if_pos (by omega)]
  unfold decodeN okR
  rw [hl, hv, if_neg (by omega), if_neg (by omega), if_neg (by omega), if_pos (by omega), Int.toNat_natCast]
  generalize a % 8 * 262144 + b % 64 * 4096 + c % 64 * 64 + d % 64 = v at *
  by_cases g : v ≥ 65536 ∧ (v < 55296 ∨ (57344 ≤ v ∧ v ≤ 1114111))
  · rw [if_pos g, if_pos (by simp; omega)]
  · rw [if_neg g, if_neg (by simp; omega)]
theorem key_ok (l : List Nat) : runeKey l = if okR l = true then (if 128 ≤ valN l ∧ valN l ≤ 159 then (12, 0) else (1, valN l)) else (12, 0) := by
  unfold runeKey okR
  generalize valN l = v
  generalize leastN (l.headD 0) = m
  by_cases h : v < m ∨ 1114111 < v ∨ (55296 ≤ v ∧ v ≤ 57343)
  · rw [decide_eq_false (fun x => x h), if_pos (by omega)]; rfl
  · rw [decide_eq_true h, if_pos (show true = true from rfl)]
    by_cases h2 : 128 ≤ v ∧ v ≤ 159
    · rw [if_pos h2, if_pos (.inr (.inr (.inr h2)))]
    · rw [if_neg h2, if_neg (by omega)]
/-- The bytes of a rune that is whole. -/
def Whole (l : List Nat) : Prop := match l with
  | [] => False
  | b :: r => 194 ≤ b ∧ b ≤ 244 ∧ r.length + 1 = sizeN b ∧ ∀ x ∈ r, 128 ≤ x ∧ x ≤ 191
theorem whole_dec (l : List Nat) (h : Whole l) : decodeN l.length (l.getD 0 0) (l.getD 1 0) (l.getD 2 0) (l.getD 3 0) = if okR l = true then ((valN l).toNat, l.length) else (65533, 1) := by
  match l, h with
  | b :: r, ⟨h1, h2, h3, h4⟩ =>
    unfold sizeN at h3
    by_cases g1 : 240 ≤ b
    · rw [if_pos g1] at h3
      match r, h3, h4 with
      | [x, y, z], _, h4 =>
        have hx := h4 x (by simp); have hy := h4 y (by simp); have hz := h4 z (by simp)
        exact dec4 b x y z g1 h2 hx.1 hx.2 hy.1 hy.2 hz.1 hz.2
    · rw [if_neg g1] at h3
      by_cases g2 : 224 ≤ b
      · rw [if_pos g2] at h3
        match r, h3, h4 with
        | [x, y], _, h4 =>
          have hx := h4 x (by simp); have hy := h4 y (by simp)
          exact dec3 b x y 0 g2 (by omega) hx.1 hx.2 hy.1 hy.2
      · rw [if_neg g2] at h3
        match r, h3, h4 with
        | [x], _, h4 =>
          have hx := h4 x (by simp)
          exact dec2 b x 0 0 h1 (by omega) hx.1 hx.2
theorem val_pos (l : List Nat) (h : Whole l) (ho : okR l = true) : 0 ≤ valN l ∧ valN l ≤ 1114111 := by
  unfold okR at ho
  rw [decide_eq_true_eq] at ho
  match l, h with
  | b :: r, ⟨h1, h2, h3, h4⟩ =>
    have : 128 ≤ leastN ((b :: r).headD 0) := by
      show 128 ≤ leastN b
      unfold leastN; split <;> (try split) <;> omega
    omega
theorem whole_size (l : List Nat) (h : Whole l) : l.length = sizeN (l.headD 0) := by
  match l, h with
  | b :: r, ⟨h1, h2, h3, h4⟩ => exact h3
end Go.Proofs.YtmgdikfgejablaaDoor.Km

/- The sums of bytes (CRC-24), in plain numbers: one bit's step is linear and loses nothing. No program in sight. -/
import Derived.Laws.BitsLemmas
set_option linter.unusedVariables false
set_option linter.unusedSimpArgs false
namespace Go.Proofs.Ytacocgomhodboaa.Crc

def lin (s : Nat) : Nat := 2 * s ^^^ (if s.testBit 23 then 0x1864cfb else 0)

theorem two_mul_xor (s t : Nat) : 2 * (s ^^^ t) = 2 * s ^^^ 2 * t := by
  have h := fun a : Nat => (show 2 * a = a <<< 1 by rw [Nat.shiftLeft_eq]; omega)
  rw [h, h, h, Nat.shiftLeft_xor_distrib]

theorem lin_xor (s t : Nat) : lin (s ^^^ t) = lin s ^^^ lin t := by
  unfold lin
  rw [two_mul_xor, Nat.testBit_xor]
  have c4 : ∀ a b c d : Nat, (a ^^^ b) ^^^ (c ^^^ d) = (a ^^^ c) ^^^ (b ^^^ d) := fun a b c d => by
    rw [Nat.xor_assoc, ← Nat.xor_assoc b, Nat.xor_comm b c, Nat.xor_assoc c, ← Nat.xor_assoc]
  rw [c4]
  congr 1
  cases s.testBit 23 <;> cases t.testBit 23 <;> simp

theorem lin_zero : lin 0 = 0 := by decide

theorem testBit_23 (s : Nat) (h : s < 2 ^ 24) : s.testBit 23 = decide (2 ^ 23 ≤ s) := by
  by_cases hs : 2 ^ 23 ≤ s
  · rw [decide_eq_true hs]
    have e : s = 2 ^ 23 + (s - 2 ^ 23) := by omega
    rw [e, Nat.testBit_two_pow_add_eq, Nat.testBit_lt_two_pow (by omega)]; rfl
  · rw [decide_eq_false hs, Nat.testBit_lt_two_pow (by omega)]

theorem lin_lt (s : Nat) (h : s < 2 ^ 24) : lin s < 2 ^ 24 := by
  unfold lin
  rw [testBit_23 s h]
  by_cases hs : 2 ^ 23 ≤ s
  · simp only [hs, decide_true, if_true]
    apply Nat.lt_pow_two_of_testBit
    intro i hi
    rw [Nat.testBit_xor]
    by_cases h24 : i = 24
    · subst h24
      have e : 2 * s = 2 ^ 24 + (2 * s - 2 ^ 24) := by omega
      rw [e, Nat.testBit_two_pow_add_eq, Nat.testBit_lt_two_pow (by omega)]; decide
    · rw [Nat.testBit_lt_two_pow (Nat.lt_of_lt_of_le (show 2 * s < 2 ^ 25 by omega) (Nat.pow_le_pow_right (by omega) (by omega))),
        Nat.testBit_lt_two_pow (Nat.lt_of_lt_of_le (show 0x1864cfb < 2 ^ 25 by decide) (Nat.pow_le_pow_right (by omega) (by omega)))]; rfl
  · simp only [hs, decide_false, Bool.false_eq_true, if_false, Nat.xor_zero]; omega

theorem lin_ne (s : Nat) (h : s ≠ 0) : lin s ≠ 0 := by
  unfold lin
  split
  · intro e
    have := congrArg (fun x => x.testBit 0) e
    simp at this
  · simp; omega

theorem lin_small (s : Nat) (h : s < 2 ^ 23) : lin s = 2 * s := by
  unfold lin; rw [Nat.testBit_lt_two_pow h]; simp

def pw : Nat → Nat → Nat
  | 0, s => s
  | k + 1, s => pw k (lin s)

theorem pw_xor (k s t : Nat) : pw k (s ^^^ t) = pw k s ^^^ pw k t := by
  induction k generalizing s t with
  | zero => rfl
  | succ k ih => simp only [pw, lin_xor, ih]

theorem pw_zero (k : Nat) : pw k 0 = 0 := by
  induction k with
  | zero => rfl
  | succ k ih => simp only [pw, lin_zero, ih]

theorem pw_lt (k s : Nat) (h : s < 2 ^ 24) : pw k s < 2 ^ 24 := by
  induction k generalizing s with
  | zero => exact h
  | succ k ih => exact ih _ (lin_lt s h)

theorem pw_ne (k s : Nat) (h : s ≠ 0) : pw k s ≠ 0 := by
  induction k generalizing s with
  | zero => exact h
  | succ k ih => exact ih _ (lin_ne s h)

theorem pw_add (a b s : Nat) : pw (a + b) s = pw b (pw a s) := by
  induction a generalizing s with
  | zero => rw [Nat.zero_add]; rfl
  | succ a ih => rw [show a + 1 + b = (a + b) + 1 by omega]; simp only [pw, ih]

theorem pw_small (k s : Nat) (h : s * 2 ^ k < 2 ^ 24) : pw k s = s * 2 ^ k := by
  induction k generalizing s with
  | zero => simp [pw]
  | succ k ih =>
    have h1 : s * 2 ^ (k + 1) = 2 * s * 2 ^ k := by rw [Nat.pow_succ]; rw [Nat.mul_comm (2 ^ k) 2, ← Nat.mul_assoc, Nat.mul_comm s 2]
    have h2 : 1 ≤ 2 ^ k := Nat.one_le_two_pow
    have h3 : 2 * s ≤ 2 * s * 2 ^ k := Nat.le_mul_of_pos_right _ h2
    simp only [pw]
    rw [lin_small s (by omega), ih (2 * s) (by omega), h1]

/-- one byte -/
def byte (s c : Nat) : Nat := pw 8 (s ^^^ c * 65536)
theorem byte_lt (s c : Nat) (h : s < 2 ^ 24) (hc : c < 256) : byte s c < 2 ^ 24 := pw_lt 8 _ (Nat.xor_lt_two_pow h (by omega))

def more : Nat → List Nat → Nat
  | s, [] => s
  | s, c :: l => more (byte s c) l

theorem more_append (s : Nat) (a b : List Nat) : more s (a ++ b) = more (more s a) b := by
  induction a generalizing s with
  | nil => rfl
  | cons c l ih => simp only [List.cons_append, more, ih]

theorem more_lt (s : Nat) (l : List Nat) (h : s < 2 ^ 24) (hl : ∀ c ∈ l, c < 256) : more s l < 2 ^ 24 := by
  induction l generalizing s with
  | nil => exact h
  | cons c l ih => exact ih _ (byte_lt s c h (hl c (by simp))) (fun x hx => hl x (by simp [hx]))

theorem more_xor (s t : Nat) (l : List Nat) : more (s ^^^ t) l = more s l ^^^ pw (8 * l.length) t := by
  induction l generalizing s t with
  | nil => simp [more, pw]
  | cons c l ih =>
    simp only [more, byte]
    rw [show s ^^^ t ^^^ c * 65536 = (s ^^^ c * 65536) ^^^ t by rw [Nat.xor_assoc, Nat.xor_comm t, ← Nat.xor_assoc], pw_xor, ih]
    rw [List.length_cons, show 8 * (l.length + 1) = 8 + 8 * l.length by omega, pw_add]

theorem more_set (s : Nat) (l : List Nat) (k x : Nat) (hk : k < l.length) : more s (l.set k (l.getD k 0 ^^^ x)) = more s l ^^^ pw (8 * (l.length - k)) (x * 65536) := by
  induction l generalizing s k with
  | nil => simp at hk
  | cons c l ih =>
    cases k with
    | zero =>
      simp only [List.set_cons_zero, more, byte, List.getD_cons_zero]
      have e : (c ^^^ x) * 65536 = c * 65536 ^^^ x * 65536 := by
        have h := fun a : Nat => (show a * 65536 = a <<< 16 by rw [Nat.shiftLeft_eq])
        rw [h, h, h, Nat.shiftLeft_xor_distrib]
      rw [e, ← Nat.xor_assoc, pw_xor, more_xor, ← pw_add]
      rw [show 8 + 8 * l.length = 8 * ((c :: l).length - 0) by simp; omega]
    | succ k =>
      simp only [List.set_cons_succ, more, List.getD_cons_succ]
      rw [ih _ k (by simpa using hk)]
      simp

theorem pw_snoc (k s : Nat) : pw (k + 1) s = lin (pw k s) := by rw [pw_add]; rfl

/-- One bit into a sum: the reference's step. -/
def step (s b : Nat) : Nat := lin (s ^^^ b * 8388608)

theorem shl_xor (a b k : Nat) : a * 2 ^ k ^^^ b * 2 ^ k = (a ^^^ b) * 2 ^ k := by
  rw [← Nat.shiftLeft_eq, ← Nat.shiftLeft_eq, ← Nat.shiftLeft_eq, Nat.shiftLeft_xor_distrib]

/-- A byte, bit by bit. -/
def bitsFrom : Nat → Nat → Nat → Nat
  | 0, s, _ => s
  | k + 1, s, c => bitsFrom k (step s (c / 2 ^ k % 2)) c

theorem split_bit (c k : Nat) : c % 2 ^ (k + 1) = (c / 2 ^ k % 2) * 2 ^ k ^^^ c % 2 ^ k := by
  have h : (c / 2 ^ k % 2) * 2 ^ k ^^^ c % 2 ^ k = (c / 2 ^ k % 2) * 2 ^ k + c % 2 ^ k := by
    rw [Nat.mul_comm, Nat.two_pow_add_eq_or_of_lt (Nat.mod_lt _ (Nat.two_pow_pos k))]
    apply Nat.eq_of_testBit_eq
    intro i
    rw [Nat.testBit_xor, Nat.testBit_or, Nat.testBit_mod_two_pow, Nat.mul_comm, ← Nat.shiftLeft_eq, Nat.testBit_shiftLeft]
    by_cases hi : i < k
    · simp [hi, Nat.not_le.2 hi]
    · simp [hi]
  rw [h, Nat.pow_succ, Nat.mod_mul, Nat.mul_comm (2 ^ k), Nat.add_comm]

theorem bitsFrom_eq (k : Nat) (hk : k ≤ 24) : ∀ s c, bitsFrom k s c = pw k (s ^^^ (c % 2 ^ k) * 2 ^ (24 - k)) := by
  induction k with
  | zero => intro s c; simp [bitsFrom, pw, Nat.mod_one]
  | succ k ih =>
    intro s c
    have e1 : 2 ^ k * 2 ^ (23 - k) = 8388608 := by rw [← Nat.pow_add, show k + (23 - k) = 23 by omega]
    have e2 : 2 ^ (24 - k) = 2 * 2 ^ (23 - k) := by rw [show 24 - k = (23 - k) + 1 by omega, Nat.pow_succ, Nat.mul_comm]
    have hlt : c % 2 ^ k * 2 ^ (23 - k) < 2 ^ 23 := by
      have := Nat.mul_lt_mul_of_pos_right (Nat.mod_lt c (Nat.two_pow_pos k)) (Nat.two_pow_pos (23 - k))
      rw [e1] at this; exact this
    simp only [bitsFrom, pw]
    rw [ih (by omega), show 24 - (k + 1) = 23 - k by omega, split_bit, ← shl_xor, Nat.mul_assoc, e1, step, ← Nat.xor_assoc, lin_xor (s ^^^ _), lin_small _ hlt, e2]
    congr 2
    rw [← Nat.mul_assoc, Nat.mul_comm _ 2, Nat.mul_assoc]

theorem bits_byte (s c : Nat) (hc : c < 256) : bitsFrom 8 s c = byte s c := by
  rw [bitsFrom_eq 8 (by omega), byte, Nat.mod_eq_of_lt (show c < 2 ^ 8 by omega)]

/-- What the table tells of a byte at a sum's top. -/
theorem byte_tab (s c : Nat) (hs : s < 2 ^ 24) : byte s c = s % 65536 * 256 ^^^ pw 8 ((s / 65536 ^^^ c) * 65536) := by
  have h : s = s / 65536 * 65536 ^^^ s % 65536 := by
    have := split_bit s 0
    have h2 : s / 65536 * 65536 ^^^ s % 65536 = s / 65536 * 65536 + s % 65536 := by
      rw [Nat.mul_comm, show 65536 = 2 ^ 16 from rfl, Nat.two_pow_add_eq_or_of_lt (Nat.mod_lt _ (by decide))]
      apply Nat.eq_of_testBit_eq
      intro i
      rw [Nat.testBit_xor, Nat.testBit_or, Nat.testBit_mod_two_pow, Nat.mul_comm, ← Nat.shiftLeft_eq, Nat.testBit_shiftLeft]
      by_cases hi : i < 16
      · simp [hi, Nat.not_le.2 hi]
      · simp [hi]
    omega
  have e := shl_xor (s / 65536) c 16
  rw [show (2 : Nat) ^ 16 = 65536 from rfl] at e
  unfold byte
  have h3 : s ^^^ c * 65536 = s % 65536 ^^^ (s / 65536 ^^^ c) * 65536 := by
    rw [← e, ← Nat.xor_assoc]
    conv => lhs; rw [h]
    rw [Nat.xor_comm (s / 65536 * 65536)]
  rw [h3, pw_xor, pw_small 8 (s % 65536) (by have := Nat.mod_lt s (show 65536 > 0 by decide); omega)]

/-- Three bytes behind one another are one number of 24 bits. -/
theorem more_three (s a b c : Nat) (hb : b < 256) (hc : c < 256) : more s [a, b, c] = pw 24 (s ^^^ (a * 65536 ^^^ (b * 256 ^^^ c))) := by
  have eb : b * 65536 = pw 8 (b * 256) := by rw [pw_small 8 (b * 256) (by omega)]; omega
  have ec : c * 65536 = pw 16 c := by rw [pw_small 16 c (by omega)]
  simp only [more, byte]
  rw [eb, ← pw_xor, ← pw_add, ec, ← pw_xor, ← pw_add]
  congr 1
  simp only [Nat.xor_assoc]
theorem cut_xor (n k m : Nat) (hm : m = 2 ^ k) (q : Nat) : q * m ^^^ n % m = q * m + n % m := by
  subst hm
  have := Nat.two_pow_add_eq_or_of_lt (Nat.mod_lt n (Nat.two_pow_pos k)) q
  have h3 : q * 2 ^ k ^^^ n % 2 ^ k = 2 ^ k * q ||| n % 2 ^ k := by
    apply Nat.eq_of_testBit_eq
    intro i
    rw [Nat.testBit_xor, Nat.testBit_or, Nat.testBit_mod_two_pow, Nat.mul_comm (2 ^ k), ← Nat.shiftLeft_eq, Nat.testBit_shiftLeft]
    by_cases hi : i < k
    · simp [hi, Nat.not_le.2 hi]
    · simp [hi]
  rw [h3, ← this, Nat.mul_comm]
theorem split3 (n : Nat) (h : n < 16777216) : n / 65536 % 256 * 65536 ^^^ (n / 256 % 256 * 256 ^^^ n % 256) = n := by
  rw [cut_xor n 8 256 rfl, show n / 256 % 256 * 256 + n % 256 = n % 65536 by omega, cut_xor n 16 65536 rfl]
  omega
/-- One step, as it is typed. -/
theorem lin_eq (n : Nat) (h : n < 16777216) : lin n = 2 * n % 16777216 ^^^ (if 8388608 ≤ n then 8801531 else 0) := by
  by_cases hn : 8388608 ≤ n
  · rw [if_pos hn]
    have h1 : lin n = 2 * n ^^^ 0x1864cfb := by
      unfold lin; rw [testBit_23 n h, decide_eq_true (show 2 ^ 23 ≤ n by omega)]; rfl
    have e2 : 1 * 2 ^ 24 ^^^ (2 * n) % 2 ^ 24 = 2 * n := by rw [cut_xor (2 * n) 24 (2 ^ 24) rfl 1]; omega
    rw [h1, show (0x1864cfb : Nat) = 2 ^ 24 ^^^ 8801531 by decide, ← Nat.xor_assoc]
    conv => lhs; rw [← e2]
    rw [Nat.one_mul, Nat.xor_comm (2 ^ 24), Nat.xor_assoc (2 * n % 2 ^ 24), Nat.xor_self, Nat.xor_zero]
  · rw [if_neg hn, Nat.xor_zero, lin_small n (by omega)]; omega
theorem step_eq (n b : Nat) (h : n < 16777216) (hb : b < 2) : step n b = if n / 8388608 = b then 2 * n % 16777216 else 2 * n % 16777216 ^^^ 8801531 := by
  unfold step
  rw [lin_xor, lin_eq n h]
  rcases (show b = 0 ∨ b = 1 by omega) with rfl | rfl
  · rw [Nat.zero_mul, lin_zero, Nat.xor_zero]
    by_cases hn : 8388608 ≤ n
    · rw [if_pos hn, if_neg (by omega)]
    · rw [if_neg hn, if_pos (by omega), Nat.xor_zero]
  · rw [show lin (1 * 8388608) = 8801531 by decide]
    by_cases hn : 8388608 ≤ n
    · rw [if_pos hn, if_pos (by omega), Nat.xor_assoc, Nat.xor_self, Nat.xor_zero]
    · rw [if_neg hn, if_neg (by omega), Nat.xor_zero]
theorem step_lt (n b : Nat) (h : n < 16777216) (hb : b < 2) : step n b < 16777216 := lin_lt _ (Nat.xor_lt_two_pow (n := 24) h (by omega))

/-! ### Go's own operations -/
theorem wraps_i64 (n : Int) (h₀ : 0 ≤ n) (h₁ : n < 2 ^ 62) : IntKind.i64.wrap n = n := by rw [IntKind.wrap_i64]; omega
theorem i64_xor (a b : Nat) (ha : a < 2 ^ 62) (hb : b < 2 ^ 62) : bits .xor .i64 (a : Int) (b : Int) = ((a ^^^ b : Nat) : Int) := by
  have ha' : a % 2 ^ IntKind.i64.bits = a := Nat.mod_eq_of_lt (Nat.lt_trans ha (by decide))
  have hb' : b % 2 ^ IntKind.i64.bits = b := Nat.mod_eq_of_lt (Nat.lt_trans hb (by decide))
  simp only [bits, BitVec.ofInt_natCast, BitVec.toNat_xor, BitVec.toNat_ofNat, ha', hb']
  exact wraps_i64 _ (Int.natCast_nonneg _) (by exact_mod_cast Nat.xor_lt_two_pow ha hb)
theorem u8_xor (a b : Nat) (ha : a < 256) (hb : b < 256) : bits .xor .u8 (a : Int) (b : Int) = ((a ^^^ b : Nat) : Int) := by
  have ha' : a % 2 ^ IntKind.u8.bits = a := Nat.mod_eq_of_lt ha
  have hb' : b % 2 ^ IntKind.u8.bits = b := Nat.mod_eq_of_lt hb
  simp only [bits, BitVec.ofInt_natCast, BitVec.toNat_xor, BitVec.toNat_ofNat, ha', hb']
  exact wraps_u8 _ (Int.natCast_nonneg _) (by exact_mod_cast Nat.xor_lt_two_pow (n := 8) ha hb)
theorem i64_mask (n : Int) : bits .and .i64 n 16777215 = n % 16777216 := by
  have hm : (BitVec.ofInt 64 16777215).toNat = 2 ^ 24 - 1 := by decide
  have key : (BitVec.ofInt 64 n &&& BitVec.ofInt 64 16777215).toNat = (n % ((2 ^ 64 : Nat) : Int)).toNat % 2 ^ 24 := by
    rw [BitVec.toNat_and, BitVec.toNat_ofInt, hm, Nat.and_two_pow_sub_one_eq_mod]
  show IntKind.i64.wrap ((BitVec.ofInt 64 n &&& BitVec.ofInt 64 16777215).toNat : Nat) = n % 16777216
  rw [key, IntKind.wrap_i64]
  omega
end Go.Proofs.Ytacocgomhodboaa.Crc

/- LinksTurned: the walk. -/
import Derived.Test.YtmbaagaeobcmaaaLv
import Derived.DataShut
import Derived.Laws.Bits64
import Derived.Shelf.Spec.RuneCount
set_option linter.unusedVariables false
set_option maxRecDepth 4000
set_option linter.unusedSimpArgs false
namespace Go.Proofs.Ytmbaagaeobcmaaa.Lw
open Go.RowKit Go.Proofs.Ytmbaagaeobcmaaa.Nt Go.Proofs.Ytmbaagaeobcmaaa.Nc Go.Proofs.Ytmbaagaeobcmaaa.Tk Go.Proofs.Ytmbaagaeobcmaaa.Dl Go.Proofs.Ytmbaagaeobcmaaa.Sd Go.Proofs.Ytmbaagaeobcmaaa.Tn Go.Proofs.Ytmbaagaeobcmaaa.Cs Go.Proofs.Ytmbaagaeobcmaaa.Lv Go.Proofs.YtmbaagaeobcmaaaW.PrintWords Go.Proofs.YtmbaagaeobcmaaaW.PrintLast
theorem bits_xor_u8_nat (a b : Nat) (ha : a < 256) (hb : b < 256) : Go.bits .xor .u8 (a : Int) (b : Int) = ((a ^^^ b : Nat) : Int) := by
  have hx : a ^^^ b < 2 ^ 8 := Nat.xor_lt_two_pow (by omega) (by omega)
  have h1 : (BitVec.ofInt 8 (a : Int)).toNat = a := by
    rw [BitVec.ofInt_natCast, BitVec.toNat_ofNat]; exact Nat.mod_eq_of_lt (by omega)
  have h2 : (BitVec.ofInt 8 (b : Int)).toNat = b := by
    rw [BitVec.ofInt_natCast, BitVec.toNat_ofNat]; exact Nat.mod_eq_of_lt (by omega)
  show IntKind.u8.wrap ((BitVec.ofInt 8 (a : Int) ^^^ BitVec.ofInt 8 (b : Int)).toNat : Int) = _
  rw [BitVec.toNat_xor, h1, h2]
  simp [IntKind.wrap, IntKind.bits, IntKind.signed]
  omega
theorem turned_list (y : ByteArray) (a : Nat) (b : Nat) (ha : a < y.data.toList.length) (hb : b < 256) : (turned y a b).data.toList = y.data.toList.set a (UInt8.ofNat ((y.data.toList[a]).toNat ^^^ b)) := by
  have hx : (y.data.toList.getD a 0).toNat < 256 := UInt8.toNat_lt _
  unfold turned
  rw [bits_xor_u8_nat _ _ hx hb, List.getD_eq_getElem?_getD, List.getElem?_eq_getElem ha, Option.getD_some]
  show List.map _ _ = _
  unfold bytesOf
  rw [List.map_set, List.map_map]
  have : ((fun n : Int => UInt8.ofNat n.toNat) ∘ fun b : UInt8 => (b.toNat : Int)) = id := by funext c; simp
  rw [this, List.map_id, Int.toNat_natCast]
theorem turned_twice (y : ByteArray) (a : Nat) (b : Nat) (ha : a < y.size) (hb : b < 256) : turned (turned y a b) a b = y := by
  apply ByteArray.ext
  apply Array.ext'
  have hl : a < y.data.toList.length := by rw [Array.length_toList]; exact ha
  have h2 : a < (turned y a b).data.toList.length := by rw [turned_list y a b hl hb, List.length_set]; exact hl
  rw [turned_list _ a b h2 hb]
  have h3 := turned_list y a b hl hb
  generalize turned y a b = z at h2 h3 ⊢
  have h4 : z.data.toList[a] = UInt8.ofNat ((y.data.toList[a]).toNat ^^^ b) := by simp only [h3, List.getElem_set_self]
  rw [h4, h3, List.set_set, UInt8.toNat_ofNat']
  have h5 : (y.data.toList[a]).toNat ^^^ b < 2 ^ 8 := Nat.xor_lt_two_pow (UInt8.toNat_lt _) hb
  rw [Nat.mod_eq_of_lt h5, Nat.xor_assoc, Nat.xor_self, Nat.xor_zero, UInt8.ofNat_toNat, List.set_getElem_self]
theorem upd_upd (B : Bags) (f t : Int) (l l' : List ByteArray) : upd (upd B f t l) f t l' = upd B f t l' := by
  funext a b
  unfold upd
  split <;> rfl
def one (s : ByteArray) : Bags := upd noBags 1 0 [s]
theorem t1 {w W : World} {g : Nat} (h : Net w W g 2 5 noBags) (s : ByteArray) (hs : s.size ≤ 5000) : Calls Try.prog 11 #[.pointer (some ⟨g, 0, none⟩), .int .i64 1, .int .i64 0, .string s] W fun e w' => e = .returned (.int .i64 0) ∧ Net w w' g 2 5 (one s) := by
  have h1 := Send_calls h 1 0 s
  have : sendR 2 5 noBags 1 0 s = (0, one s) := by
    unfold sendR sendOk
    rw [decide_eq_true hs]
    rfl
  rw [this] at h1
  exact h1
theorem one_at (s : ByteArray) : one s 1 0 = [s] := upd_same _ _ _ _
theorem t2 {w W : World} {g : Nat} (s : ByteArray) (h : Net w W g 2 5 (one s)) (a b : Int) : Calls Try.prog 19 #[.pointer (some ⟨g, 0, none⟩), .int .i64 1, .int .i64 0, .int .i64 0, .int .i64 a, .int .u8 b] W fun e w' => e = .returned (.bool (decide (0 ≤ a ∧ a < s.size))) ∧ Net w w' g 2 5 (one (if 0 ≤ a ∧ a < s.size then turned s a.toNat b else s)) := by
  have h1 := Turn_calls h 1 0 0 a b
  have hh : hasB 2 1 0 0 1 = true := by decide
  unfold turnR at h1
  rw [one_at] at h1
  have : hasB 2 1 0 0 [s].length = true := hh
  rw [if_pos this] at h1
  simp only [List.getD_cons_zero, Int.toNat_zero, List.set_cons_zero] at h1
  by_cases ha : 0 ≤ a ∧ a < s.size
  · rw [if_pos ha] at h1 ⊢
    rw [decide_eq_true ha]
    unfold one at h1 ⊢
    rw [upd_upd] at h1
    exact h1
  · rw [if_neg ha] at h1 ⊢
    rw [decide_eq_false ha]
    exact h1
theorem t3 {w W : World} {g : Nat} (s : ByteArray) (h : Net w W g 2 5 (one s)) : Calls Try.prog 15 #[.pointer (some ⟨g, 0, none⟩), .int .i64 1, .int .i64 0, .int .i64 0] W fun e w' => e = .returned (.tuple #[.string s, .bool true]) ∧ Below w.heap.size w w' := by
  have h1 := Take_calls h 1 0 0
  have hh : hasB 2 1 0 0 1 = true := by decide
  unfold takeR at h1
  rw [one_at] at h1
  have : hasB 2 1 0 0 [s].length = true := hh
  rw [if_pos this] at h1
  exact h1.mono fun e w' ⟨h2, h3⟩ => ⟨h2, h3.bl⟩
theorem turned_back (s : ByteArray) (a b : Int) (hb : (Lit.int .u8 b).wf = true) : (if 0 ≤ a ∧ a < (if 0 ≤ a ∧ a < s.size then turned s a.toNat b else s).size then turned (if 0 ≤ a ∧ a < s.size then turned s a.toNat b else s) a.toNat b else (if 0 ≤ a ∧ a < s.size then turned s a.toNat b else s)) = s ∧
    (decide (0 ≤ a ∧ a < (if 0 ≤ a ∧ a < s.size then turned s a.toNat b else s).size)) = decide (0 ≤ a ∧ a < s.size) := by
  have hz : (turned s a.toNat b).size = s.size := by unfold turned; rw [Tn.strOfNums_size, List.length_set]; unfold bytesOf; rw [List.length_map, Array.length_toList]; rfl
  by_cases ha : 0 ≤ a ∧ a < s.size
  · simp only [if_pos ha, hz]
    refine ⟨?_, trivial⟩
    obtain ⟨n, rfl⟩ : ∃ n : Nat, b = (n : Int) := ⟨b.toNat, by
      have := ((Lit.wf_int_iff _ _).1 hb).1
      have e : IntKind.u8.min = 0 := by decide
      omega⟩
    refine turned_twice s a.toNat n (by omega) ?_
    have := ((Lit.wf_int_iff _ _).1 hb).2
    have e : IntKind.u8.max = 255 := by decide
    omega
  · simp only [if_neg ha]
    exact ⟨trivial, trivial⟩
theorem turned_ok (s y : ByteArray) (a b : Int) (hs : s.size ≤ 5000) (v : Bool)
    (hv : decide (0 ≤ a) = true ∧ decide (a < (s.size : Nat)) = true ∧ v = true ∨ decide (0 ≤ a) = true ∧ decide (a < (s.size : Nat)) = false ∧ v = false ∨ decide (0 ≤ a) = false ∧ v = false)
    (T1 : ∀ {w W : World} {g : Nat}, Net w W g 2 5 (one s) → Calls Try.prog 19 #[.pointer (some ⟨g, 0, none⟩), .int .i64 1, .int .i64 0, .int .i64 0, .int .i64 a, .int .u8 b] W fun e w' => e = .returned (.bool v) ∧ Net w w' g 2 5 (one y))
    (T2 : ∀ {w W : World} {g : Nat}, Net w W g 2 5 (one y) → Calls Try.prog 19 #[.pointer (some ⟨g, 0, none⟩), .int .i64 1, .int .i64 0, .int .i64 0, .int .i64 a, .int .u8 b] W fun e w' => e = .returned (.bool v) ∧ Net w w' g 2 5 (one s))
    (w : World) : Calls Try.prog 7 #[.string s, .int .i64 a, .int .u8 b] w fun e w' => e = .returned (.bool true) ∧ Below w.heap.size w w' := by
  have ds : decide ((5000 : Int) < (s.size : Nat)) = false := decide_eq_false (by omega)
  have hT := Lib.hid (And.intro @T1 @T2)
  clear T1 T2
  rcases hv with ⟨d0, d1, rfl⟩ | ⟨d0, d1, rfl⟩ | ⟨d0, rfl⟩
  all_goals
    go_enter Try.func7, Try.ntmps7
    go_upto_region 6 with (go_at_call 8; with_reducible refine (New_ok 2 5 rfl _).mono ?_; rintro e w1 ⟨g, rfl, h0⟩)
    have h := Lib.hid h0
    clear h0
    go_upto_region 7 with (go_at_call 11; with_reducible refine (t1 h.out s hs).mono ?_; rintro e wx ⟨rfl, hx⟩; replace h := Lib.hid hx; clear hx)
    go_upto_region 8 with (go_at_call 19; with_reducible refine (hT.out.1 h.out).mono ?_; rintro e wx ⟨rfl, hx⟩; replace h := Lib.hid hx; clear hx)
    go_upto_region 9 with (go_at_call 19; with_reducible refine (hT.out.2 h.out).mono ?_; rintro e wx ⟨rfl, hx⟩; replace h := Lib.hid hx; clear hx)
    go_upto_region 10 with (go_at_call 15; with_reducible refine (t3 s h.out).mono ?_; rintro e wx ⟨rfl, hx⟩; clear h; have h := Lib.hid hx; clear hx)
    go_wp2_with (go_at_call 10; with_reducible refine (live_calls _).mono ?_; rintro e wx ⟨rfl, hB⟩)
    go_ret
    exact ⟨rfl, below_then h.out h.out.size hB⟩
set_option maxHeartbeats 1000000 in
theorem turned_law (s : ByteArray) (a b : Int) (hb : (Lit.int .u8 b).wf = true) (w : World) : Calls Try.prog 7 #[.string s, .int .i64 a, .int .u8 b] w fun e w' => e = .returned (.bool true) ∧ Below w.heap.size w w' := by
  by_cases hs : s.size ≤ 5000
  · obtain ⟨e1, e2⟩ := turned_back s a b hb
    refine turned_ok s (if 0 ≤ a ∧ a < s.size then turned s a.toNat b else s) a b hs (decide (0 ≤ a ∧ a < s.size)) ?_ (fun h => t2 s h a b) (fun h => ?_) w
    · by_cases h0 : 0 ≤ a
      · by_cases h1 : a < s.size
        · exact .inl ⟨decide_eq_true h0, decide_eq_true h1, decide_eq_true ⟨h0, h1⟩⟩
        · exact .inr (.inl ⟨decide_eq_true h0, decide_eq_false h1, decide_eq_false fun h => h1 h.2⟩)
      · exact .inr (.inr ⟨decide_eq_false h0, decide_eq_false fun h => h0 h.1⟩)
    · have h1 := t2 _ h a b
      rw [e1, e2] at h1
      exact h1
  · have ds : decide ((5000 : Int) < (s.size : Nat)) = true := decide_eq_true (by omega)
    go_enter Try.func7, Try.ntmps7
    go_wp2_with (go_at_call 10; with_reducible refine (live_calls _).mono ?_; rintro e w1 ⟨rfl, hB⟩)
    go_ret
    exact ⟨rfl, hB⟩
end Go.Proofs.Ytmbaagaeobcmaaa.Lw

/- CrcsApart: the walk of the law's own function. -/
import Derived.Test.YtiapjnidahonaaaTw
import Derived.RegionTactic
import Derived.BigRegion
set_option linter.unusedVariables false
set_option linter.unusedSimpArgs false
namespace Go.Proofs.Ytiapjnidahonaaa.Ap
open Go.RowKit Go.Proofs.Ytiapjnidahonaaa.P Go.Proofs.Ytiapjnidahonaaa.Lem Go.Proofs.Ytiapjnidahonaaa.Tw Go.Proofs.YtiapjnidahonaaaW.PrintWords Go.Proofs.YtiapjnidahonaaaW.PrintLast Go.Proofs.YtiapjnidahonaaaW.PrintMore
open Go.Proofs.Ytiapjnidahonaaa.Crc (more pw more_set pw_add pw_xor pw_small pw_ne)
/-- Byte j of three. -/
def three (x y z : Nat) (j : Nat) : Nat := if j = 0 then x else if j = 1 then y else z
def turn3 (k x y z : Nat) (l : List Nat) : Nat → List Nat
  | 0 => l
  | i + 1 => (turn3 k x y z l i).set (k + i) ((turn3 k x y z l i).getD (k + i) 0 ^^^ three x y z i)
theorem turn3_length (k x y z : Nat) (l : List Nat) (i : Nat) : (turn3 k x y z l i).length = l.length := by
  induction i with
  | zero => rfl
  | succ i ih => simp [turn3, ih]
theorem turn3_lt (k x y z : Nat) (hx : x < 256) (hy : y < 256) (hz : z < 256) (l : List Nat) (h : ∀ c ∈ l, c < 256) (i : Nat) : ∀ c ∈ turn3 k x y z l i, c < 256 := by
  induction i with
  | zero => exact h
  | succ i ih =>
    intro c hc
    simp only [turn3] at hc
    rcases List.mem_or_eq_of_mem_set hc with hc | rfl
    · exact ih c hc
    · refine Nat.xor_lt_two_pow (n := 8) (getD_lt ih _) ?_
      unfold three; split
      · exact hx
      · split
        · exact hy
        · exact hz
theorem turn3_ne (s k x y z : Nat) (hy : y < 256) (hz : z < 256) (l : List Nat) (hk : k + 3 ≤ l.length) (h : ¬ (x = 0 ∧ y = 0 ∧ z = 0)) : more s (turn3 k x y z l 3) ≠ more s l := by
  have e : more s (turn3 k x y z l 3) = more s l ^^^ pw (8 * (l.length - k)) (x * 65536 ^^^ (y * 256 ^^^ z)) := by
    have s1 := more_set s (turn3 k x y z l 2) (k + 2) z (by rw [turn3_length]; omega)
    have s2 := more_set s (turn3 k x y z l 1) (k + 1) y (by rw [turn3_length]; omega)
    have s3 := more_set s l k x (by omega)
    have t3 : turn3 k x y z l 3 = (turn3 k x y z l 2).set (k + 2) ((turn3 k x y z l 2).getD (k + 2) 0 ^^^ z) := rfl
    have t2 : turn3 k x y z l 2 = (turn3 k x y z l 1).set (k + 1) ((turn3 k x y z l 1).getD (k + 1) 0 ^^^ y) := rfl
    have t1 : turn3 k x y z l 1 = l.set k (l.getD k 0 ^^^ x) := rfl
    rw [turn3_length] at s1 s2
    rw [t3, s1, t2, s2, t1, s3, pw_xor, pw_xor, Nat.xor_assoc, Nat.xor_assoc]
    have ey : pw (8 * (l.length - (k + 1))) (y * 65536) = pw (8 * (l.length - k)) (y * 256) := by
      rw [show 8 * (l.length - k) = 8 + 8 * (l.length - (k + 1)) by omega, pw_add, pw_small 8 (y * 256) (by omega), show y * 256 * 2 ^ 8 = y * 65536 by omega]
    have ez : pw (8 * (l.length - (k + 2))) (z * 65536) = pw (8 * (l.length - k)) z := by
      rw [show 8 * (l.length - k) = 16 + 8 * (l.length - (k + 2)) by omega, pw_add, pw_small 16 z (by omega)]
    rw [ey, ez]
  rw [e]
  intro e2
  have h0 : x * 65536 ^^^ (y * 256 ^^^ z) = 0 := by
    refine Classical.byContradiction fun hn => pw_ne (8 * (l.length - k)) _ hn ?_
    have := congrArg (more s l ^^^ ·) e2
    simpa [← Nat.xor_assoc] using this
  apply h
  have c1 := Crc.cut_xor z 8 256 rfl y
  rw [Nat.mod_eq_of_lt hz] at c1
  rw [c1] at h0
  have c2 := Crc.cut_xor (y * 256 + z) 16 65536 rfl x
  rw [Nat.mod_eq_of_lt (show y * 256 + z < 65536 by omega)] at c2
  omega
theorem eq5 (d : Nat) (x : Int) (w : World) : (Op.equalIn (d + 1) 5 (.int .u8 x) (.int .u8 0)).run Try.prog w = .ok (x == 0) w := by
  simp [Op.equalIn, run_underlying Try.underlying5]
theorem part35 (i : Nat) (xs : Array Value) (v : Value) (w : World) (h : xs[i]? = some v) : (part 5 xs i).run Try.prog w = .ok v w := by
  simp [part, isAgg, run_underlying Try.underlying5, h]
theorem info5 : (Try.prog.info? 5).map (·.size) = some 1 := by kernel_rfl
theorem size5 (w : World) : (sizeOf 5).run Try.prog w = .ok 1 w := by
  have h := info5
  cases hq : Try.prog.info? 5 with
  | none => simp [hq] at h
  | some i => simp [hq] at h; simp [sizeOf, typeInfo, hq, h]
theorem eq35 (x y z : Int) (w : World) : (Op.equalIn 10000 35 (.agg #[.int .u8 x, .int .u8 y, .int .u8 z]) (.agg #[.int .u8 0, .int .u8 0, .int .u8 0])).run Try.prog w = .ok (x == 0 && (y == 0 && z == 0)) w := by
  rw [show (10000 : Nat) = 9998 + 1 + 1 from rfl]
  unfold Op.equalIn
  simp only [Sem.run_bind, run_underlying Try.underlying35, Result.andThen_ok, size5]
  have p0 : ∀ (a b c : Int) (w : World), (part 5 #[Value.int .u8 a, .int .u8 b, .int .u8 c] 0).run Try.prog w = .ok (.int .u8 a) w := fun a b c w => part35 0 _ _ w rfl
  have p1 : ∀ (a b c : Int) (w : World), (part 5 #[Value.int .u8 a, .int .u8 b, .int .u8 c] 1).run Try.prog w = .ok (.int .u8 b) w := fun a b c w => part35 1 _ _ w rfl
  have p2 : ∀ (a b c : Int) (w : World), (part 5 #[Value.int .u8 a, .int .u8 b, .int .u8 c] 2).run Try.prog w = .ok (.int .u8 c) w := fun a b c w => part35 2 _ _ w rfl
  have e : ∀ (x : Int) (w : World), (Op.equalIn 9999 5 (.int .u8 x) (.int .u8 0)).run Try.prog w = .ok (x == 0) w := fun x w => eq5 9998 x w
  have hr : List.range' 0 3 = [0, 1, 2] := rfl
  cases h0 : (x == 0) <;> cases h1 : (y == 0) <;> cases h2 : (z == 0) <;>
  simp [hr, Sem.run_bind, p0, p1, p2, e, h0, h1, h2]
theorem sum_yes (s : ByteArray) (w : World) (h : s.size ≤ 140737488351232) : Calls Try.prog 11 #[.string s] w fun e w' => e = .returned (.int .i64 ((sumN s : Nat) : Int)) ∧ Below w.heap.size w w' :=
  crcs_Sum.calls s _ w (Sum_f s h)
/-- The boxed argument. -/
def Arr (A : Nat) (x y z : Nat) (w : World) : Prop := w.heap[A]? = some (.cells #[.int .u8 (x : Int), .int .u8 (y : Int), .int .u8 (z : Int)] 35 (0, 0))
theorem Arr.cell {A x y z : Nat} {w : World} (h : Arr A x y z w) (j : Nat) (hj : j < 3) : w.cell? ⟨A, j, none⟩ = some (.int .u8 ((three x y z j : Nat) : Int)) := by
  rw [cell_of_row w A j _ 35 _ h]
  rcases (show j = 0 ∨ j = 1 ∨ j = 2 by omega) with rfl | rfl | rfl <;> rfl
theorem Arr.set {A x y z B k : Nat} {w : World} {v : Value} (h : Arr A x y z w) (hne : A ≠ B) : Arr A x y z (w.setCell ⟨B, k, none⟩ v) := by
  unfold Arr; rw [heap_setCell_other w _ A v hne]; exact h
set_option maxRecDepth 100000 in
set_option maxHeartbeats 1000000 in
theorem apart_calls (s : ByteArray) (at_ : Int) (x y z : Nat) (w : World) (hx : x < 256) (hy : y < 256) (hz : z < 256) (hs : s.size ≤ 3000) (h0 : ¬ at_ < 0) (h3 : ¬ s.size < 3) (h1 : ¬ (x = 0 ∧ y = 0 ∧ z = 0)) :
    Calls Try.prog 8 #[.string s, .int .i64 at_, .agg #[.int .u8 (x : Int), .int .u8 (y : Int), .int .u8 (z : Int)]] w fun e w' => e = .returned (.bool true) ∧ Below w.heap.size w w' := by
  have h0b : decide (at_ < 0) = false := by simpa using h0
  have h3b : decide (s.size < 3) = false := by simpa using h3
  have heq : ∀ w, (Op.equalIn 10000 35 (.agg #[.int .u8 (x : Int), .int .u8 (y : Int), .int .u8 (z : Int)]) (.agg #[.int .u8 0, .int .u8 0, .int .u8 0])).run Try.prog w = .ok false w := by
    intro w; rw [eq35]
    congr 1
    rw [Bool.and_eq_false_imp]; intro a; rw [Bool.and_eq_false_imp]; intro b
    rw [beq_iff_eq] at a b
    rw [beq_eq_false_iff_ne]; intro c; exact h1 ⟨by omega, by omega, by omega⟩
  have HN := Lib.hid h1
  have hcv := fun w => Lib.run_convert_string_bytes (P := Try.prog) w 9 31 5 s Try.underlying9 Try.underlying31 Try.underlying5
  have h3c : decide ((s.size : Int) < 3) = false := decide_eq_false (by omega)
  clear h0 h1
  go_enter Try.func8, Try.ntmps8
  go_wp2_with (first | (go_at_call 9; refine (short_yes _ _ hs).mono ?_; rintro e w' ⟨rfl, ⟨nd, rfl⟩⟩))
  obtain ⟨W0, hW0⟩ : ∃ W0, W0 = (w.alloc (Obj.cells #[Value.int .u8 (x : Int), .int .u8 (y : Int), .int .u8 (z : Int)] 35)).drewN nd := ⟨_, rfl⟩
  rw [← hW0]
  have hsz0 : W0.heap.size = w.heap.size + 1 := by rw [hW0]; simp
  have hrow := seal_row W0 s
  have hb0 : Below w.heap.size w W0 := by rw [hW0]; exact pw_below_drewN ((Below.refl _ _).alloc (Nat.le_refl _) _) nd
  have hbel : Below w.heap.size w (Lib.bytesWorld W0 5 s) := bytes_below hb0 (by omega) 5 s
  have harr : Arr w.heap.size x y z (Lib.bytesWorld W0 5 s) := by
    unfold Arr; rw [Lib.bytesWorld_at_old W0 5 s _ (by omega), hW0]
    have : ∀ (n : Nat) (v : World), (v.drewN n).heap = v.heap := by intro n v; simp
    rw [this]; exact heap_alloc_new _ _
  obtain ⟨f, hf⟩ : ∃ f : Nat, at_.tmod ((s.size : Int) - 2) = f := by
    have : 0 ≤ at_ := by have := of_decide_eq_false h0b; omega
    refine ⟨(at_.tmod ((s.size : Int) - 2)).toNat, ?_⟩
    rw [Int.tmod_eq_emod_of_nonneg this]
    have := Int.emod_nonneg at_ (show ((s.size : Int) - 2) ≠ 0 by omega)
    omega
  have hfl : f + 3 ≤ s.size := by
    have h : 0 ≤ at_ := by have := of_decide_eq_false h0b; omega
    rw [Int.tmod_eq_emod_of_nonneg h] at hf
    have := Int.emod_lt_of_pos at_ (show 0 < ((s.size : Int) - 2) by omega)
    omega
  rw [hf]
  rw [hsz0] at hrow
  have HL : Hid ((Giv.byts s).length = s.size) := Giv.byts_length s
  generalize (Lib.bytesCells W0 5 s).size = n at hrow
  generalize Lib.bytesWorld W0 5 s = W at hrow hbel harr
  generalize grownCap W0 s.size 0 5 = cap
  clear hcv hf h0b hb0 hsz0 hW0 heq h3c h3b
  have hA : w.heap.size < w.heap.size + 1 := Nat.lt_succ_self _
  have hsz : w.heap.size ≤ w.heap.size + 1 := by omega
  generalize w.heap.size + 1 = B at hrow hA hsz
  go_loopw [9] (fun v wr => ∃ i : Nat, i ≤ 3 ∧ v = .int .i64 i ∧ Row B s.size n wr (turn3 f x y z (Giv.byts s) i) ∧ Arr w.heap.size x y z wr ∧ Below w.heap.size w wr) (fun v _ => 3 - (intOf v).toNat)
  case atStart => exact ⟨0, by omega, rfl, hrow, harr, hbel⟩
  case round =>
    clear hrow hbel harr
    obtain ⟨i, hi, rfl, hr, ha, hb⟩ := hrel
    by_cases hlt : i < 3
    · have hc := hr.cell (f + i) (by omega)
      have hf := hr.frozen (f + i) (by omega)
      have hac := ha.cell i hlt
      go_wp2
      go_region
      all_goals go_wp2
      all_goals
        refine ⟨⟨i + 1, by omega, by go_num, ?_, (ha.set (by omega) : Arr _ _ _ _ (wr.setCell _ _)), (hb.setCell hsz _).drew⟩, by simp [intOf]; omega⟩
        rw [turn3, ← List.getD_eq_getElem?_getD, Crc.u8_xor _ _ (getD_lt (turn3_lt f x y z hx hy hz _ (Giv.byts_lt _) i) _) (by unfold three; split; exact hx; split; exact hy; exact hz)]
        exact (hr.set (f + i) _ (by omega) (by rw [turn3_length, HL.out]) : Row B s.size n (wr.setCell _ _) _)
    · obtain rfl : i = 3 := by omega
      have hcv := hr.string (by rw [turn3_length, HL.out]) cap
      have hsT := strN_size (turn3 f x y z (Giv.byts s) 3)
      rw [turn3_length, HL.out] at hsT
      have hne : ((sumN (strN (turn3 f x y z (Giv.byts s) 3)) : Nat) : Int) ≠ ((sumN s : Nat) : Int) := by
        have : sumN (strN (turn3 f x y z (Giv.byts s) 3)) ≠ sumN s := by
          unfold sumN
          rw [byts_strN _ (turn3_lt f x y z hx hy hz _ (Giv.byts_lt _) 3)]
          exact turn3_ne _ f x y z hy hz _ (by rw [HL.out]; omega) HN.out
        omega
      have hb1 : (((sumN (strN (turn3 f x y z (Giv.byts s) 3)) : Nat) : Int) != ((sumN s : Nat) : Int)) = true := bne_iff_ne.2 hne
      generalize strN (turn3 f x y z (Giv.byts s) 3) = T at hcv hsT hne hb1
      have HS : ∀ w, Calls Try.prog 11 #[.string T] w fun e w' => e = .returned (.int .i64 ((sumN T : Nat) : Int)) ∧ Below w.heap.size w w' := fun w => sum_yes T w (by omega)
      have HH := Lib.hid HS
      generalize sumN T = q1 at hne hb1 HH
      clear HS hsT hr hne
      go_wp2_with (first | (go_at_call_of 11 (Value.string T); refine (HH.out _).mono ?_; rintro e w2 ⟨rfl, hB2⟩) | (go_at_call_of 11 (Value.string s); refine (sum_yes s _ (by omega)).mono ?_; rintro e w3 ⟨rfl, hB3⟩) | (go_at_call 10; refine (live_yes _).mono ?_; rintro e w4 ⟨rfl, hB4⟩))
      go_ret
      exact ⟨rfl, below_then (below_then (below_then hb hb.size hB2) (Nat.le_trans hb.size hB2.size) hB3) (Nat.le_trans (Nat.le_trans hb.size hB2.size) hB3.size) hB4⟩
set_option maxRecDepth 100000 in
set_option maxHeartbeats 1000000 in
theorem long_apart (s : ByteArray) (at_ : Int) (x y z : Nat) (w : World) (hs : ¬ s.size ≤ 3000) :
    Calls Try.prog 8 #[.string s, .int .i64 at_, .agg #[.int .u8 (x : Int), .int .u8 (y : Int), .int .u8 (z : Int)]] w fun e w' => e = .returned (.bool true) ∧ Below w.heap.size w w' := by
  go_enter Try.func8, Try.ntmps8
  go_wp2_with (first | (go_at_call 9; refine (short_no _ _ hs).mono ?_; rintro e w' ⟨rfl, ⟨nd, rfl⟩⟩) | (go_at_call 10; refine (live_yes _).mono ?_; rintro e w3 ⟨rfl, hB3⟩))
  go_ret
  exact ⟨rfl, below_then (pw_below_drewN ((Below.refl _ _).alloc (Nat.le_refl _) _) nd) (by simp) hB3⟩
set_option maxRecDepth 100000 in
set_option maxHeartbeats 1000000 in
theorem neg_apart (s : ByteArray) (at_ : Int) (x y z : Nat) (w : World) (hs : s.size ≤ 3000) (h0 : at_ < 0) :
    Calls Try.prog 8 #[.string s, .int .i64 at_, .agg #[.int .u8 (x : Int), .int .u8 (y : Int), .int .u8 (z : Int)]] w fun e w' => e = .returned (.bool true) ∧ Below w.heap.size w w' := by
  have h0b : decide (at_ < 0) = true := by simpa using h0
  clear h0
  go_enter Try.func8, Try.ntmps8
  go_wp2_with (first | (go_at_call 9; refine (short_yes _ _ hs).mono ?_; rintro e w' ⟨rfl, ⟨nd, rfl⟩⟩) | (go_at_call 10; refine (live_yes _).mono ?_; rintro e w3 ⟨rfl, hB3⟩))
  go_ret
  exact ⟨rfl, below_then (pw_below_drewN ((Below.refl _ _).alloc (Nat.le_refl _) _) nd) (by simp) hB3⟩
set_option maxRecDepth 100000 in
set_option maxHeartbeats 1000000 in
theorem few_apart (s : ByteArray) (at_ : Int) (x y z : Nat) (w : World) (hs : s.size ≤ 3000) (h0 : ¬ at_ < 0) (h3 : s.size < 3) :
    Calls Try.prog 8 #[.string s, .int .i64 at_, .agg #[.int .u8 (x : Int), .int .u8 (y : Int), .int .u8 (z : Int)]] w fun e w' => e = .returned (.bool true) ∧ Below w.heap.size w w' := by
  have h0b : decide (at_ < 0) = false := by simpa using h0
  have h3c : decide ((s.size : Int) < 3) = true := decide_eq_true (by omega)
  have h3b : decide (s.size < 3) = true := decide_eq_true (by omega)
  clear h0
  go_enter Try.func8, Try.ntmps8
  go_wp2_with (first | (go_at_call 9; refine (short_yes _ _ hs).mono ?_; rintro e w' ⟨rfl, ⟨nd, rfl⟩⟩) | (go_at_call 10; refine (live_yes _).mono ?_; rintro e w3 ⟨rfl, hB3⟩))
  go_ret
  exact ⟨rfl, below_then (pw_below_drewN ((Below.refl _ _).alloc (Nat.le_refl _) _) nd) (by simp) hB3⟩
set_option maxRecDepth 100000 in
set_option maxHeartbeats 1000000 in
theorem none_apart (s : ByteArray) (at_ : Int) (w : World) (hs : s.size ≤ 3000) (h0 : ¬ at_ < 0) (h3 : ¬ s.size < 3) :
    Calls Try.prog 8 #[.string s, .int .i64 at_, .agg #[.int .u8 ((0 : Nat) : Int), .int .u8 ((0 : Nat) : Int), .int .u8 ((0 : Nat) : Int)]] w fun e w' => e = .returned (.bool true) ∧ Below w.heap.size w w' := by
  have h0b : decide (at_ < 0) = false := by simpa using h0
  have h3c : decide ((s.size : Int) < 3) = false := decide_eq_false (by omega)
  have h3b : decide (s.size < 3) = false := decide_eq_false (by omega)
  have heq : ∀ w, (Op.equalIn 10000 35 (.agg #[.int .u8 0, .int .u8 0, .int .u8 0]) (.agg #[.int .u8 0, .int .u8 0, .int .u8 0])).run Try.prog w = .ok true w := fun w => eq35 0 0 0 w
  clear h0
  go_enter Try.func8, Try.ntmps8
  go_wp2_with (first | (go_at_call 9; refine (short_yes _ _ hs).mono ?_; rintro e w' ⟨rfl, ⟨nd, rfl⟩⟩) | (go_at_call 10; refine (live_yes _).mono ?_; rintro e w3 ⟨rfl, hB3⟩))
  go_ret
  exact ⟨rfl, below_then (pw_below_drewN ((Below.refl _ _).alloc (Nat.le_refl _) _) nd) (by simp) hB3⟩
theorem walk (s : ByteArray) (at_ : Int) (x y z : Nat) (w : World) (_ : s.size ≤ 140737488351232) (_ : (Lit.int .i64 at_).wf = true) (hx : x < 256) (hy : y < 256) (hz : z < 256) :
    Calls Try.prog 8 #[.string s, .int .i64 at_, .agg #[.int .u8 (x : Int), .int .u8 (y : Int), .int .u8 (z : Int)]] w fun e w' => e = .returned (.bool true) ∧ Below w.heap.size w w' := by
  by_cases hs : s.size ≤ 3000
  · by_cases h0 : at_ < 0
    · exact neg_apart s at_ x y z w hs h0
    · by_cases h3 : s.size < 3
      · exact few_apart s at_ x y z w hs h0 h3
      · by_cases h1 : x = 0 ∧ y = 0 ∧ z = 0
        · obtain ⟨rfl, rfl, rfl⟩ := h1
          exact none_apart s at_ w hs h0 h3
        · exact apart_calls s at_ x y z w hx hy hz hs h0 h3 h1
  · exact long_apart s at_ x y z w hs
end Go.Proofs.Ytiapjnidahonaaa.Ap

/- LinksRoom: the walk. -/
import Derived.Test.YtmbaagaeobcmaaaLw
set_option linter.unusedVariables false
set_option linter.unusedSimpArgs false
namespace Go.Proofs.Ytmbaagaeobcmaaa.Lr
open Go.RowKit Go.Proofs.Ytmbaagaeobcmaaa.Nt Go.Proofs.Ytmbaagaeobcmaaa.Nc Go.Proofs.Ytmbaagaeobcmaaa.Sd Go.Proofs.Ytmbaagaeobcmaaa.Tn Go.Proofs.Ytmbaagaeobcmaaa.Cs Go.Proofs.Ytmbaagaeobcmaaa.Lv Go.Proofs.Ytmbaagaeobcmaaa.Lw Go.Proofs.YtmbaagaeobcmaaaW.PrintWords Go.Proofs.YtmbaagaeobcmaaaW.PrintLast
def rep (s : ByteArray) (k : Nat) : Bags := upd noBags 0 1 (List.replicate k s)
theorem rep_at (s : ByteArray) (k : Nat) : rep s k 0 1 = List.replicate k s := upd_same _ _ _ _
theorem rep_0 (s : ByteArray) : rep s 0 = noBags := by
  funext a b
  unfold rep upd noBags
  split <;> rfl
theorem rep_put (s : ByteArray) (k k' : Nat) : upd (rep s k) 0 1 (List.replicate k' s) = rep s k' := upd_upd _ _ _ _ _
theorem send_rep (s : ByteArray) (k n : Nat) (hs : s.size ≤ 5000) : sendR 2 n (rep s k) 0 1 s = if k = n then (5, rep s k) else (0, rep s (k + 1)) := by
  unfold sendR sendOk
  rw [decide_eq_true hs, rep_at, List.length_replicate, show isB 2 0 1 = true by decide, show (true && true) = true from rfl, if_pos rfl, ← List.replicate_succ', rep_put]
  by_cases h : k = n
  · rw [if_pos h, if_pos (by omega)]
  · rw [if_neg h, if_neg (by omega)]
theorem send_self (s : ByteArray) (n : Nat) (B : Bags) : sendR 2 n B 0 0 s = (1, B) := by
  unfold sendR sendOk
  rw [show isB 2 0 0 = false by decide]
  rfl
section
variable {w W : World} {g : Nat} {s : ByteArray} {n : Nat}
theorem r1 (k : Nat) (hk : k < n) (h : Net w W g 2 n (rep s k)) (hs : s.size ≤ 5000) : Calls Try.prog 11 #[.pointer (some ⟨g, 0, none⟩), .int .i64 0, .int .i64 1, .string s] W fun e w' => e = .returned (.int .i64 0) ∧ Net w w' g 2 n (rep s (k + 1)) := by
  have h1 := Send_calls h 0 1 s
  rw [send_rep s k n hs, if_neg (by omega)] at h1
  exact h1
theorem r2 (h : Net w W g 2 n (rep s n)) (hs : s.size ≤ 5000) : Calls Try.prog 11 #[.pointer (some ⟨g, 0, none⟩), .int .i64 0, .int .i64 1, .string s] W fun e w' => e = .returned (.int .i64 5) ∧ Net w w' g 2 n (rep s n) := by
  have h1 := Send_calls h 0 1 s
  rw [send_rep s n n hs, if_pos rfl] at h1
  exact h1
theorem has_rep (k i : Nat) (hi : i < k) : hasB 2 0 1 (i : Nat) (rep s k 0 1).length = true := by
  unfold hasB
  rw [rep_at, List.length_replicate, show isB 2 0 1 = true by decide]
  simp
  exact hi
theorem get_rep (k i : Nat) (hi : i < k) : (rep s k 0 1).getD (i : Nat) ByteArray.empty = s := by
  rw [rep_at, List.getD_eq_getElem?_getD, List.getElem?_replicate, if_pos hi]
  rfl
theorem r3 (h0 : 0 < n) (h : Net w W g 2 n (rep s n)) (hs : s.size ≤ 5000) : Calls Try.prog 17 #[.pointer (some ⟨g, 0, none⟩), .int .i64 0, .int .i64 1, .int .i64 0] W fun e w' => e = .returned (.int .i64 5) ∧ Net w w' g 2 n (rep s n) := by
  have h1 := Double_calls h 0 1 0
  have h2 : hasB 2 0 1 0 (rep s n 0 1).length = true := has_rep (s := s) n 0 h0
  have h3 := get_rep (s := s) n 0 h0
  unfold doubleR at h1
  rw [show isB 2 0 1 = true by decide, if_pos rfl, if_pos h2, show ((0 : Int)).toNat = 0 from rfl, h3, send_rep s n n hs, if_pos rfl] at h1
  exact h1
theorem r4 (h : Net w W g 2 n (rep s n)) (hs : s.size ≤ 5000) : Calls Try.prog 13 #[.pointer (some ⟨g, 0, none⟩), .int .i64 0, .string s] W fun e w' => e = .returned (.int .i64 0) ∧ Net w w' g 2 n (rep s n) := by
  have h1 := Cast_calls h 0 s
  have : castR 2 n (rep s n) 0 s (2 : Int).toNat = (0, rep s n) := by
    show castR 2 n (rep s n) 0 s 2 = _
    unfold castR castR castR
    simp only [Int.natCast_zero, send_self, show ((0 + 1 : Nat) : Int) = 1 from rfl, send_rep s n n hs]
    simp
  rw [this] at h1
  exact h1
theorem r5 (m : Nat) (hm : m < n) (hm2 : n - 1 = m) (h : Net w W g 2 n (rep s n)) : Calls Try.prog 15 #[.pointer (some ⟨g, 0, none⟩), .int .i64 0, .int .i64 1, .int .i64 (m : Nat)] W fun e w' => e = .returned (.tuple #[.string s, .bool true]) ∧ Net w w' g 2 n (rep s m) := by
  have h1 := Take_calls h 0 1 m
  have h2 := has_rep (s := s) n m hm
  have h3 := get_rep (s := s) n m hm
  unfold takeR at h1
  rw [if_pos h2, Int.toNat_natCast, h3, rep_at, List.eraseIdx_replicate, if_pos hm, hm2, rep_put] at h1
  exact h1
theorem r6 (h : Net w W g 2 n (rep s n)) : Calls Try.prog 21 #[.pointer (some ⟨g, 0, none⟩), .int .i64 0, .int .i64 1] W fun e w' => e = .returned (.int .i64 (n : Nat)) ∧ w' = W := by
  have h1 := Len_calls h 0 1 (wf_of (by decide) (by decide)) (wf_of (by decide) (by decide))
  rw [rep_at, List.length_replicate] at h1
  exact h1
end
theorem early (r : Int) (s : ByteArray) (h : decide (r < 1) = true ∨ decide (r < 1) = false ∧ decide (60 < r) = true ∨ decide (r < 1) = false ∧ decide (60 < r) = false ∧ decide ((5000 : Int) < (s.size : Nat)) = true) (w : World) : Calls Try.prog 6 #[.int .i64 r, .string s] w fun e w' => e = .returned (.bool true) ∧ Below w.heap.size w w' := by
  rcases h with h | ⟨h, h2⟩ | ⟨h, h2, h3⟩
  all_goals
    go_enter Try.func6, Try.ntmps6
    go_wp2_with (go_at_call 10; with_reducible refine (live_calls _).mono ?_; rintro e w1 ⟨rfl, hB⟩)
    go_ret
    exact ⟨rfl, hB⟩
set_option maxHeartbeats 1000000 in
theorem room_ok (n : Nat) (s : ByteArray) (h1 : 1 ≤ n) (h2 : n ≤ 60) (hs : s.size ≤ 5000) (w : World) : Calls Try.prog 6 #[.int .i64 n, .string s] w fun e w' => e = .returned (.bool true) ∧ Below w.heap.size w w' := by
  have d1 : decide ((n : Int) < 1) = false := decide_eq_false (by omega)
  have d2 : decide (60 < (n : Int)) = false := decide_eq_false (by omega)
  have d3 : decide ((5000 : Int) < (s.size : Nat)) = false := decide_eq_false (by omega)
  have hN : okNew 2 n = true := by unfold okNew; simp; omega
  have H := Lib.hid (And.intro h1 (And.intro h2 (And.intro hs hN)))
  clear h1 h2 hs hN
  go_enter Try.func6, Try.ntmps6
  go_upto_region 6 with (go_at_call 8; with_reducible refine (New_ok 2 n H.out.2.2.2 _).mono ?_; rintro e w1 ⟨g, rfl, h0⟩)
  rw [← rep_0 s] at h0
  have h := Lib.hid h0
  clear h0
  obtain ⟨m, hm⟩ : ∃ m : Nat, n = m + 1 := ⟨n - 1, by have := H.out.1; omega⟩
  have HM := Lib.hid hm
  have hm1 : (n : Int) - 1 = (m : Nat) := by omega
  clear hm
  have hn60 := H.out.2.1
  go_wp2
  go_loopw [7] (fun v7 wr => ∃ k : Nat, v7 = .int .i64 k ∧ k ≤ n ∧ Hid (Net w wr g 2 n (rep s k))) (fun v7 _ => n - (intOf v7).toNat)
  case atStart => exact ⟨0, rfl, Nat.zero_le _, h⟩
  case round =>
    obtain ⟨k, rfl, hk, HR⟩ := hrel
    by_cases hlt : k < n
    · go_wp2_with (go_at_call 11; with_reducible refine (r1 k hlt HR.out H.out.2.2.1).mono ?_; rintro e w3 ⟨rfl, hN3⟩)
      go_roundw
      case rel => exact ⟨k + 1, by go_num, by omega, Lib.hid hN3⟩
      case measure => simp [intOf]; omega
    · obtain rfl : k = n := by omega
      go_upto_region 12 with (go_at_call 11; with_reducible refine (r2 HR.out H.out.2.2.1).mono ?_; rintro e wx ⟨rfl, hx⟩; replace HR := Lib.hid hx; clear hx)
      go_upto_region 13 with (go_at_call 17; with_reducible refine (r3 (by have := HM.out; omega) HR.out H.out.2.2.1).mono ?_; rintro e wx ⟨rfl, hx⟩; replace HR := Lib.hid hx; clear hx)
      go_upto_region 14 with (go_at_call 13; with_reducible refine (r4 HR.out H.out.2.2.1).mono ?_; rintro e wx ⟨rfl, hx⟩; replace HR := Lib.hid hx; clear hx)
      go_upto_region 15 with (go_at_call 15; with_reducible refine (r5 m (by have := HM.out; omega) (by have := HM.out; omega) HR.out).mono ?_; rintro e wx ⟨rfl, hx⟩; have HR5 := Lib.hid hx; clear hx)
      go_wp2_with (first
        | (go_at_call 11; with_reducible refine (r1 m (by have := HM.out; omega) HR5.out H.out.2.2.1).mono ?_; rintro e wx ⟨rfl, hx⟩; rw [← HM.out] at hx; have HR6 := Lib.hid hx; clear hx)
        | (go_at_call 21; with_reducible refine (r6 HR6.out).mono ?_; rintro e wy ⟨rfl, hwy⟩; subst hwy)
        | (go_at_call 10; with_reducible refine (live_calls _).mono ?_; rintro e wz ⟨rfl, hB⟩))
      go_ret
      exact ⟨rfl, below_then HR6.out.bl HR6.out.bl.size hB⟩
theorem room_law (r : Int) (s : ByteArray) (w : World) : Calls Try.prog 6 #[.int .i64 r, .string s] w fun e w' => e = .returned (.bool true) ∧ Below w.heap.size w w' := by
  by_cases h1 : r < 1
  · exact early r s (.inl (decide_eq_true h1)) w
  by_cases h2 : 60 < r
  · exact early r s (.inr (.inl ⟨decide_eq_false h1, decide_eq_true h2⟩)) w
  by_cases h3 : (5000 : Int) < (s.size : Nat)
  · exact early r s (.inr (.inr ⟨decide_eq_false h1, decide_eq_false h2, decide_eq_true h3⟩)) w
  obtain ⟨n, rfl⟩ : ∃ n : Nat, r = (n : Int) := ⟨r.toNat, by omega⟩
  exact room_ok n s (by omega) (by omega) (by omega) w
end Go.Proofs.Ytmbaagaeobcmaaa.Lr

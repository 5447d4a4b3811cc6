/- How wide a rune is: the walks of cells.in's comparison, of the library's binary search at it, of cells.in and of cells.Width, over the two tables as they are laid. -/
import Derived.Test.YtoidlaonolkgkaaDoorProg
import Derived.WalkKit
import Derived.Lib.Hide
import Derived.Deep.QuietTactic
import Derived.BigQuiet
import Derived.Deep.RegionWith
import Derived.RegionTactic
import Derived.Outline
set_option linter.unusedVariables false
set_option linter.unusedSimpArgs false
namespace Go.Proofs.YtoidlaonolkgkaaDoor.Giv
open Go.RowKit
/-- A table of pairs in memory. -/
def Tab (w : World) (l : List (Int × Int)) (v : Value) : Prop :=
  ∃ b off cap, v = .slice (some ⟨b, off, none⟩) l.length cap ∧ ∀ i, i < l.length → w.cell? ⟨b, off + i * 2, none⟩ = some (.int .i64 (l.getD i (0, 0)).1) ∧ w.cell? ⟨b, off + i * 2 + 1, none⟩ = some (.int .i64 (l.getD i (0, 0)).2)
def noneL : List (Int × Int) := [(0x7f, 0x9f), (0x300, 0x36f), (0x200b, 0x200f), (0x20d0, 0x20ff), (0xd800, 0xdfff), (0xfe00, 0xfe0f), (0xfe20, 0xfe2f)]
def wideL : List (Int × Int) := [(0x1100, 0x115f), (0x2e80, 0x303e), (0x3041, 0xa4cf), (0xac00, 0xd7a3), (0xf900, 0xfaff), (0xfe30, 0xfe6f), (0xff01, 0xff60), (0xffe0, 0xffe6), (0x1f300, 0x1f64f), (0x1f680, 0x1f6ff), (0x1f900, 0x1f9ff), (0x20000, 0x3fffd)]
/-- The two tables are laid. -/
def Laid (w : World) : Prop := ∃ v0 v1, w.cell? ⟨0, 0, none⟩ = some v0 ∧ Tab w noneL v0 ∧ w.cell? ⟨1, 0, none⟩ = some v1 ∧ Tab w wideL v1
theorem Tab.below {w w' : World} {l : List (Int × Int)} {v : Value} (h : Tab w l v) (hb : Below w.heap.size w w') : Tab w' l v := by
  obtain ⟨b, off, cap, rfl, hc⟩ := h
  refine ⟨b, off, cap, rfl, fun i hi => ?_⟩
  obtain ⟨h1, h2⟩ := hc i hi
  exact ⟨(hb.cell (World.block_lt_of_cell? w _ h1)).trans h1, (hb.cell (World.block_lt_of_cell? w _ h2)).trans h2⟩
theorem Laid.below {w w' : World} (h : Laid w) (hb : Below w.heap.size w w') : Laid w' := by
  obtain ⟨v0, v1, h0, t0, h1, t1⟩ := h
  exact ⟨v0, v1, (hb.cell (World.block_lt_of_cell? w _ h0)).trans h0, t0.below hb, (hb.cell (World.block_lt_of_cell? w _ h1)).trans h1, t1.below hb⟩

theorem below_then' {w w1 w2 : World} (h : Below w.heap.size w w1) (k : Below w1.heap.size w1 w2) : Below w.heap.size w w2 :=
  h.trans ⟨k.os, k.tape, k.output, k.size, fun i hi => k.block i (Nat.lt_of_lt_of_le hi h.size)⟩
/-! ### The search, in plain numbers -/
def cmpN (r : Int × Int) (n : Int) : Int := if r.2 < n then -1 else if r.1 > n then 1 else 0
/-- Some range bears n. -/
def hasN (l : List (Int × Int)) (n : Int) : Bool := l.any fun r => decide (r.1 ≤ n ∧ n ≤ r.2)
/-- The ranges rise. -/
def Rising (l : List (Int × Int)) : Prop := ∀ i j, i < j → j < l.length → (l.getD i (0, 0)).2 < (l.getD j (0, 0)).1
def Sound (l : List (Int × Int)) : Prop := ∀ i, i < l.length → (l.getD i (0, 0)).1 ≤ (l.getD i (0, 0)).2
theorem rising_none : Rising noneL := by
  have h : ∀ j : Fin 7, ∀ i : Fin 7, i < j → (noneL.getD i (0, 0)).2 < (noneL.getD j (0, 0)).1 := by decide
  intro i j hij hj
  exact h ⟨j, hj⟩ ⟨i, by have : j < 7 := hj; omega⟩ hij
theorem rising_wide : Rising wideL := by
  have h : ∀ j : Fin 12, ∀ i : Fin 12, i < j → (wideL.getD i (0, 0)).2 < (wideL.getD j (0, 0)).1 := by decide
  intro i j hij hj
  exact h ⟨j, hj⟩ ⟨i, by have : j < 12 := hj; omega⟩ hij
theorem sound_none : Sound noneL := by
  have h : ∀ i : Fin 7, (noneL.getD i (0, 0)).1 ≤ (noneL.getD i (0, 0)).2 := by decide
  exact fun i hi => h ⟨i, hi⟩
theorem sound_wide : Sound wideL := by
  have h : ∀ i : Fin 12, (wideL.getD i (0, 0)).1 ≤ (wideL.getD i (0, 0)).2 := by decide
  exact fun i hi => h ⟨i, hi⟩
theorem found (l : List (Int × Int)) (hr : Rising l) (hs : Sound l) (n : Int) (i : Nat) (hi : i ≤ l.length) (hlo : ∀ k, k < i → (l.getD k (0, 0)).2 < n) (hhi : ∀ k, i ≤ k → k < l.length → n ≤ (l.getD k (0, 0)).2) :
    hasN l n = (decide (i < l.length) && (cmpN (l.getD i (0, 0)) n == 0)) := by
  rw [Bool.eq_iff_iff]
  unfold hasN
  rw [List.any_eq_true, Bool.and_eq_true, decide_eq_true_iff, beq_iff_eq]
  constructor
  · rintro ⟨r, hm, hd⟩
    obtain ⟨k, hk, rfl⟩ := List.getElem_of_mem hm
    have hg : l.getD k (0, 0) = l[k] := by rw [List.getD_eq_getElem?_getD, List.getElem?_eq_getElem hk]; rfl
    have hd := of_decide_eq_true hd
    rw [← hg] at hd
    have hik : i ≤ k := by
      rcases Nat.lt_or_ge k i with h | h
      · have := hlo k h; omega
      · exact h
    have e : i = k := by
      rcases Nat.lt_or_ge i k with h | h
      · have h1 := hr i k h hk
        have h2 := hhi i (Nat.le_refl _) (by omega)
        omega
      · omega
    subst e
    refine ⟨hk, ?_⟩
    unfold cmpN
    rw [if_neg (by omega), if_neg (by omega)]
  · rintro ⟨hil, hc⟩
    have hg : l.getD i (0, 0) = l[i] := by rw [List.getD_eq_getElem?_getD, List.getElem?_eq_getElem hil]; rfl
    refine ⟨l[i], List.getElem_mem hil, decide_eq_true ?_⟩
    have h2 := hhi i (Nat.le_refl _) hil
    rw [← hg]
    unfold cmpN at hc
    rw [if_neg (by omega)] at hc
    split at hc <;> omega

set_option maxHeartbeats 400000 in
theorem cmp_calls (a b n : Int) (w : World) : Calls Tryd.prog 56 #[.agg #[.int .i64 a, .int .i64 b], .int .i64 n] w fun e w' => e = .returned (.int .i64 (cmpN (a, b) n)) ∧ Below w.heap.size w w' := by
  unfold cmpN
  by_cases h1 : b < n
  · rw [if_pos h1]
    go_enter Tryd.func56, Tryd.ntmps56
    go_wp2
    go_ret
    exact ⟨rfl, (Below.refl _ _).alloc (Nat.le_refl _) _⟩
  · rw [if_neg h1]
    by_cases h2 : a > n
    · rw [if_pos h2]
      go_enter Tryd.func56, Tryd.ntmps56
      go_wp2
      go_ret
      exact ⟨rfl, (Below.refl _ _).alloc (Nat.le_refl _) _⟩
    · rw [if_neg h2]
      go_enter Tryd.func56, Tryd.ntmps56
      go_wp2
      go_ret
      exact ⟨rfl, (Below.refl _ _).alloc (Nat.le_refl _) _⟩
theorem cmpN_neg (r : Int × Int) (n : Int) : cmpN r n < 0 ↔ r.2 < n := by
  unfold cmpN; split
  · exact ⟨fun _ => ‹_›, fun _ => by decide⟩
  · split
    · exact ⟨fun h => absurd h (by decide), fun h => absurd h ‹_›⟩
    · exact ⟨fun h => absurd h (by decide), fun h => absurd h ‹_›⟩
theorem cmp_pair (r : Int × Int) (n : Int) (w : World) : Calls Tryd.prog 56 #[.agg #[.int .i64 r.1, .int .i64 r.2], .int .i64 n] w fun e w' => e = .returned (.int .i64 (cmpN r n)) ∧ Below w.heap.size w w' := cmp_calls r.1 r.2 n w
def FoundPost (b : Bool) (w : World) (e : Ending) (w' : World) : Prop := ∃ i : Int, e = .returned (.tuple #[.int .i64 i, .bool b]) ∧ Below w.heap.size w w'
theorem FoundPost.mk {b c : Bool} {w w' : World} (i : Int) (h : b = c) (hb : Below w.heap.size w w') : FoundPost b w (.returned (.tuple #[.int .i64 i, .bool c])) w' := ⟨i, by rw [h], hb⟩
set_option maxHeartbeats 1000000 in
theorem search_calls (l : List (Int × Int)) (hr : Rising l) (hs : Sound l) (hl : l.length ≤ 1000) (n : Int) (v : Value) (w : World) (ht : Tab w l v) :
    Calls Tryd.prog 55 #[v, .int .i64 n, .func (.func 56) #[] #[]] w (FoundPost (hasN l n) w) := by
  obtain ⟨b, off, cap, rfl, hc⟩ := ht
  go_enter Tryd.func55, Tryd.ntmps55
  go_wp2
  have hw : ∀ i, i < l.length → w.cell? ⟨b, off + i * 2, none⟩ = some (.int .i64 (l.getD i (0, 0)).1) ∧ w.cell? ⟨b, off + i * 2 + 1, none⟩ = some (.int .i64 (l.getD i (0, 0)).2) := hc
  go_loopw [9, 10] (fun x y wr => ∃ i j : Nat, i ≤ j ∧ j ≤ l.length ∧ x = .int .i64 i ∧ y = .int .i64 j ∧ Hid (∀ k, k < i → (l.getD k (0, 0)).2 < n) ∧ Hid (∀ k, j ≤ k → k < l.length → n ≤ (l.getD k (0, 0)).2) ∧ Below w.heap.size w wr) (fun x y _ => (intOf y).toNat - (intOf x).toNat)
  case atStart => exact ⟨0, l.length, by omega, by omega, rfl, rfl, fun k hk => by omega, fun k hk hk2 => by omega, Below.refl _ _⟩
  case round =>
    obtain ⟨i, j, hij, hj, rfl, rfl, H1, H2, hB⟩ := hrel
    have HC := Lib.hid hc
    clear hc hw
    by_cases hlt : i < j
    · obtain ⟨c1, c2⟩ := HC.out ((i + j) / 2) (by omega)
      have d1 := (hB.cell (World.block_lt_of_cell? w _ c1)).trans c1
      have d2 := (hB.cell (World.block_lt_of_cell? w _ c2)).trans c2
      clear c1 c2
      obtain ⟨r, hrr⟩ : ∃ r, l.getD ((i + j) / 2) (0, 0) = r := ⟨_, rfl⟩
      rw [hrr] at d1 d2
      have HR := Lib.hid hrr
      clear hrr
      by_cases hneg : r.2 < n
      · have hd : decide (cmpN r n < 0) = true := decide_eq_true ((cmpN_neg r n).2 hneg)
        go_wp2_with (go_at_call 56; refine (cmp_pair r n _).mono ?_; rintro e w2 ⟨rfl, hB2⟩)
        go_roundw
        case rel => exact ⟨(i + j) / 2 + 1, j, by omega, hj, by go_num, rfl, fun k hk => by
          rcases Nat.lt_or_ge k i with h | h
          · exact H1.out k h
          · rcases Nat.lt_or_ge k ((i + j) / 2) with h2 | h2
            · have := hr k ((i + j) / 2) h2 (by omega)
              have := hs ((i + j) / 2) (by omega)
              rw [HR.out] at *
              omega
            · obtain rfl : k = (i + j) / 2 := by omega
              rw [HR.out]; exact hneg, H2, below_then' hB hB2⟩
        case measure => simp [intOf]; omega
      · have hd : decide (cmpN r n < 0) = false := decide_eq_false (fun h => hneg ((cmpN_neg r n).1 h))
        go_wp2_with (go_at_call 56; refine (cmp_pair r n _).mono ?_; rintro e w2 ⟨rfl, hB2⟩)
        go_roundw
        case rel => exact ⟨i, (i + j) / 2, by omega, by omega, rfl, by go_num, H1, fun k hk hk2 => by
          rcases Nat.lt_or_ge k j with h | h
          · rcases Nat.lt_or_ge ((i + j) / 2) k with h2 | h2
            · have := hr ((i + j) / 2) k h2 (by omega)
              have := hs k (by omega)
              rw [HR.out] at *
              omega
            · obtain rfl : k = (i + j) / 2 := by omega
              rw [HR.out]; omega
          · exact H2.out k h hk2, below_then' hB hB2⟩
        case measure => simp [intOf]; omega
    · obtain rfl : i = j := by omega
      have hf := found l hr hs n i hj H1.out H2.out
      by_cases hil : i < l.length
      · obtain ⟨c1, c2⟩ := HC.out i hil
        have d1 := (hB.cell (World.block_lt_of_cell? w _ c1)).trans c1
        have d2 := (hB.cell (World.block_lt_of_cell? w _ c2)).trans c2
        clear c1 c2
        obtain ⟨r, hrr⟩ : ∃ r, l.getD i (0, 0) = r := ⟨_, rfl⟩
        rw [hrr] at d1 d2 hf
        rw [decide_eq_true hil, Bool.true_and] at hf
        have HF := Lib.hid hf
        clear hrr hf
        go_wp2_with (go_at_call 56; refine (cmp_pair r n _).mono ?_; rintro e w2 ⟨rfl, hB2⟩)
        go_ret2
        exact FoundPost.mk _ HF.out (below_then' hB hB2)
      · rw [decide_eq_false hil, Bool.false_and] at hf
        have HF := Lib.hid hf
        clear hf
        go_wp2
        go_ret2
        exact FoundPost.mk _ HF.out hB
set_option maxHeartbeats 400000 in
theorem in_calls (l : List (Int × Int)) (hr : Rising l) (hs : Sound l) (hl : l.length ≤ 1000) (n : Int) (v : Value) (w : World) (ht : Tab w l v) :
    Calls Tryd.prog 49 #[v, .int .i64 n] w fun e w' => e = .returned (.bool (hasN l n)) ∧ Below w.heap.size w w' := by
  go_enter Tryd.func49, Tryd.ntmps49
  go_wp2_with (go_at_call 55; refine (search_calls l hr hs hl n v _ ht).mono ?_; rintro e w2 ⟨i, rfl, hB2⟩)
  go_ret
  exact ⟨rfl, hB2⟩
/-- How wide a rune is. -/
def widthN (n : Int) : Int := if n < 32 ∨ n > 1114111 ∨ hasN noneL n = true then 0 else if hasN wideL n = true then 2 else 1
set_option maxHeartbeats 400000 in
theorem width_calls (n : Int) (w : World) (hL : Laid w) : Calls Tryd.prog 38 #[.int .i64 n] w fun e w' => e = .returned (.int .i64 (widthN n)) ∧ Below w.heap.size w w' := by
  have HL := Lib.hid hL
  obtain ⟨v0, v1, h0, t0, h1, t1⟩ := hL
  have hN : ∀ b, hasN noneL n = b → Calls Tryd.prog 49 #[v0, .int .i64 n] w fun e w' => e = .returned (.bool b) ∧ Below w.heap.size w w' := fun b hb => by
    have := in_calls noneL rising_none sound_none (by decide) n v0 w t0; rw [hb] at this; exact this
  have hW : ∀ b, hasN wideL n = b → ∀ w2, Tab w2 wideL v1 → Calls Tryd.prog 49 #[v1, .int .i64 n] w2 fun e w' => e = .returned (.bool b) ∧ Below w2.heap.size w2 w' := fun b hb w2 ht => by
    have := in_calls wideL rising_wide sound_wide (by decide) n v1 w2 ht; rw [hb] at this; exact this
  have HT := Lib.hid t1
  have HN := Lib.hid hN
  have HW := Lib.hid hW
  clear hN hW t0 t1
  unfold widthN
  by_cases c1 : n < 32
  · rw [if_pos (.inl c1)]
    go_enter Tryd.func38, Tryd.ntmps38
    go_wp2
    go_ret
    exact ⟨rfl, Below.refl _ _⟩
  · have d1 : decide (n < 32) = false := decide_eq_false c1
    by_cases c2 : n > 1114111
    · rw [if_pos (.inr (.inl c2))]
      go_enter Tryd.func38, Tryd.ntmps38
      go_wp2
      go_ret
      exact ⟨rfl, Below.refl _ _⟩
    · have d2 : decide (1114111 < n) = false := decide_eq_false (by omega)
      cases c3 : hasN noneL n
      · rw [if_neg (by simp; omega)]
        have HN1 := Lib.hid (HN.out false c3)
        clear c3
        cases c4 : hasN wideL n
        · rw [if_neg (by simp)]
          have HW1 := Lib.hid (HW.out false c4)
          clear c4 c1 c2
          go_enter Tryd.func38, Tryd.ntmps38
          go_wp2_with fail
          refine (HN1.out).mono ?_
          rintro e w2 ⟨rfl, hB2⟩
          have h1' := (hB2.cell (p := ⟨1, 0, none⟩) (World.block_lt_of_cell? w _ h1)).trans h1
          go_wp2_with fail
          refine (HW1.out _ (HT.out.below hB2)).mono ?_
          rintro e w3 ⟨rfl, hB3⟩
          go_wp2
          go_ret
          exact ⟨rfl, below_then' hB2 hB3⟩
        · rw [if_pos rfl]
          have HW1 := Lib.hid (HW.out true c4)
          clear c4 c1 c2
          go_enter Tryd.func38, Tryd.ntmps38
          go_wp2_with fail
          refine (HN1.out).mono ?_
          rintro e w2 ⟨rfl, hB2⟩
          have h1' := (hB2.cell (p := ⟨1, 0, none⟩) (World.block_lt_of_cell? w _ h1)).trans h1
          go_wp2_with fail
          refine (HW1.out _ (HT.out.below hB2)).mono ?_
          rintro e w3 ⟨rfl, hB3⟩
          go_wp2
          go_ret
          exact ⟨rfl, below_then' hB2 hB3⟩
      · rw [if_pos (.inr (.inr rfl))]
        have HN1 := Lib.hid (HN.out true c3)
        clear c3 c1 c2
        go_enter Tryd.func38, Tryd.ntmps38
        go_wp2_with (go_at_call 49; refine (HN1.out).mono ?_; rintro e w2 ⟨rfl, hB2⟩)
        go_ret
        exact ⟨rfl, hB2⟩
/-- In the printed functions' form. -/
def cells_Width.f (a0 : Int) : Option Int := some (widthN a0)
theorem cells_Width.calls (a0 : Int) (r : Int) (w : World) (hL : Laid w) (h : cells_Width.f a0 = some r) : Calls Tryd.prog 38 #[.int .i64 a0] w fun e w' => e = .returned (.int .i64 r) ∧ Below w.heap.size w w' := by
  obtain rfl := Option.some.inj h
  exact width_calls a0 w hL
end Go.Proofs.YtoidlaonolkgkaaDoor.Giv

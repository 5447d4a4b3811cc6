/- ident.Rank: slices.BinarySearchFunc over Ids, the walk. -/
import Derived.Test.YtoaaekgpabnneaaOdr
import Derived.StillTailTactics
set_option linter.unusedVariables false
set_option linter.unusedSimpArgs false
namespace Go.Proofs.Ytoaaekgpabnneaa.Rnk
open Go.RowKit Go.Proofs.Ytoaaekgpabnneaa.P Go.Proofs.Ytoaaekgpabnneaa.Sta Go.Proofs.Ytoaaekgpabnneaa.Cmp Go.Proofs.Ytoaaekgpabnneaa.Cpt Go.Proofs.Ytoaaekgpabnneaa.Odr Go.Proofs.YtoaaekgpabnneaaW.PrintWords Go.Proofs.YtoaaekgpabnneaaW.PrintLast
theorem order_below (x y : S23) (W : World) : Calls Try.prog 26 #[.agg #[.int .i64 x.f0, .int .i64 x.f1], .agg #[.int .i64 y.f0, .int .i64 y.f1]] W fun e w' => e = .returned (.int .i64 (ord x y)) ∧ Below W.heap.size W w' := by
  refine (order_calls x y W).mono ?_
  rintro e w' ⟨rfl, q, os, rfl⟩
  exact ⟨rfl, rfl, rfl, rfl, by simp [Sort.grow], fun k hk => by simp [Sort.grow, Array.getElem?_append, hk]⟩
theorem ord_neg (x y : S23) : decide (ord x y < 0) = ltI x y := lt_of_ord x y
theorem ord_zero (x y : S23) : (ord x y == 0) = decide (x = y) := by
  have h1 : decide (ord x y < 0) = ltI x y := lt_of_ord x y
  rw [Bool.eq_iff_iff]
  simp
  constructor
  · intro h
    unfold ord or2 cmp3 at h
    have : x.f0 = y.f0 ∧ x.f1 = y.f1 := by
      by_cases a : x.f0 < y.f0
      · simp [a] at h
      · by_cases b : y.f0 < x.f0
        · simp [a, b] at h
        · simp [a, b] at h
          by_cases c : x.f1 < y.f1
          · simp [c] at h
          · by_cases d : y.f1 < x.f1
            · simp [c, d] at h
            · exact ⟨by omega, by omega⟩
    cases x; cases y; simp at this; simp [this]
  · rintro rfl
    simp [ord, or2, cmp3]
/-- The reading of a list, at one place. -/
theorem at_C {w : World} {ad : Addr} {l : List S23} (h : Kd.C k23 w (some ad) l.length l) (i : Nat) (hi : i < l.length) : w.cell? (ad.add (i * 2)) = some (.int .i64 l[i].f0) ∧ w.cell? ⟨(ad.add (i * 2)).block, (ad.add (i * 2)).off + 1, none⟩ = some (.int .i64 l[i].f1) := by
  obtain ⟨ad', e, c0, c1⟩ := at_T23 h ((i : Nat) : Int) (by omega) (by omega)
  obtain rfl := Option.some.inj e
  have hrd : rd_T23 l ((i : Nat) : Int) = l[i] := by unfold rd_T23; rw [Int.toNat_natCast, List.getD_eq_getElem?_getD, List.getElem?_eq_getElem hi]; rfl
  rw [hrd, Int.toNat_natCast] at c0 c1
  exact ⟨c0, c1⟩
/-- Where x stands, or would. -/
structure Sep (l : List S23) (x : S23) (i j : Nat) : Prop where
  le : i ≤ j
  len : j ≤ l.length
  lo : ∀ t (h : t < l.length), t < i → ltI l[t] x = true
  hi : ∀ t (h : t < l.length), j ≤ t → ltI l[t] x = false
theorem rise_at {l : List S23} (h : Ord.Rising ltI l) {s t : Nat} (hs : s < t) (ht : t < l.length) : ltI l[s] l[t] = true := List.pairwise_iff_getElem.1 h s t (by omega) ht hs
theorem Sep.left {l : List S23} {x : S23} {i j k : Nat} (hr : Ord.Rising ltI l) (h : Sep l x i j) (hk : k < j) (hik : i ≤ k) (hl : k < l.length) (hx : ltI l[k] x = true) : Sep l x (k + 1) j :=
  ⟨by omega, h.len, fun t ht htk => by
    rcases Nat.lt_or_ge t k with h1 | h1
    · exact strict.tr _ _ _ (rise_at hr h1 hl) hx
    · obtain rfl : t = k := by omega
      exact hx, h.hi⟩
theorem Sep.right {l : List S23} {x : S23} {i j k : Nat} (hr : Ord.Rising ltI l) (h : Sep l x i j) (hk : k < j) (hik : i ≤ k) (hl : k < l.length) (hx : ltI l[k] x = false) : Sep l x i k :=
  ⟨hik, by omega, h.lo, fun t ht htk => by
    rcases Nat.lt_or_ge k t with h1 | h1
    · cases h2 : ltI l[t] x with
      | false => rfl
      | true => rw [strict.tr _ _ _ (rise_at hr h1 ht) h2] at hx; exact hx
    · obtain rfl : t = k := by omega
      exact hx⟩
def rankI (l : List S23) (x : S23) : Nat := l.countP fun y => ltI y x
theorem Sep.rank {l : List S23} {x : S23} {i : Nat} (h : Sep l x i i) : rankI l x = i := by
  unfold rankI
  have hl := h.len
  conv => lhs; rw [← List.take_append_drop i l]
  rw [List.countP_append]
  have h1 : (l.take i).countP (fun y => ltI y x) = (l.take i).length := List.countP_eq_length.2 (fun y hy => by
    obtain ⟨t, ht, rfl⟩ := List.getElem_of_mem hy
    rw [List.getElem_take]
    exact h.lo t (by simp at ht; omega) (by simp at ht; omega))
  have h2 : (l.drop i).countP (fun y => ltI y x) = 0 := List.countP_eq_zero.2 (fun y hy => by
    obtain ⟨t, ht, rfl⟩ := List.getElem_of_mem hy
    rw [List.getElem_drop]
    have := h.hi (i + t) (by simp at ht; omega) (by omega)
    simp [this])
  rw [h1, h2, List.length_take]; omega
theorem Sep.mem {l : List S23} {x : S23} {i : Nat} (hr : Ord.Rising ltI l) (h : Sep l x i i) : (x ∈ l) ↔ ∃ h : i < l.length, l[i] = x := by
  constructor
  · intro hx
    obtain ⟨t, ht, rfl⟩ := List.getElem_of_mem hx
    have h1 : i ≤ t := by
      rcases Nat.lt_or_ge t i with h1 | h1
      · have := h.lo t ht h1; rw [strict.irr] at this; cases this
      · exact h1
    rcases Nat.lt_or_ge i t with h2 | h2
    · have a := h.hi i (by omega) (Nat.le_refl _)
      have b := rise_at hr h2 ht
      rw [a] at b; cases b
    · obtain rfl : t = i := by omega
      exact ⟨ht, rfl⟩
  · rintro ⟨h1, rfl⟩; exact List.getElem_mem h1
set_option maxHeartbeats 2000000 in
set_option maxRecDepth 100000 in
theorem Search_calls (ad : Addr) (c : Nat) (l : List S23) (x : S23) (w : World) (h : Kd.C k23 w (some ad) l.length l) (hb : l.length * 16 ≤ 140737488351232) (hr : Ord.Rising ltI l) :
    Calls Try.prog 32 #[.slice (some ad) l.length c, .agg #[.int .i64 x.f0, .int .i64 x.f1], .func (.func 26) #[] #[]] w fun e w' => e = .returned (.tuple #[.int .i64 (rankI l x : Nat), .bool (decide (x ∈ l))]) ∧ Below w.heap.size w w' := by
  have ent : ∀ args w, (callFunc 26 args).run Try.prog w = .ok (.enter 26 args) w := fun args w => enters_ Try.func26 (by kernel_rfl) rfl args w
  have HC := Lib.hid h
  have HR := Lib.hid hr
  clear h hr
  go_enter Try.func32, Try.ntmps32
  go_wp2
  have HB0 : Hid (Below w.heap.size w (w.alloc (Obj.cells #[.int .i64 x.f0, .int .i64 x.f1] 23))) := Lib.hid (below_alloc (Below.refl _ _) _)
  have X0 : (w.alloc (Obj.cells #[.int .i64 x.f0, .int .i64 x.f1] 23)).cell? ⟨w.heap.size, 0, none⟩ = some (.int .i64 x.f0) := by simp
  have X1 : (w.alloc (Obj.cells #[.int .i64 x.f0, .int .i64 x.f1] 23)).cell? ⟨w.heap.size, 1, none⟩ = some (.int .i64 x.f1) := by simp
  have HX0 := Lib.hid X0
  have HX1 := Lib.hid X1
  have hsz : (w.alloc (Obj.cells #[.int .i64 x.f0, .int .i64 x.f1] 23)).heap.size = w.heap.size + 1 := by simp
  have HZ := Lib.hid hsz
  clear X0 X1 hsz
  generalize w.alloc (Obj.cells #[.int .i64 x.f0, .int .i64 x.f1] 23) = w0 at HB0 HX0 HX1 HZ ⊢
  go_loopw [9, 10] (fun v9 v10 wr => ∃ i j : Nat, v9 = .int .i64 i ∧ v10 = .int .i64 j ∧ Sep l x i j ∧ Hid (Below w0.heap.size w0 wr)) (fun v9 v10 _ => (intOf v10 - intOf v9).toNat)
  case atStart => exact ⟨0, l.length, rfl, rfl, ⟨Nat.zero_le _, Nat.le_refl _, fun t _ h => absurd h (Nat.not_lt_zero _), fun t h1 h2 => by omega⟩, Lib.hid (Below.refl _ _)⟩
  case round =>
    obtain ⟨i, j, rfl, rfl, hS, HB⟩ := hrel
    have hle := hS.le
    have hjl := hS.len
    have HS := Lib.hid hS
    clear hS
    by_cases hij : i < j
    · obtain ⟨k, hk⟩ : ∃ k, (i + j) / 2 = k := ⟨_, rfl⟩
      have hkj : k < j := by omega
      have hik : i ≤ k := by omega
      have hkl : k < l.length := by omega
      have hBW := below_then HB0.out HB0.out.size HB.out
      have c01 := at_C (Kd.C_below HC.out hBW) k hkl
      obtain ⟨c0, c1⟩ := c01
      have x0 : wr.cell? ⟨w.heap.size, 0, none⟩ = some (.int .i64 x.f0) := (HB.out.cell (by show w.heap.size < _; rw [HZ.out]; omega)).trans HX0.out
      have x1 : wr.cell? ⟨w.heap.size, 1, none⟩ = some (.int .i64 x.f1) := (HB.out.cell (by show w.heap.size < _; rw [HZ.out]; omega)).trans HX1.out
      clear hBW
      have e1 : ((i : Int) + (j : Int)) / 2 = (k : Int) := by omega
      have HK := Lib.hid hk
      clear hk
      go_upto_region 5 with fail
      refine wp_region_still_tail 6 (by kernel_rfl) (by kernel_rfl) ?_
      show wpStill _ _ wr.drew _ _ _
      simp only [List.take_succ_cons, List.take_zero, List.drop_succ_cons, List.drop_zero]
      repeat still_step
      refine wpStill_nil ?_
      show wpList _ _ _ _ _ wr.drew
      clear c0 c1 x0 x1
      have HB2 : Hid (Below w0.heap.size w0 wr.drew) := Lib.hid (below_drew HB.out)
      generalize wr.drew = w2 at HB2 ⊢
      have hneg := ord_neg l[k] x
      cases hx : ltI l[k] x with
      | true =>
        rw [hx] at hneg
        go_wp2_with (go_at_call 26; refine (order_below l[k] x _).mono ?_; rintro e w3 ⟨rfl, hB3⟩)
        go_roundw
        case rel => exact ⟨k + 1, j, by go_num, rfl, HS.out.left HR.out hkj hik hkl hx, Lib.hid (below_then HB2.out HB2.out.size hB3)⟩
        case measure => simp [intOf]; omega
      | false =>
        rw [hx] at hneg
        go_wp2_with (go_at_call 26; refine (order_below l[k] x _).mono ?_; rintro e w3 ⟨rfl, hB3⟩)
        go_roundw
        case rel => exact ⟨i, k, rfl, rfl, HS.out.right HR.out hkj hik hkl hx, Lib.hid (below_then HB2.out HB2.out.size hB3)⟩
        case measure => simp [intOf]; omega
    · obtain rfl : i = j := by omega
      have hrk := HS.out.rank
      have hmem := HS.out.mem HR.out
      by_cases hil : i < l.length
      · have hBW := below_then HB0.out HB0.out.size HB.out
        have c01 := at_C (Kd.C_below HC.out hBW) i hil
        obtain ⟨c0, c1⟩ := c01
        have x0 : wr.cell? ⟨w.heap.size, 0, none⟩ = some (.int .i64 x.f0) := (HB.out.cell (by show w.heap.size < _; rw [HZ.out]; omega)).trans HX0.out
        have x1 : wr.cell? ⟨w.heap.size, 1, none⟩ = some (.int .i64 x.f1) := (HB.out.cell (by show w.heap.size < _; rw [HZ.out]; omega)).trans HX1.out
        have hdec : decide (x ∈ l) = decide (l[i] = x) := by rw [Bool.eq_iff_iff]; simp only [decide_eq_true_eq]; rw [hmem]; exact ⟨fun ⟨_, h⟩ => h, fun h => ⟨hil, h⟩⟩
        have HRK := Lib.hid hrk
        have HD := Lib.hid hdec
        clear hBW hrk hmem hdec
        go_upto_region 8 with fail
        have hz := ord_zero l[i] x
        have hlt : i < l.length := hil
        have hlz : decide ((i : Int) < (l.length : Int)) = true := by simp; omega
        have HB2 := HB.out
        have hWS : w.heap.size < w0.heap.size := by rw [HZ.out]; omega
        go_region_held3 (fun w' => w'.cell? (ad.add (i * 2)) = some (.int .i64 l[i].f0) ∧ w'.cell? ⟨(ad.add (i * 2)).block, (ad.add (i * 2)).off + 1, none⟩ = some (.int .i64 l[i].f1) ∧ w'.cell? ⟨w.heap.size, 0, none⟩ = some (.int .i64 x.f0) ∧ w'.cell? ⟨w.heap.size, 1, none⟩ = some (.int .i64 x.f1) ∧ Below w0.heap.size w0 w')
          (first | exact ⟨c0, c1, x0, x1, below_drew HB2⟩ | (go_split_ands; refine ⟨?_, ?_, ?_, ?_, ?_⟩ <;> first | assumption | exact pw_cell_below hB3 (by assumption) | exact below_then (by assumption) (Below.size (by assumption)) hB3) | go_keep)
          ((go_at_call 26; refine (order_below l[i] x _).mono ?_; rintro e w3 ⟨rfl, hB3⟩))
        go_split_ands
        go_wp2
        go_ret2
        exact ⟨by rw [HRK.out, HD.out]; rfl, below_then HB0.out HB0.out.size (by assumption)⟩
      · have hdec : decide (x ∈ l) = false := by simp only [decide_eq_false_iff_not]; rw [hmem]; rintro ⟨h, _⟩; exact hil h
        have HRK := Lib.hid hrk
        have HD := Lib.hid hdec
        clear hrk hmem hdec
        have hil2 : decide ((i : Int) < (l.length : Int)) = false := by simp; omega
        have hil3 : decide (i < l.length) = false := by simp; omega
        go_upto_region 8 with fail
        go_quiet (fail)
        go_wp2
        go_ret2
        exact ⟨by rw [HRK.out, HD.out]; rfl, pw_below_drewN (below_then HB0.out HB0.out.size HB.out) _⟩
set_option maxHeartbeats 1000000 in
theorem Search_nil (c : Nat) (x : S23) (w : World) :
    Calls Try.prog 32 #[.slice none 0 c, .agg #[.int .i64 x.f0, .int .i64 x.f1], .func (.func 26) #[] #[]] w fun e w' => e = .returned (.tuple #[.int .i64 0, .bool false]) ∧ Below w.heap.size w w' := by
  go_enter Try.func32, Try.ntmps32
  go_wp2
  refine wp_loop_rounds 1 ?_
  rw [rounds_succ]
  go_wp2
  go_quiet (fail)
  go_wp2
  go_ret2
  exact ⟨rfl, pw_below_drewN (below_alloc (Below.refl _ _) _) _⟩
set_option maxHeartbeats 1000000 in
theorem Rank_calls (ad : Addr) (c : Nat) (l : List S23) (x : S23) (w : World) (h : Kd.C k23 w (some ad) l.length l) (hb : l.length * 16 ≤ 140737488351232) (hr : Ord.Rising ltI l) :
    Calls Try.prog 17 #[.slice (some ad) l.length c, .agg #[.int .i64 x.f0, .int .i64 x.f1]] w fun e w' => e = .returned (.tuple #[.int .i64 (rankI l x : Nat), .bool (decide (x ∈ l))]) ∧ Below w.heap.size w w' := by
  have HC := Lib.hid h
  have HR := Lib.hid hr
  clear h hr
  go_enter Try.func17, Try.ntmps17
  go_wp2_with (go_at_call 32; refine (Search_calls ad c l x _ (Kd.C_below HC.out (below_alloc (Below.refl _ _) _)) hb HR.out).mono ?_; rintro e w1 ⟨rfl, hB⟩)
  go_ret2
  exact ⟨rfl, below_then (below_alloc (Below.refl _ _) _) (by simp) (by simpa using hB)⟩
set_option maxHeartbeats 1000000 in
theorem Rank_nil (c : Nat) (x : S23) (w : World) :
    Calls Try.prog 17 #[.slice none 0 c, .agg #[.int .i64 x.f0, .int .i64 x.f1]] w fun e w' => e = .returned (.tuple #[.int .i64 0, .bool false]) ∧ Below w.heap.size w w' := by
  go_enter Try.func17, Try.ntmps17
  go_wp2_with (go_at_call 32; refine (Search_nil c x _).mono ?_; rintro e w1 ⟨rfl, hB⟩)
  go_ret2
  exact ⟨rfl, below_then (below_alloc (Below.refl _ _) _) (by simp) (by simpa using hB)⟩
end Go.Proofs.Ytoaaekgpabnneaa.Rnk

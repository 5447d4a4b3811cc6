/- LayoutChecks: the document's Check answers as the program's, and so does its Text. -/
import Derived.Test.YtoidlaonolkgkaaDoorPx9
import Derived.Test.YtoidlaonolkgkaaDoorLem
set_option linter.unusedVariables false
set_option linter.unusedSimpArgs false
namespace Go.Proofs.YtoidlaonolkgkaaDoor.PureChecks
open Go.RowKit Go.Proofs.YtoidlaonolkgkaaDoor.P Go.Proofs.YtoidlaonolkgkaaDoor.Giv Go.Proofs.YtoidlaonolkgkaaDoor.Lem Go.Proofs.YtoidlaonolkgkaaDoor.Gc Go.Proofs.YtoidlaonolkgkaaDoor.Gd Go.Proofs.YtoidlaonolkgkaaDoor.Ge Go.Proofs.YtoidlaonolkgkaaDoorW.PrintWords Go.Proofs.YtoidlaonolkgkaaDoorW.PrintLast Go.Proofs.YtoidlaonolkgkaaDoorW.PrintMore
theorem neg1 : widthN (-1) = 0 := by decide
theorem rdN (xs : List S47) (j : Nat) (h : j < xs.length) (i : Int) (hi : i = (j : Int)) : rd_T47 xs i = xs[j] := by subst hi; exact rd47 xs j h
/-- One row: from the cell k on. -/
theorem l1_ok (row : List S47) (hl : row.length ≤ 100000) (i : Int) (rows : List (List S47)) (a b : Int) (K : Nat) :
    ∀ (m k : Nat) (o pm : Bool), k + m = row.length → (∀ j (h : j < row.length), k = j + 1 → o = (widthN row[j].f0 == 2) ∧ pm = row[j].f1) → (k = 0 → o = false) → (o = true → ∃ h : k < row.length, row[k].f0 = -1) →
      duetref21_Check.l1 (3 * m + 1 + K) (row.length : Int) i row ((k : Nat) : Int) rows a b = if rowGo o pm (row.drop k) = true then duetref21_Check.l0 K (row.length : Int) (wrap64 (i + 1)) rows a b else some 1
  | 0, k, o, pm, hk, _, _, ho => by
    have h0 : o = false := by
      cases o with
      | false => rfl
      | true => obtain ⟨h, _⟩ := ho rfl; omega
    subst h0
    rw [show 3 * 0 + 1 + K = K + 1 by omega, duetref21_Check.l1, if_neg (by omega), List.drop_eq_nil_of_le (by omega)]
    rfl
  | m + 1, k, o, pm, hk, hp, hz, ho => by
    have hlt : k < row.length := by omega
    have e : rd_T47 row (k : Int) = row[k] := rd47 row k hlt
    have hw1 : wrap64 ((k : Int) + 1) = ((k + 1 : Nat) : Int) := by unfold wrap64; omega
    have ih := l1_ok row hl i rows a b K m (k + 1)
    have hnx : ∀ j (h : j < row.length), k + 1 = j + 1 → (widthN row[k].f0 == 2) = (widthN row[j].f0 == 2) ∧ row[k].f1 = row[j].f1 := fun j h hj => by
      obtain rfl : k = j := by omega
      exact ⟨rfl, rfl⟩
    rw [show 3 * (m + 1) + 1 + K = (3 * m + 1 + K) + 1 + 1 + 1 by omega, duetref21_Check.l1, if_pos (by omega), if_pos (by omega), if_pos (by omega), e, refWidth_f, Option.bind_some, List.drop_eq_getElem_cons hlt, rowGo]
    by_cases hm1 : row[k].f0 = -1
    · rw [if_neg (show ¬ row[k].f0 = 0 by omega), if_pos hm1, duetref21_Check.j3, if_neg (by decide), if_pos hm1, duetref21_Check.j4, if_neg (by decide), if_pos hm1]
      by_cases hk0 : k = 0
      · have h0 := hz hk0
        subst h0
        have hc : cellBad false pm row[k] = true := by unfold cellBad; rw [hm1]; rfl
        rw [if_pos (by omega), if_pos hc, if_neg (by decide)]
      · obtain ⟨j, rfl⟩ : ∃ j, k = j + 1 := ⟨k - 1, by omega⟩
        have hw0 : wrap64 (((j + 1 : Nat) : Int) - 1) = (j : Int) := by unfold wrap64; omega
        obtain ⟨rfl, rfl⟩ := hp j (by omega) rfl
        rw [if_neg (by omega), hw0, if_pos (by omega), if_pos (by omega), rdN row j (by omega) _ rfl]
        by_cases hj1 : row[j].f0 = -1
        · have hc : cellBad (widthN row[j].f0 == 2) row[j].f1 row[j + 1] = true := by unfold cellBad; rw [hm1, hj1, neg1]; rfl
          rw [if_pos hj1, if_pos hc, if_neg (by decide)]
        · have hwf : duetref20_Width.f (3 * m + 1 + K) row[j].f0 = some (widthN row[j].f0) := by rw [show 3 * m + 1 + K = 3 * m + K + 1 by omega]; exact refWidth_f _ _
          rw [if_neg hj1, hwf, Option.bind_some]
          by_cases hw : widthN row[j].f0 = 2
          · rw [if_pos hw, if_pos (by omega), if_pos (by omega), e, hw1]
            have hc : cellBad (widthN row[j].f0 == 2) row[j].f1 row[j + 1] = (row[j].f1 != row[j + 1].f1) := by
              unfold cellBad; rw [hm1, hw, neg1]
              cases row[j].f1 <;> cases row[j + 1].f1 <;> rfl
            rw [hc]
            by_cases hb : (row[j].f1 != row[j + 1].f1) = true
            · rw [if_pos hb, if_pos hb, if_neg (by decide)]
            · rw [if_neg hb, if_neg hb]
              exact ih _ _ (by omega) hnx (fun h => by omega) (fun h => by rw [hm1, neg1] at h; exact absurd h (by decide))
          · have hw2 : (widthN row[j].f0 == 2) = false := by simpa using hw
            have hc : cellBad (widthN row[j].f0 == 2) row[j].f1 row[j + 1] = true := by unfold cellBad; rw [hm1, hw2]; rfl
            rw [if_neg hw, if_pos hc, if_neg (by decide)]
    · have ho2 : o = false := by
        cases o with
        | false => rfl
        | true => obtain ⟨_, h⟩ := ho rfl; exact absurd h hm1
      subst ho2
      have hb1 : (row[k].f0 == -1) = false := by simpa using hm1
      have hj4 : duetref21_Check.j4 (3 * m + 1 + K + 1) (row.length : Int) i row (k : Int) row[k].f0 false rows a b = duetref21_Check.l1 (3 * m + 1 + K) (row.length : Int) i row ((k + 1 : Nat) : Int) rows a b := by
        rw [duetref21_Check.j4, if_neg (by decide), if_neg hm1, hw1]
      have htail : cellBad false pm row[k] = false → duetref21_Check.j3 (3 * m + 1 + K + 1 + 1) (row.length : Int) i row (k : Int) row[k].f0 (widthN row[k].f0) false rows a b = if (if cellBad false pm row[k] = true then false else rowGo (widthN row[k].f0 == 2) row[k].f1 (row.drop (k + 1))) = true then duetref21_Check.l0 K (row.length : Int) (wrap64 (i + 1)) rows a b else some 1 := by
        intro hc
        rw [if_neg (show ¬ cellBad false pm row[k] = true by rw [hc]; decide), duetref21_Check.j3, if_neg (by decide), if_neg hm1, hw1]
        by_cases hw : widthN row[k].f0 = 2
        · have hw2 : (widthN row[k].f0 == 2) = true := by simpa using hw
          rw [if_pos hw]
          by_cases hend : k + 1 = row.length
          · rw [if_pos (by omega), duetref21_Check.j4, if_pos rfl, List.drop_eq_nil_of_le (by omega), hw2]
            rfl
          · have hlt2 : k + 1 < row.length := by omega
            rw [if_neg (by omega), if_pos (by omega), if_pos (by omega), rdN row (k + 1) hlt2 _ rfl]
            by_cases hnm : row[k + 1].f0 = -1
            · rw [show (row[k + 1].f0 != -1) = false by simp [hnm], hj4]
              exact ih _ _ (by omega) hnx (fun h => by omega) (fun _ => ⟨hlt2, hnm⟩)
            · have hn2 : (row[k + 1].f0 == -1) = false := by simpa using hnm
              have hc2 : cellBad true row[k].f1 row[k + 1] = true := by unfold cellBad; rw [hn2]; rfl
              rw [show (row[k + 1].f0 != -1) = true by simp [hnm], duetref21_Check.j4, if_pos rfl, List.drop_eq_getElem_cons hlt2, hw2, rowGo, if_pos hc2, if_neg (by decide)]
        · have hw2 : (widthN row[k].f0 == 2) = false := by simpa using hw
          rw [if_neg hw, hj4]
          exact ih _ _ (by omega) hnx (fun h => by omega) (fun h => by rw [hw2] at h; exact absurd h (by decide))
      by_cases hz0 : row[k].f0 = 0
      · have hc : cellBad false pm row[k] = false := by unfold cellBad; rw [hb1, hz0]; rfl
        rw [if_pos hz0]
        exact htail hc
      · rw [if_neg hz0, if_neg hm1]
        by_cases hw0 : widthN row[k].f0 = 0
        · have hz1 : (row[k].f0 != 0) = true := by simpa using hz0
          have hc : cellBad false pm row[k] = true := by unfold cellBad; rw [hb1, hw0, hz1]; rfl
          rw [show (widthN row[k].f0 == 0) = true by simp [hw0], duetref21_Check.j3, if_pos rfl, if_pos hc, if_neg (by decide)]
        · have hw1' : (widthN row[k].f0 == 0) = false := by simpa using hw0
          have hc : cellBad false pm row[k] = false := by unfold cellBad; rw [hb1, hw1']; simp
          rw [hw1']
          exact htail hc
theorem l0_ok (rows : List (List S47)) (wd : Nat) (hw : wd ≤ 100000) (hl : rows.length ≤ 100000) (a b : Int) :
    ∀ (m i : Nat), i + m = rows.length → duetref21_Check.l0 (m * (3 * wd + 2) + 1) (wd : Int) ((i : Nat) : Int) rows a b = some (if rowsOK (wd : Int) (rows.drop i) = true then 0 else 1)
  | 0, i, h => by
    rw [show 0 * (3 * wd + 2) + 1 = 0 + 1 by omega, duetref21_Check.l0, if_neg (by omega), List.drop_eq_nil_of_le (by omega)]
    rfl
  | m + 1, i, h => by
    have hi : i < rows.length := by omega
    have e : rd_L6 rows (i : Int) = rows[i] := by unfold rd_L6; rw [Int.toNat_natCast, List.getD_eq_getElem?_getD, List.getElem?_eq_getElem hi]; rfl
    rw [show (m + 1) * (3 * wd + 2) + 1 = (3 * wd + 1 + (m * (3 * wd + 2) + 1)) + 1 by rw [Nat.add_mul]; omega, duetref21_Check.l0, if_pos (by omega), if_pos (by omega), e, List.drop_eq_getElem_cons hi]
    unfold rowsOK
    rw [List.all_cons]
    by_cases hr : (rows[i].length : Int) = (wd : Int)
    · have hr2 : rows[i].length = wd := by omega
      have h1 := l1_ok rows[i] (by omega) (i : Int) rows a b (m * (3 * wd + 2) + 1) wd 0 false false (by omega) (fun j _ hj => by omega) (fun _ => rfl) (fun h => by cases h)
      rw [hr2, List.drop_zero] at h1
      rw [if_pos hr, show (0 : Int) = ((0 : Nat) : Int) from rfl, h1]
      have hro : rowOK (wd : Int) rows[i] = rowGo false false rows[i] := by unfold rowOK; rw [hr]; simp
      rw [hro]
      cases rowGo false false rows[i] with
      | false => rfl
      | true =>
        have ih := l0_ok rows wd hw hl a b m (i + 1) (by omega)
        rw [if_pos rfl, show wrap64 ((i : Int) + 1) = ((i + 1 : Nat) : Int) by unfold wrap64; omega, ih]
        unfold rowsOK
        rw [Bool.true_and]
        rfl
    · have hro : rowOK (wd : Int) rows[i] = false := by unfold rowOK; simp [hr]
      rw [if_neg hr, hro]
      rfl
/-- The document's Check answers as the program's. -/
theorem check_f (rows : List (List S47)) (row col width : Int) : ∃ K, duetref21_Check.f K rows row col width = some (checkN rows row col width) := by
  have bad : ∀ b, b = true → checkBad width rows.length row col → duetref21_Check.j0 1 width b rows row col = some (checkN rows row col width) := by
    rintro b rfl h
    unfold checkN
    rw [duetref21_Check.j0, if_pos rfl, if_pos h]
  by_cases hb : checkBad width rows.length row col
  · refine ⟨1, ?_⟩
    have hb0 := hb
    unfold checkBad at hb
    unfold duetref21_Check.f
    by_cases h1 : width < 2
    · rw [if_pos h1]; exact bad _ rfl hb0
    rw [if_neg h1]
    by_cases h2 : width > 512
    · rw [if_pos h2]; exact bad _ rfl hb0
    rw [if_neg h2]
    by_cases h3 : (rows.length : Int) < 1
    · rw [if_pos h3]; exact bad _ rfl hb0
    rw [if_neg h3]
    by_cases h4 : (rows.length : Int) > 200
    · rw [if_pos h4]; exact bad _ rfl hb0
    rw [if_neg h4]
    by_cases h5 : row < 0
    · rw [if_pos h5]; exact bad _ rfl hb0
    rw [if_neg h5]
    by_cases h6 : row ≥ (rows.length : Int)
    · rw [if_pos h6]; exact bad _ rfl hb0
    rw [if_neg h6]
    by_cases h7 : col < 0
    · rw [if_pos h7]; exact bad _ rfl hb0
    rw [if_neg h7]
    exact bad _ (decide_eq_true (by omega)) hb0
  · have hb0 := hb
    unfold checkBad at hb
    obtain ⟨wd, rfl⟩ : ∃ k : Nat, width = k := ⟨width.toNat, by omega⟩
    refine ⟨(rows.length * (3 * wd + 2) + 1) + 1, ?_⟩
    unfold duetref21_Check.f
    rw [if_neg (by omega), if_neg (by omega), if_neg (by omega), if_neg (by omega), if_neg (by omega), if_neg (by omega), if_neg (by omega), decide_eq_false (by omega), duetref21_Check.j0, if_neg (by decide)]
    rw [show (0 : Int) = ((0 : Nat) : Int) from rfl, l0_ok rows wd (by omega) (by omega) row col rows.length 0 (by omega), List.drop_zero]
    unfold checkN
    rw [if_neg hb0]
theorem texts_l0 (l : List ByteArray) (hl : l.length ≤ 100000) : ∀ (m i : Nat), i + m = l.length → duetref03_Texts.l0 (m + 1) l l ((i : Nat) : Int) = some true
  | 0, i, h => by rw [duetref03_Texts.l0, if_neg (by omega)]
  | m + 1, i, h => by
    rw [duetref03_Texts.l0, if_pos (by omega), if_pos (by omega), if_pos (by omega), if_pos rfl, show wrap64 ((i : Int) + 1) = ((i + 1 : Nat) : Int) by unfold wrap64; omega]
    exact texts_l0 l hl m (i + 1) (by omega)
theorem texts_f (l : List ByteArray) (hl : l.length ≤ 100000) : duetref03_Texts.f (l.length + 1) l l = some true := by
  unfold duetref03_Texts.f
  rw [if_pos rfl]
  exact texts_l0 l hl l.length 0 (by omega)
/-- Is a page small? -/
def smallN (rows : List (List S47)) : Bool := decide (rows.length ≤ 40) && rows.all fun r => decide (r.length ≤ 40)
theorem small_l0 (rows : List (List S47)) (hl : rows.length ≤ 40) (a b : Int) : ∀ (m i : Nat), i + m = rows.length → duetref21_Small.l0 (m + 1) ((i : Nat) : Int) rows a b = some ((rows.drop i).all fun r => decide (r.length ≤ 40))
  | 0, i, h => by rw [duetref21_Small.l0, if_neg (by omega), List.drop_eq_nil_of_le (by omega)]; rfl
  | m + 1, i, h => by
    have hi : i < rows.length := by omega
    have e : rd_L6 rows (i : Int) = rows[i] := by unfold rd_L6; rw [Int.toNat_natCast, List.getD_eq_getElem?_getD, List.getElem?_eq_getElem hi]; rfl
    rw [duetref21_Small.l0, if_pos (by omega), if_pos (by omega), e, List.drop_eq_getElem_cons hi, List.all_cons]
    by_cases h4 : (rows[i].length : Int) > 40
    · rw [if_pos h4, decide_eq_false (by omega)]; rfl
    · rw [if_neg h4, decide_eq_true (by omega), Bool.true_and, show wrap64 ((i : Int) + 1) = ((i + 1 : Nat) : Int) by unfold wrap64; omega]
      exact small_l0 rows hl a b m (i + 1) (by omega)
theorem small_f (rows : List (List S47)) (a b : Int) : ∃ K, duetref21_Small.f K rows a b = some (smallN rows) := by
  unfold smallN
  by_cases h : (rows.length : Int) > 40
  · exact ⟨0, by unfold duetref21_Small.f; rw [if_pos h, decide_eq_false (by omega)]; rfl⟩
  · refine ⟨rows.length + 1, ?_⟩
    unfold duetref21_Small.f
    rw [if_neg h, decide_eq_true (by omega), Bool.true_and, show (0 : Int) = ((0 : Nat) : Int) from rfl, small_l0 rows (by omega) a b rows.length 0 (by omega), List.drop_zero]
theorem up {α : Type} (f : Nat → Option α) (h : ∀ k, LeO (f k) (f (k + 1))) {k : Nat} {r : α} (hk : f k = some r) {n : Nat} (hn : k ≤ n) : f n = some r := by
  induction hn with
  | refl => exact hk
  | step _ ih => exact h _ r ih
theorem pure (l0 : List (List S47)) (a1 a2 a3 : Int) : ∃ k, duetlaw21_LayoutChecks.f k l0 a1 a2 a3 = some true := by
  obtain ⟨k1, h1⟩ := small_f l0 a1 a2
  cases hs : smallN l0 with
  | false =>
    refine ⟨k1, ?_⟩
    unfold duetlaw21_LayoutChecks.f
    rw [h1, Option.bind_some, hs, if_neg (by decide)]
    rfl
  | true =>
    unfold smallN at hs
    rw [Bool.and_eq_true, decide_eq_true_eq, List.all_eq_true] at hs
    obtain ⟨hl, hr⟩ := hs
    have hr2 : ∀ r ∈ l0, r.length ≤ 40 := fun r hx => of_decide_eq_true (hr r hx)
    have hsm : smallN l0 = true := by unfold smallN; rw [Bool.and_eq_true, decide_eq_true_eq, List.all_eq_true]; exact ⟨hl, hr⟩
    obtain ⟨k2, h2⟩ := check_f l0 a1 a2 a3
    have ht : layout_Text.f l0 a1 a2 = some (pageT l0) := by unfold layout_Text.f; rw [if_pos ⟨by omega, fun r hx => by have := hr2 r hx; omega⟩]
    have hc : layout_Check.f l0 a1 a2 a3 = some (checkN l0 a1 a2 a3) := by unfold layout_Check.f; rw [if_pos ⟨by omega, fun r hx => by have := hr2 r hx; omega⟩]
    have hpl : (pageT l0).length = l0.length := by unfold pageT; rw [List.length_map]
    have h3 := texts_f (pageT l0) (by omega)
    refine ⟨max k1 (max k2 ((pageT l0).length + 1)), ?_⟩
    unfold duetlaw21_LayoutChecks.f
    rw [up (fun k => duetref21_Small.f k l0 a1 a2) (fun k => duetref21_Small.mono _ _ _ k) h1 (Nat.le_max_left _ _), Option.bind_some, hsm, if_pos rfl, hc, Option.bind_some,
      up (fun k => duetref21_Check.f k l0 a1 a2 a3) (fun k => duetref21_Check.mono _ _ _ _ k) h2 (by omega), Option.bind_some, if_pos rfl, ht, Option.bind_some]
    rw [show duetref21_Text.f l0 a1 a2 = some (pageT l0) from ht, Option.bind_some, up (fun k => duetref03_Texts.f k (pageT l0) (pageT l0)) (fun k => duetref03_Texts.mono _ _ k) h3 (by omega), Option.bind_some, if_pos rfl]
    rfl
theorem law (A0 : Option Addr) (c0 : Nat) (l0 : List (List S47)) (a1 a2 a3 : Int) (w : World) (hL : Laid w) (hr0 : Kd.C (Kd.slice 47 k47) w A0 l0.length l0) (hc0 : l0.length ≤ c0) :
    Calls Tryd.prog 4 #[.agg #[.slice A0 l0.length c0, .int .i64 a1, .int .i64 a2], .int .i64 a3] w fun e w' => e = .returned (.bool true) ∧ Below w.heap.size w w' := by
  obtain ⟨k, h⟩ := pure l0 a1 a2 a3
  exact duetlaw21_LayoutChecks.calls k A0 c0 l0 a1 a2 a3 true w hL hr0 hc0 h
end Go.Proofs.YtoidlaonolkgkaaDoor.PureChecks

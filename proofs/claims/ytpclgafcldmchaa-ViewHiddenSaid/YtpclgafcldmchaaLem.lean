/- What the printed functions of the view answer, in plain lists. -/
import Derived.Test.YtpclgafcldmchaaPx
import Derived.Stop.FmtQuoteTie
set_option linter.unusedVariables false
set_option linter.unusedSimpArgs false
namespace Go.Proofs.Ytpclgafcldmchaa.Lem
open Go.RowKit Go.Proofs.Ytpclgafcldmchaa.P Go.Proofs.Ytpclgafcldmchaa.It Go.Proofs.Ytpclgafcldmchaa.Giv Go.Proofs.YtpclgafcldmchaaW.PrintWords Go.Proofs.YtpclgafcldmchaaW.PrintLast Go.Proofs.YtpclgafcldmchaaW.PrintMore
theorem w1 (i n : Nat) (h : i < n) (hn : n ≤ 1000) : wrap64 ((i : Int) + 1) = ((i + 1 : Nat) : Int) := by unfold wrap64; omega
theorem rdT (l : List S44) (i : Nat) (h : i < l.length) : rd_T44 l (i : Int) = l[i] := by
  unfold rd_T44; rw [Int.toNat_natCast, List.getD_eq_getElem?_getD, List.getElem?_eq_getElem h]; rfl
theorem rdI (l : List Int) (i : Nat) (h : i < l.length) : rd l (i : Int) = l[i] := by
  unfold rd; rw [Int.toNat_natCast, List.getD_eq_getElem?_getD, List.getElem?_eq_getElem h]; rfl
theorem rdU (l : List S24) (i : Nat) (h : i < l.length) : rd_T24 l (i : Int) = l[i] := by
  unfold rd_T24; rw [Int.toNat_natCast, List.getD_eq_getElem?_getD, List.getElem?_eq_getElem h]; rfl
/-! ### Few -/
theorem few_l0 (l : List S44) (hl : l.length ≤ 60) : ∀ (m i k : Nat), i + m = l.length → m < k → ∃ b, duetref12_Few.l0 k l (i : Int) = some b
  | m, i, 0, _, hk => absurd hk (Nat.not_lt_zero _)
  | 0, i, k + 1, hm, _ => by
    unfold duetref12_Few.l0; rw [if_neg (by omega)]; exact ⟨_, rfl⟩
  | m + 1, i, k + 1, hm, hk => by
    unfold duetref12_Few.l0
    rw [if_pos (by omega), if_pos (by omega), rdT l i (by omega), w1 i l.length (by omega) (by omega)]
    by_cases h : (l[i].f3.length : Int) > 20
    · rw [if_pos h]; exact ⟨_, rfl⟩
    · rw [if_neg h]; exact few_l0 l hl m (i + 1) k (by omega) (by omega)
theorem Few_f (k : Nat) (hk : 70 ≤ k) (l : List S44) : ∃ b, duetref12_Few.f k l = some b ∧ (b = true → l.length ≤ 60) := by
  unfold duetref12_Few.f
  by_cases h : (l.length : Int) > 60
  · rw [if_pos h]; exact ⟨_, rfl, fun h => by cases h⟩
  · rw [if_neg h]
    obtain ⟨b, hb⟩ := few_l0 l (by omega) l.length 0 k (by omega) (by omega)
    exact ⟨b, hb, fun _ => by omega⟩
/-! ### What is seen -/
def seenN (l : List S44) : List Nat := seenFrom 0 l
theorem seenL_eq (l : List S44) : seenL l = (seenN l).map fun i : Nat => (i : Int) := rfl
theorem seenFrom_bound : ∀ (l : List S44) (i : Nat), ∀ x ∈ seenFrom i l, i ≤ x ∧ x < i + l.length
  | [], i, x, h => by simp [seenFrom] at h
  | y :: l, i, x, h => by
    unfold seenFrom at h
    have := seenFrom_bound l (i + 1) x
    split at h
    · rcases List.mem_cons.1 h with rfl | h
      · simp
      · have := this h; simp; omega
    · have := this h; simp; omega
theorem seenFrom_len : ∀ (l : List S44) (i : Nat), (seenFrom i l).length ≤ l.length
  | [], i => Nat.le_refl _
  | y :: l, i => by
    have := seenFrom_len l (i + 1)
    unfold seenFrom
    split <;> simp <;> omega
theorem seenN_lt (l : List S44) (x : Nat) (h : x ∈ seenN l) : x < l.length := by have := seenFrom_bound l 0 x h; omega
theorem seenN_len (l : List S44) : (seenN l).length ≤ l.length := seenFrom_len l 0
theorem seenL_len (l : List S44) : (seenL l).length = (seenN l).length := by simp [seenL_eq]
theorem Seen_f (l : List S44) (hl : l.length ≤ 1000) : view_Seen.f l = some (seenL l) := by
  unfold view_Seen.f; rw [if_pos (by omega)]
theorem Text_f (l : List S44) (hl : l.length ≤ 1000) : view_Text.f l = some (runesBytes (clips l)) := by
  unfold view_Text.f; rw [if_pos (by omega)]
theorem refSeen_l0 (l : List S44) (hl : l.length ≤ 1000) : ∀ (m i k : Nat) (a : List Int), i + m = l.length → m < k → a.length ≤ i → duetref12_Seen.l0 k l a (i : Int) = some (a ++ (seenFrom i (l.drop i)).map fun i : Nat => (i : Int))
  | m, i, 0, _, _, hk, _ => absurd hk (Nat.not_lt_zero _)
  | 0, i, k + 1, a, hm, _, _ => by
    unfold duetref12_Seen.l0; rw [if_neg (by omega), List.drop_of_length_le (by omega)]; simp [seenFrom]
  | m + 1, i, k + 1, a, hm, hk, ha => by
    unfold duetref12_Seen.l0
    rw [if_pos (by omega), if_pos (by omega), rdT l i (by omega), w1 i l.length (by omega) (by omega), List.drop_eq_getElem_cons (show i < l.length by omega)]
    unfold seenFrom
    by_cases h : l[i].f3.length = 0
    · rw [if_pos (by omega), if_pos h, if_pos (by omega), refSeen_l0 l hl m (i + 1) k _ (by omega) (by omega) (by simp; omega)]; simp
    · rw [if_neg (by omega), if_neg h, refSeen_l0 l hl m (i + 1) k _ (by omega) (by omega) (by omega)]
theorem refSeen_f (k : Nat) (l : List S44) (hl : l.length ≤ 1000) (hk : l.length < k) : duetref12_Seen.f k l = some (seenL l) := by
  unfold duetref12_Seen.f
  have := refSeen_l0 l hl l.length 0 k [] (by omega) hk (by simp)
  simpa [seenL] using this
/-! ### Same -/
theorem same_l0 (l m : List Int) (hl : l.length ≤ 1000) (e : l.length = m.length) : ∀ (d i k : Nat), i + d = l.length → d < k → l.take i = m.take i → duetref01_Same.l0 k l m (i : Int) = some (decide (l = m))
  | d, i, 0, _, hk, _ => absurd hk (Nat.not_lt_zero _)
  | 0, i, k + 1, hm, _, ht => by
    unfold duetref01_Same.l0; rw [if_neg (by omega)]
    rw [List.take_of_length_le (by omega), List.take_of_length_le (by omega)] at ht
    rw [decide_eq_true ht]
  | d + 1, i, k + 1, hm, hk, ht => by
    unfold duetref01_Same.l0
    rw [if_pos (by omega), if_pos (by omega), if_pos (by omega), rdI l i (by omega), rdI m i (by omega), w1 i l.length (by omega) (by omega)]
    by_cases h : l[i]'(by omega) = m[i]'(by omega)
    · rw [if_pos h]
      exact same_l0 l m hl e d (i + 1) k (by omega) (by omega) (by rw [List.take_succ_eq_append_getElem (by omega), List.take_succ_eq_append_getElem (by omega), ht, h])
    · rw [if_neg h, decide_eq_false (by rintro rfl; exact h rfl)]
theorem Same_f (k : Nat) (l m : List Int) (hl : l.length ≤ 1000) (hk : l.length < k) : duetref01_Same.f k l m = some (decide (l = m)) := by
  unfold duetref01_Same.f
  by_cases e : l.length = m.length
  · rw [if_pos (by omega)]; exact same_l0 l m hl e l.length 0 k (by omega) hk (by simp)
  · rw [if_neg (by omega), decide_eq_false (by rintro rfl; exact e rfl)]
theorem sameU_l0 (l m : List S24) (hl : l.length ≤ 1000) (e : l = m) : ∀ (d i k : Nat), i + d = l.length → d < k → duetref10_Same.l0 k l m (i : Int) = some true
  | d, i, 0, _, hk => absurd hk (Nat.not_lt_zero _)
  | 0, i, k + 1, hm, _ => by
    unfold duetref10_Same.l0; rw [if_neg (by omega)]
  | d + 1, i, k + 1, hm, hk => by
    subst e
    unfold duetref10_Same.l0
    rw [if_pos (by omega), if_pos (by omega), if_pos (by omega), if_neg (by simp), w1 i l.length (by omega) (by omega)]
    exact sameU_l0 l l hl rfl d (i + 1) k (by omega) (by omega)
theorem SameU_f (k : Nat) (l : List S24) (hl : l.length ≤ 1000) (hk : l.length < k) : duetref10_Same.f k l l = some true := by
  unfold duetref10_Same.f
  rw [if_pos rfl]; exact sameU_l0 l l hl rfl l.length 0 k (by omega) hk
/-! ### Ref, Index, Range -/
def idAt (l : List S44) (i : Nat) : S24 := (l.getD i z44).f0
def refL (l : List S44) (a : Int) : Int × Int × Int :=
  if a < 0 ∨ a > ((seenN l).length : Int) then (0, 0, 1) else if a = 0 then (0, 0, 0) else ((idAt l ((seenN l).getD (a.toNat - 1) 0)).f0, (idAt l ((seenN l).getD (a.toNat - 1) 0)).f1, 0)
theorem ref_mid (l : List S44) (hl : l.length ≤ 1000) (a : Int) (h0 : 1 ≤ a) (h1 : a ≤ ((seenN l).length : Int)) :
    wrap64 (a - 1) = ((a.toNat - 1 : Nat) : Int) ∧ rd (seenL l) (wrap64 (a - 1)) = (((seenN l).getD (a.toNat - 1) 0 : Nat) : Int) ∧ (seenN l).getD (a.toNat - 1) 0 < l.length := by
  have := seenN_len l
  have e : wrap64 (a - 1) = ((a.toNat - 1 : Nat) : Int) := by unfold wrap64; omega
  have hlt : a.toNat - 1 < (seenN l).length := by omega
  refine ⟨e, ?_, ?_⟩
  · rw [e, rdI _ _ (by rw [seenL_len]; exact hlt)]
    simp [seenL_eq, List.getD_eq_getElem?_getD, hlt]
  · rw [List.getD_eq_getElem?_getD, List.getElem?_eq_getElem hlt]
    exact seenN_lt l _ (List.getElem_mem hlt)
theorem rdId (l : List S44) (n : Nat) : (rd_T44 l (n : Int)).f0 = idAt l n := by unfold rd_T44 idAt; rw [Int.toNat_natCast]
theorem ref_j0 (k : Nat) (l : List S44) (hl : l.length ≤ 1000) (a : Int) : view_Ref.j0 (k + 1) l a (seenL l) (decide (a < 0 ∨ a > ((seenN l).length : Int))) = some (refL l a) := by
  rw [view_Ref.j0]; unfold refL
  by_cases h : a < 0 ∨ a > ((seenN l).length : Int)
  · rw [if_pos (by simpa using h), if_pos h]
  · rw [if_neg (by simpa using h), if_neg h]
    by_cases h0 : a = 0
    · rw [if_pos h0, if_pos h0]
    · obtain ⟨e, e2, hlt⟩ := ref_mid l hl a (by omega) (by omega)
      rw [if_neg h0, if_neg h0, e2, if_pos (by omega), if_pos (by rw [seenL_len]; omega), if_pos (by omega), if_pos (by omega), rdId]
theorem Ref_f (k : Nat) (hk : 1 ≤ k) (l : List S44) (hl : l.length ≤ 1000) (a : Int) : view_Ref.f k l a = some (refL l a) := by
  obtain ⟨k, rfl⟩ : ∃ j, k = j + 1 := ⟨k - 1, by omega⟩
  unfold view_Ref.f
  rw [Seen_f l hl, Option.bind_some, ← ref_j0 k l hl a]
  by_cases h : a < 0
  · rw [if_pos h, decide_eq_true (.inl h)]
  · rw [if_neg h, seenL_len]
    congr 1
    simp [h]
theorem refRef_f (k : Nat) (l : List S44) (hl : l.length ≤ 1000) (hk : l.length < k) (a : Int) : duetref12_Ref.f k l a = some (refL l a) := by
  obtain ⟨j, rfl⟩ : ∃ j, k = j + 1 := ⟨k - 1, by omega⟩
  have hj : ∀ b, duetref12_Ref.j0 (j + 1) l a (seenL l) b = view_Ref.j0 (j + 1) l a (seenL l) b := fun b => rfl
  rw [← Ref_f (j + 1) (by omega) l hl a]
  unfold duetref12_Ref.f view_Ref.f
  rw [refSeen_f _ l hl hk, Seen_f l hl, Option.bind_some, Option.bind_some, hj, hj]
/-- The place behind an element. -/
def indexL (l : List S44) (x y : Int) : Int × Int :=
  if (x == 0 && y == 0) = true then (0, 0) else
  match l.findIdx? (fun e => e.f0.f0 == x && e.f0.f1 == y) with
  | some i => (((seenN (l.take (i + 1))).length : Int), 0)
  | none => (0, 6)
def behind (l : List S44) (p : S44 → Bool) (i : Nat) : Int × Int :=
  match (l.drop i).findIdx? p with
  | some j => (((seenN (l.take (i + j + 1))).length : Int), 0)
  | none => (0, 6)
theorem behind_step (l : List S44) (p : S44 → Bool) (i : Nat) (h : i < l.length) : behind l p i = if p l[i] = true then (((seenN (l.take (i + 1))).length : Int), 0) else behind l p (i + 1) := by
  unfold behind
  rw [List.drop_eq_getElem_cons h, List.findIdx?_cons]
  by_cases hp : p l[i] = true
  · rw [if_pos hp, if_pos hp]
  · rw [if_neg hp, if_neg hp]
    cases (l.drop (i + 1)).findIdx? p with
    | none => rfl
    | some j => simp [Nat.add_assoc, Nat.add_comm 1 j]
theorem behind_end (l : List S44) (p : S44 → Bool) (i : Nat) (h : l.length ≤ i) : behind l p i = (0, 6) := by
  unfold behind; rw [List.drop_of_length_le h]; rfl
theorem index_l0 (l : List S44) (hl : l.length ≤ 1000) (x y : Int) : ∀ (m i k : Nat), i + m = l.length → m < k → view_Index.l0 k l l (l.length : Int) (i : Int) x y = some (behind l (fun e => e.f0.f0 == x && e.f0.f1 == y) i)
  | m, i, 0, _, hk => absurd hk (Nat.not_lt_zero _)
  | 0, i, k + 1, hm, _ => by
    unfold view_Index.l0; rw [if_neg (by omega), behind_end _ _ _ (by omega)]
  | m + 1, i, k + 1, hm, hk => by
    unfold view_Index.l0
    rw [if_pos (by omega), if_pos (by omega), if_pos (by omega), rdT l i (by omega), w1 i l.length (by omega) (by omega), behind_step l _ i (by omega)]
    by_cases h : (l[i].f0.f0 == x && l[i].f0.f1 == y) = true
    · rw [if_pos h, if_pos h, if_pos (by omega), if_pos (by omega), Int.toNat_natCast, Seen_f _ (by rw [List.length_take]; omega), Option.bind_some, seenL_len]
    · rw [if_neg h, if_neg h]; exact index_l0 l hl x y m (i + 1) k (by omega) (by omega)
theorem indexL_behind (l : List S44) (x y : Int) (h : ¬ (x == 0 && y == 0) = true) : indexL l x y = behind l (fun e => e.f0.f0 == x && e.f0.f1 == y) 0 := by
  unfold indexL behind; rw [if_neg h, List.drop_zero]; simp only [Nat.zero_add]
theorem Index_f (k : Nat) (l : List S44) (hl : l.length ≤ 1000) (hk : l.length < k) (x y : Int) : view_Index.f k l x y = some (indexL l x y) := by
  unfold view_Index.f
  by_cases h : (x == 0 && y == 0) = true
  · rw [if_pos h]; unfold indexL; rw [if_pos h]
  · rw [if_neg h, indexL_behind l x y h]; exact index_l0 l hl x y l.length 0 k (by omega) hk
theorem seenFrom_append : ∀ (l m : List S44) (i : Nat), seenFrom i (l ++ m) = seenFrom i l ++ seenFrom (i + l.length) m
  | [], m, i => by simp [seenFrom]
  | x :: l, m, i => by
    have := seenFrom_append l m (i + 1)
    rw [List.cons_append, seenFrom, seenFrom, this, List.length_cons, show i + 1 + l.length = i + (l.length + 1) by omega]
    split <;> simp
theorem seenN_snoc (l : List S44) (i : Nat) (h : i < l.length) : seenN (l.take (i + 1)) = seenN (l.take i) ++ (if l[i].f3.length = 0 then [i] else []) := by
  unfold seenN
  rw [List.take_succ_eq_append_getElem h, seenFrom_append, Nat.zero_add, List.length_take, Nat.min_eq_left (by omega)]
  simp [seenFrom]
theorem refIndex_l0 (l : List S44) (hl : l.length ≤ 1000) (x y : Int) : ∀ (m i k : Nat), i + m = l.length → m < k →
    duetref12_Index.l0 k l ((seenN (l.take i)).length : Int) (i : Int) x y = some (behind l (fun e => e.f0.f0 == x && e.f0.f1 == y) i)
  | m, i, 0, _, hk => absurd hk (Nat.not_lt_zero _)
  | 0, i, k + 1, hm, _ => by
    unfold duetref12_Index.l0; rw [if_neg (by omega), behind_end _ _ _ (by omega)]
  | m + 1, i, k + 1, hm, hk => by
    have hb := seenN_len (l.take i)
    rw [List.length_take] at hb
    have hs := congrArg List.length (seenN_snoc l i (by omega))
    unfold duetref12_Index.l0
    rw [if_pos (by omega), if_pos (by omega), rdT l i (by omega), w1 i l.length (by omega) (by omega), behind_step l _ i (by omega)]
    by_cases h0 : l[i].f3.length = 0
    · rw [if_pos h0] at hs
      have e : wrap64 (((seenN (l.take i)).length : Int) + 1) = ((seenN (l.take (i + 1))).length : Int) := by
        rw [hs]; simp; unfold wrap64; omega
      rw [if_pos (by omega), e]
      by_cases h : (l[i].f0.f0 == x && l[i].f0.f1 == y) = true
      · rw [if_pos h, if_pos h]
      · rw [if_neg h, if_neg h]; exact refIndex_l0 l hl x y m (i + 1) k (by omega) (by omega)
    · rw [if_neg h0] at hs
      have e : ((seenN (l.take i)).length : Int) = ((seenN (l.take (i + 1))).length : Int) := by
        rw [hs]; simp
      rw [if_neg (by omega), e]
      by_cases h : (l[i].f0.f0 == x && l[i].f0.f1 == y) = true
      · rw [if_pos h, if_pos h]
      · rw [if_neg h, if_neg h]; exact refIndex_l0 l hl x y m (i + 1) k (by omega) (by omega)
theorem refIndex_f (k : Nat) (l : List S44) (hl : l.length ≤ 1000) (hk : l.length < k) (x y : Int) : duetref12_Index.f k l x y = some (indexL l x y) := by
  unfold duetref12_Index.f
  by_cases h : (x == 0 && y == 0) = true
  · rw [if_pos h]; unfold indexL; rw [if_pos h]
  · rw [if_neg h, indexL_behind l x y h]; exact refIndex_l0 l hl x y l.length 0 k (by omega) hk
/-- The elements between two places. -/
def idsL (l : List S44) : List S24 := (seenN l).map (idAt l)
def rangeL (l : List S44) (a b : Int) : List S24 × Int :=
  if a < 0 ∨ a > b ∨ b > ((seenN l).length : Int) then ([], 1) else (((idsL l).take b.toNat).drop a.toNat, 0)
theorem idsL_len (l : List S44) : (idsL l).length = (seenN l).length := by simp [idsL]
theorem eta24 (x : S24) : (⟨x.f0, x.f1⟩ : S24) = x := rfl
theorem range_l0 (l : List S44) (hl : l.length ≤ 1000) (s : List Nat) (hs : ∀ x ∈ s, x < l.length) (hn : s.length ≤ 1000) : ∀ (m i k : Nat) (a : List S24), i + m = s.length → m < k → a.length ≤ i →
    view_Range.l0 k l a (s.map fun i : Nat => (i : Int)) (s.length : Int) (i : Int) = some (a ++ (s.drop i).map (idAt l), 0)
  | m, i, 0, _, _, hk, _ => absurd hk (Nat.not_lt_zero _)
  | 0, i, k + 1, a, hm, _, _ => by
    unfold view_Range.l0; rw [if_neg (by omega), List.drop_of_length_le (by omega)]; simp
  | m + 1, i, k + 1, a, hm, hk, ha => by
    have hi : i < s.length := by omega
    have e : rd (s.map fun i : Nat => (i : Int)) (i : Int) = (s[i] : Int) := by rw [rdI _ _ (by simpa using hi)]; simp
    have := hs s[i] (List.getElem_mem hi)
    unfold view_Range.l0
    rw [if_pos (by omega), if_pos (by omega), if_pos (by simp; omega), e, if_pos (by omega), if_pos (by omega), if_pos (by omega), w1 i s.length (by omega) (by omega), rdId, eta24,
      range_l0 l hl s hs hn m (i + 1) k _ (by omega) (by omega) (by simp; omega), List.drop_eq_getElem_cons hi]
    rw [List.map_cons, List.append_assoc]; rfl
theorem Range_f (k : Nat) (l : List S44) (hl : l.length ≤ 1000) (hk : l.length + 1 < k) (a b : Int) : view_Range.f k l a b = some (rangeL l a b) := by
  obtain ⟨j, rfl⟩ : ∃ j, k = j + 1 := ⟨k - 1, by omega⟩
  have hn := seenN_len l
  have main : ∀ c, c = decide (a < 0 ∨ a > b ∨ b > ((seenN l).length : Int)) → view_Range.j0 (j + 1) l a b (seenL l) c = some (rangeL l a b) := by
    rintro c rfl
    rw [view_Range.j0]; unfold rangeL
    by_cases h : a < 0 ∨ a > b ∨ b > ((seenN l).length : Int)
    · rw [if_pos (by simpa using h), if_pos h]
    · have e : ((seenL l).take b.toNat).drop a.toNat = (((seenN l).take b.toNat).drop a.toNat).map fun i : Nat => (i : Int) := by rw [seenL_eq, List.map_drop, List.map_take]
      rw [if_neg (by simpa using h), if_neg h, if_pos (by omega), if_pos (by omega), if_pos (by rw [seenL_len]; omega), Option.bind_some, e, List.length_map]
      have := range_l0 l hl (((seenN l).take b.toNat).drop a.toNat) (fun x hx => seenN_lt l x (List.mem_of_mem_take (List.mem_of_mem_drop hx))) (by simp; omega) _ 0 j [] (Nat.zero_add _) (by simp; omega) (Nat.zero_le _)
      rw [show ((0 : Nat) : Int) = 0 from rfl] at this
      rw [this]
      simp [idsL, List.map_drop, List.map_take]
  unfold view_Range.f
  rw [Seen_f l hl, Option.bind_some]
  by_cases h : a < 0
  · rw [if_pos h]; exact main _ (decide_eq_true (.inl h)).symm
  · rw [if_neg h]
    by_cases h1 : a > b
    · rw [if_pos h1]; exact main _ (decide_eq_true (.inr (.inl h1))).symm
    · rw [if_neg h1]; exact main _ (by simp [h, h1, seenL_len])
theorem refRange_l0 (l : List S44) (hl : l.length ≤ 1000) (b : Nat) (hb : b ≤ (seenN l).length) : ∀ (m i k : Nat) (a : List S24), i + m = b → m < k → a.length ≤ i →
    duetref12_Range.l0 k l (b : Int) (seenL l) a (i : Int) = some (a ++ ((idsL l).take b).drop i, 0)
  | m, i, 0, _, _, hk, _ => absurd hk (Nat.not_lt_zero _)
  | 0, i, k + 1, a, hm, _, _ => by
    unfold duetref12_Range.l0; rw [if_neg (by omega), List.drop_of_length_le (by simp; omega)]; simp
  | m + 1, i, k + 1, a, hm, hk, ha => by
    have hn := seenN_len l
    have hi : i < (seenN l).length := by omega
    have e : rd (seenL l) (i : Int) = ((seenN l)[i] : Int) := by rw [rdI _ _ (by rw [seenL_len]; exact hi)]; simp [seenL_eq]
    have := seenN_lt l _ (List.getElem_mem hi)
    unfold duetref12_Range.l0
    rw [if_pos (by omega), if_pos (by omega), if_pos (by rw [seenL_len]; omega), e, if_pos (by omega), if_pos (by omega), if_pos (by omega), w1 i (seenN l).length (by omega) (by omega), rdId, eta24,
      refRange_l0 l hl b hb m (i + 1) k _ (by omega) (by omega) (by simp; omega), List.drop_eq_getElem_cons (show i < ((idsL l).take b).length by simp [idsL_len]; omega)]
    simp [idsL]
theorem refRange_f (k : Nat) (l : List S44) (hl : l.length ≤ 1000) (hk : l.length + 1 < k) (a b : Int) : duetref12_Range.f k l a b = some (rangeL l a b) := by
  obtain ⟨j, rfl⟩ : ∃ j, k = j + 1 := ⟨k - 1, by omega⟩
  have hn := seenN_len l
  have main : ∀ c, c = decide (a < 0 ∨ a > b ∨ b > ((seenN l).length : Int)) → duetref12_Range.j0 (j + 1) l a b (seenL l) c = some (rangeL l a b) := by
    rintro c rfl
    rw [duetref12_Range.j0]; unfold rangeL
    by_cases h : a < 0 ∨ a > b ∨ b > ((seenN l).length : Int)
    · rw [if_pos (by simpa using h), if_pos h]
    · rw [if_neg (by simpa using h), if_neg h]
      have := refRange_l0 l hl b.toNat (by omega) (b.toNat - a.toNat) a.toNat j [] (by omega) (by omega) (Nat.zero_le _)
      rw [show ((b.toNat : Nat) : Int) = b by omega, show ((a.toNat : Nat) : Int) = a by omega] at this
      exact this
  unfold duetref12_Range.f
  rw [refSeen_f _ l hl (by omega), Option.bind_some]
  by_cases h : a < 0
  · rw [if_pos h]; exact main _ (decide_eq_true (.inl h)).symm
  · rw [if_neg h]
    by_cases h1 : b > ((seenL l).length : Int)
    · rw [if_pos h1]; exact main _ (decide_eq_true (.inr (.inr (by rw [← seenL_len]; exact h1)))).symm
    · rw [if_neg h1]; exact main _ (by rw [seenL_len] at h1; simp [h, h1])
end Go.Proofs.Ytpclgafcldmchaa.Lem

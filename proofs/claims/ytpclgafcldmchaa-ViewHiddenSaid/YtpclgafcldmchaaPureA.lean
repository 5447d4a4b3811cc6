/- The laws of the view: what the printed laws answer (ViewAnswers, ViewBack, ViewHalves, ViewOne). -/
import Derived.Test.YtpclgafcldmchaaLem2
set_option linter.unusedVariables false
set_option linter.unusedSimpArgs false
namespace Go.Proofs.Ytpclgafcldmchaa.Pure
open Go.RowKit Go.Proofs.Ytpclgafcldmchaa.P Go.Proofs.Ytpclgafcldmchaa.It Go.Proofs.Ytpclgafcldmchaa.Giv Go.Proofs.Ytpclgafcldmchaa.Lem Go.Proofs.YtpclgafcldmchaaW.PrintWords Go.Proofs.YtpclgafcldmchaaW.PrintLast Go.Proofs.YtpclgafcldmchaaW.PrintMore
theorem rangeL_len (l : List S44) (a b : Int) : (rangeL l a b).1.length ≤ l.length := by
  have := seenN_len l
  unfold rangeL
  split
  · exact Nat.zero_le _
  · simp [idsL_len]; omega
theorem ViewAnswers (l : List S44) (i x y b2 : Int) : duetlaw12_ViewAnswers.f 100 l i x y b2 = some true := by
  obtain ⟨b, hb, hl⟩ := Few_f 100 (by decide) l
  unfold duetlaw12_ViewAnswers.f
  rw [hb, Option.bind_some]
  cases b with
  | false => rw [if_neg (by decide), live_f _ (by decide)]; rfl
  | true =>
    have hl := hl rfl
    have hn := seenN_len l
    have hr := rangeL_len l i b2
    rw [if_pos rfl, Ref_f _ (by decide) l (by omega), Option.bind_some, refRef_f _ l (by omega) (by omega), Option.bind_some, Index_f _ l (by omega) (by omega), Option.bind_some,
      refIndex_f _ l (by omega) (by omega), Option.bind_some, Range_f _ l (by omega) (by omega), Option.bind_some, refRange_f _ l (by omega) (by omega), Option.bind_some,
      Seen_f l (by omega), Option.bind_some, refSeen_f _ l (by omega) (by omega), Option.bind_some, Same_f _ _ _ (by rw [seenL_len]; omega) (by rw [seenL_len]; omega), Option.bind_some,
      if_pos (by simp), Text_f l (by omega), Option.bind_some, refText_f _ l (by omega) (by omega), Option.bind_some, if_pos rfl, if_pos (by simp), if_pos rfl, if_pos rfl, if_pos rfl,
      SameU_f _ _ (by omega) (by omega), Option.bind_some, if_pos rfl, if_pos rfl, live_f _ (by decide)]
    rfl
/-! ### Index of Ref -/
def idE (l : List S44) (i : Nat) : Int × Int := ((l.getD i z44).f0.f0, (l.getD i z44).f0.f1)
structure Once (l : List S44) : Prop where
  nz : ∀ i, i < l.length → idE l i ≠ (0, 0)
  ne : ∀ j i, j < i → i < l.length → idE l j ≠ idE l i
theorem getDe (l : List S44) (i : Nat) (h : i < l.length) : l.getD i z44 = l[i] := by rw [List.getD_eq_getElem?_getD, List.getElem?_eq_getElem h]; rfl
theorem idE_get (l : List S44) (i : Nat) (h : i < l.length) : idE l i = (l[i].f0.f0, l[i].f0.f1) := by unfold idE; rw [getDe l i h]
theorem index_of (l : List S44) (ho : Once l) (i : Nat) (h : i < l.length) : indexL l (idE l i).1 (idE l i).2 = (((seenN (l.take (i + 1))).length : Int), 0) := by
  have hz : ¬ ((idE l i).1 == 0 && (idE l i).2 == 0) = true := by
    intro e
    simp at e
    exact ho.nz i h (Prod.ext e.1 e.2)
  rw [indexL_behind l _ _ hz]
  have go : ∀ m j, j + m = i → behind l (fun e => e.f0.f0 == (idE l i).1 && e.f0.f1 == (idE l i).2) j = (((seenN (l.take (i + 1))).length : Int), 0) := by
    intro m
    induction m with
    | zero =>
      intro j hj
      obtain rfl : j = i := by omega
      rw [behind_step l _ j h, if_pos (by rw [idE_get l j h]; simp)]
    | succ m ih =>
      intro j hj
      rw [behind_step l _ j (by omega), if_neg (by
        intro e
        simp at e
        exact ho.ne j i (by omega) h (by rw [idE_get l j (by omega)]; exact Prod.ext e.1 e.2))]
      exact ih (j + 1) (by omega)
  exact go i 0 (by omega)
/-- As many are seen ahead of the n-th one that is seen. -/
theorem seen_rank : ∀ (l : List S44) (i n : Nat), n < (seenFrom i l).length → (seenFrom i (l.take ((seenFrom i l).getD n 0 - i + 1))).length = n + 1
  | [], i, n, h => by simp [seenFrom] at h
  | x :: l, i, n, h => by
    by_cases hx : x.f3.length = 0
    · have e0 : ∀ m : List S44, seenFrom i (x :: m) = i :: seenFrom (i + 1) m := fun m => by rw [seenFrom, if_pos hx]
      rw [e0] at h
      cases n with
      | zero => rw [e0, List.getD_cons_zero, Nat.sub_self, List.take_succ_cons, List.take_zero, e0]; rfl
      | succ n =>
        have hlt : n < (seenFrom (i + 1) l).length := by simpa using h
        have ih := seen_rank l (i + 1) n hlt
        have hb2 := seenFrom_bound l (i + 1) ((seenFrom (i + 1) l).getD n 0) (by rw [List.getD_eq_getElem?_getD, List.getElem?_eq_getElem hlt]; exact List.getElem_mem hlt)
        rw [e0, List.getD_cons_succ, show (seenFrom (i + 1) l).getD n 0 - i + 1 = ((seenFrom (i + 1) l).getD n 0 - (i + 1) + 1) + 1 by omega, List.take_succ_cons, e0, List.length_cons, ih]
    · have e0 : ∀ m : List S44, seenFrom i (x :: m) = seenFrom (i + 1) m := fun m => by rw [seenFrom, if_neg hx]
      rw [e0] at h
      have ih := seen_rank l (i + 1) n h
      have hb2 := seenFrom_bound l (i + 1) ((seenFrom (i + 1) l).getD n 0) (by rw [List.getD_eq_getElem?_getD, List.getElem?_eq_getElem h]; exact List.getElem_mem h)
      rw [e0, show (seenFrom (i + 1) l).getD n 0 - i + 1 = ((seenFrom (i + 1) l).getD n 0 - (i + 1) + 1) + 1 by omega, List.take_succ_cons, e0, ih]
theorem back_l2 (l : List S44) (hl : l.length ≤ 60) (ho : Once l) : ∀ (m i k : Nat), i + m = l.length → m + 71 ≤ k → duetlaw12_ViewBack.l2 k l (i : Int) = some true
  | m, i, 0, _, hk => absurd hk (by omega)
  | 0, i, k + 1, hm, hk => by
    unfold duetlaw12_ViewBack.l2; rw [if_neg (by omega), live_f _ (by omega)]; rfl
  | m + 1, i, k + 1, hm, hk => by
    have hi : i < l.length := by omega
    have e := index_of l ho i hi
    unfold idE at e
    unfold duetlaw12_ViewBack.l2
    have e1 : (rd_T44 l (i : Int)) = l.getD i z44 := by unfold rd_T44; rw [Int.toNat_natCast]
    rw [if_pos (by omega), if_pos (by omega), e1, Index_f _ l (by omega) (by omega), Option.bind_some, e, if_pos rfl, w1 i l.length hi (by omega), if_pos (by omega), if_pos (by omega), Int.toNat_natCast,
      Seen_f _ (by rw [List.length_take]; omega), Option.bind_some, seenL_len, if_pos rfl]
    exact back_l2 l hl ho m (i + 1) k (by omega) (by omega)
theorem back_end (l : List S44) (hl : l.length ≤ 60) (ho : Once l) (a : Int) (k : Nat) (hk : 140 ≤ k) :
    ((view_Ref.f k l a).bind fun bt271 => (if bt271.2.2 = 0 then ((view_Index.f k l bt271.1 bt271.2.1).bind fun bt280 => (if bt280.2 = 0 then (duetlaw12_ViewBack.j2 k l (bt280.1 != a)) else (duetlaw12_ViewBack.j2 k l true))) else (if a < 0 then ((duetlaw12_live.f k).bind fun t275 => (some t275)) else ((view_Seen.f l).bind fun t276 => (if a > (t276.length : Int) then ((duetlaw12_live.f k).bind fun t279 => (some t279)) else (some false)))))) = some true := by
  have hn := seenN_len l
  obtain ⟨j, rfl⟩ : ∃ j, k = j + 1 := ⟨k - 1, by omega⟩
  have last : duetlaw12_ViewBack.j2 (j + 1) l false = some true := by
    rw [duetlaw12_ViewBack.j2, if_neg (by decide)]
    exact back_l2 l hl ho l.length 0 j (by omega) (by omega)
  rw [Ref_f _ (by omega) l (by omega), Option.bind_some]
  unfold refL
  by_cases h : a < 0 ∨ a > ((seenN l).length : Int)
  · rw [if_pos h, if_neg (by decide), live_f _ (by omega)]
    by_cases h0 : a < 0
    · rw [if_pos h0]; rfl
    · rw [if_neg h0, Seen_f l (by omega), Option.bind_some, if_pos (by rw [seenL_len]; omega)]; rfl
  · rw [if_neg h]
    by_cases h0 : a = 0
    · subst h0
      rw [if_pos rfl, if_pos rfl, Index_f _ l (by omega) (by omega), Option.bind_some]
      show (if (indexL l 0 0).2 = 0 then _ else _) = _
      rw [show indexL l 0 0 = (0, 0) by unfold indexL; rw [if_pos (by decide)], if_pos rfl]
      exact last
    · obtain ⟨_, _, hlt⟩ := ref_mid l (by omega) a (by omega) (by omega)
      rw [if_neg h0]
      have hr := seen_rank l 0 (a.toNat - 1) (by have : (seenFrom 0 l).length = (seenN l).length := rfl
                                                 omega)
      have hx := index_of l ho _ hlt
      rw [if_pos rfl, Index_f _ l (by omega) (by omega), Option.bind_some]
      have hx' : indexL l (idAt l ((seenN l).getD (a.toNat - 1) 0)).f0 (idAt l ((seenN l).getD (a.toNat - 1) 0)).f1 = _ := hx
      have hc : (seenN (l.take ((seenN l).getD (a.toNat - 1) 0 + 1))).length = a.toNat - 1 + 1 := hr
      rw [hx', if_pos rfl, hc]
      have : ((((a.toNat - 1 + 1 : Nat) : Int)) != a) = false := by
        rw [bne_eq_false_iff_eq]; omega
      show duetlaw12_ViewBack.j2 _ l ((((a.toNat - 1 + 1 : Nat) : Int)) != a) = _
      rw [this]
      exact last
/-- What the two loops have seen. -/
structure Upto (l : List S44) (i : Nat) : Prop where
  nz : ∀ j, j < i → idE l j ≠ (0, 0)
  ne : ∀ j k, j < k → k < i → idE l j ≠ idE l k
mutual
theorem back_l0 (l : List S44) (hl : l.length ≤ 60) (a : Int) : ∀ (m i k : Nat), i + m = l.length → Upto l i → m * 70 + 141 ≤ k → duetlaw12_ViewBack.l0 k l a (i : Int) = some true
  | m, i, 0, _, _, hk => absurd hk (by omega)
  | 0, i, k + 1, hm, hu, hk => by
    unfold duetlaw12_ViewBack.l0
    rw [if_neg (by omega)]
    exact back_end l hl ⟨fun j hj => hu.nz j (by omega), fun j i h h' => hu.ne j i h (by omega)⟩ a k (by omega)
  | m + 1, i, k + 1, hm, hu, hk => by
    unfold duetlaw12_ViewBack.l0
    rw [if_pos (by omega)]
    exact back_l1 l hl a m i hm hu i 0 k (by omega) (fun j hj => absurd hj (Nat.not_lt_zero _)) (by omega)
theorem back_l1 (l : List S44) (hl : l.length ≤ 60) (a : Int) (m i : Nat) (hm : i + (m + 1) = l.length) (hu : Upto l i) : ∀ (d j k : Nat), j + d = i → (∀ x, x < j → idE l x ≠ idE l i) → m * 70 + d + 150 ≤ k → duetlaw12_ViewBack.l1 k l a (i : Int) (j : Int) = some true
  | d, j, 0, _, _, hk => absurd hk (by omega)
  | 0, j, k + 1, hd, hj, hk => by
    have e1 : (rd_T44 l (i : Int)) = l.getD i z44 := by unfold rd_T44; rw [Int.toNat_natCast]
    unfold duetlaw12_ViewBack.l1
    rw [if_neg (by omega), if_pos (by omega), if_pos (by omega), e1]
    by_cases h : ((l.getD i z44).f0.f0 == 0 && (l.getD i z44).f0.f1 == 0) = true
    · rw [if_pos h, live_f _ (by omega)]; rfl
    · rw [if_neg h, w1 i l.length (by omega) (by omega)]
      refine back_l0 l hl a m (i + 1) k (by omega) ⟨fun x hx => ?_, fun x y hxy hy => ?_⟩ (by omega)
      · by_cases hxi : x < i
        · exact hu.nz x hxi
        · obtain rfl : x = i := by omega
          intro e
          apply h
          unfold idE at e
          injection e with e1 e2
          rw [e1, e2]; rfl
      · by_cases hyi : y < i
        · exact hu.ne x y hxy hyi
        · obtain rfl : y = i := by omega
          exact hj x (by omega)
  | d + 1, j, k + 1, hd, hj, hk => by
    have e1 : (rd_T44 l (i : Int)) = l.getD i z44 := by unfold rd_T44; rw [Int.toNat_natCast]
    have e2 : (rd_T44 l (j : Int)) = l.getD j z44 := by unfold rd_T44; rw [Int.toNat_natCast]
    unfold duetlaw12_ViewBack.l1
    rw [if_pos (by omega), if_pos (by omega), if_pos (by omega), if_pos (by omega), if_pos (by omega), e1, e2]
    by_cases h : ((l.getD j z44).f0.f0 == (l.getD i z44).f0.f0 && (l.getD j z44).f0.f1 == (l.getD i z44).f0.f1) = true
    · rw [if_pos h, live_f _ (by omega)]; rfl
    · rw [if_neg h, w1 j l.length (by omega) (by omega)]
      refine back_l1 l hl a m i hm hu d (j + 1) k (by omega) (fun x hx => ?_) (by omega)
      by_cases hxj : x < j
      · exact hj x hxj
      · obtain rfl : x = j := by omega
        intro e
        apply h
        unfold idE at e
        injection e with e1 e2
        rw [e1, e2]; simp
end
theorem ViewBack (l : List S44) (a : Int) : duetlaw12_ViewBack.f 5000 l a = some true := by
  obtain ⟨b, hb, hl⟩ := Few_f 5000 (by decide) l
  unfold duetlaw12_ViewBack.f
  rw [hb, Option.bind_some]
  cases b with
  | false => rw [if_neg (by decide), live_f _ (by decide)]; rfl
  | true =>
    have hl := hl rfl
    rw [if_pos rfl]
    exact back_l0 l hl a l.length 0 5000 (by omega) ⟨fun j hj => absurd hj (Nat.not_lt_zero _), fun _ k _ hk => absurd hk (Nat.not_lt_zero _)⟩ (by omega)
end Go.Proofs.Ytpclgafcldmchaa.Pure

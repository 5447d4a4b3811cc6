/- The laws of the identities over plain lists: IdentLess, IdentOrders, IdentRanks. -/
import Derived.Test.YtoaaekgpabnneaaPx3
import Derived.Test.YtoaaekgpabnneaaPx6
import Derived.Test.YtoaaekgpabnneaaPx7
set_option linter.unusedVariables false
set_option linter.unusedSimpArgs false
namespace Go.Proofs.Ytoaaekgpabnneaa.Pure
open Go.RowKit Go.Proofs.Ytoaaekgpabnneaa.P Go.Proofs.Ytoaaekgpabnneaa.Giv Go.Proofs.Ytoaaekgpabnneaa.Rnk Go.Proofs.Ytoaaekgpabnneaa.Odr Go.Proofs.Ytoaaekgpabnneaa.Cpt Go.Proofs.Ytoaaekgpabnneaa.Cmp Go.Proofs.YtoaaekgpabnneaaW.PrintWords
theorem comp_f (x y : Int) : cmp_Compare_int.f x y = some (cmp3 x y) := by
  unfold cmp_Compare_int.f cmp_isNaN_int.f cmp3
  simp
  split
  · rfl
  · split <;> rfl
theorem or_f (k : Nat) (x y : Int) : cmp_Or_int.f (k + 3) [x, y] = some (or2 x y) := by
  unfold cmp_Or_int.f or2
  by_cases h1 : x = 0
  · subst h1
    by_cases h2 : y = 0
    · subst h2; simp [cmp_Or_int.l0, rd, wrap64]
    · simp [cmp_Or_int.l0, rd, wrap64, h2]
  · simp [cmp_Or_int.l0, rd, wrap64, h1]
theorem less_f (k : Nat) (a0 a1 b0 b1 : Int) : ident_Less.f (k + 3) a0 a1 b0 b1 = some (ltI ⟨a0, a1⟩ ⟨b0, b1⟩) := by
  unfold ident_Less.f ident_order.f
  rw [comp_f, comp_f]
  simp only [Option.bind_some]
  rw [or_f]
  simp only [Option.bind_some]
  exact congrArg some (ord_neg ⟨a0, a1⟩ ⟨b0, b1⟩)
theorem rless_f (a0 a1 b0 b1 : Int) : duetref10_Less.f a0 a1 b0 b1 = some (ltI ⟨a0, a1⟩ ⟨b0, b1⟩) := by
  unfold duetref10_Less.f ltI
  by_cases h : a0 < b0
  · simp [h]
  · by_cases h2 : a0 = b0 <;> simp [h, h2]
theorem check_f (a b : Int) : ident_Check.f a b = duetref10_Check.f a b := by
  unfold ident_Check.f duetref10_Check.f
  by_cases h : b ≥ 16
  · rw [if_pos h, if_pos (show b > 15 by omega)]
  · rw [if_neg h, if_neg (show ¬ b > 15 by omega)]
theorem check_some (a b : Int) : ∃ c, ident_Check.f a b = some c := by
  unfold ident_Check.f
  repeat (first | exact ⟨_, rfl⟩ | split)
theorem eq_bool (a0 a1 b0 b1 : Int) : (a0 == b0 && (a1 == b1)) = decide ((⟨a0, a1⟩ : S23) = ⟨b0, b1⟩) := by
  rw [Bool.eq_iff_iff]; simp
theorem IdentLess (a0 a1 b0 b1 c0 c1 : Int) : duetlaw10_IdentLess.f 10 a0 a1 b0 b1 c0 c1 = some true := by
  unfold duetlaw10_IdentLess.f
  rw [less_f 7, less_f 7, rless_f]
  simp only [Option.bind_some, bne_self_eq_false]
  rw [check_f]
  obtain ⟨c, hc⟩ := check_some a0 a1
  rw [check_f] at hc
  rw [hc]
  simp only [Option.bind_some, if_true, Bool.false_eq_true, if_false]
  rw [eq_bool]
  have fin : ∀ q, q = false → duetlaw10_IdentLess.j0 10 (ltI ⟨a0, a1⟩ ⟨b0, b1⟩) q a0 a1 b0 b1 c0 c1 = some true := by
    rintro q rfl
    simp only [duetlaw10_IdentLess.j0, less_f 6, duetlaw10_live.f, Option.bind_some, Bool.false_eq_true, if_false]
    cases h1 : ltI ⟨a0, a1⟩ ⟨b0, b1⟩ with
    | false => rfl
    | true =>
      simp only [if_true]
      cases h2 : ltI ⟨b0, b1⟩ ⟨c0, c1⟩ with
      | false => rfl
      | true =>
        rw [strict.tr _ _ _ h1 h2]; rfl
  cases h1 : ltI ⟨a0, a1⟩ ⟨b0, b1⟩ with
  | true =>
    have h2 : ltI ⟨b0, b1⟩ ⟨a0, a1⟩ = false := by
      cases h2 : ltI ⟨b0, b1⟩ ⟨a0, a1⟩ with
      | false => rfl
      | true => have := strict.tr _ _ _ h1 h2; rw [strict.irr] at this; cases this
    rw [h1] at fin
    simp only [h2, if_true, Bool.false_eq_true, if_false]
    apply fin
    have : (⟨a0, a1⟩ : S23) ≠ ⟨b0, b1⟩ := by intro e; rw [e, strict.irr] at h1; cases h1
    simp [this]
  | false =>
    rw [h1] at fin
    simp only [Bool.false_eq_true, if_false]
    apply fin
    cases h2 : ltI ⟨b0, b1⟩ ⟨a0, a1⟩ with
    | true =>
      have : (⟨a0, a1⟩ : S23) ≠ ⟨b0, b1⟩ := by intro e; rw [e, strict.irr] at h2; cases h2
      simp [this]
    | false =>
      have := strict.tri _ _ h1 h2
      simp [this]
theorem rd_at (l : List S23) (i : Nat) (h : i < l.length) : rd_T23 l (i : Int) = l[i] := by unfold rd_T23; rw [Int.toNat_natCast, List.getD_eq_getElem?_getD, List.getElem?_eq_getElem h]; rfl
theorem w1 {i : Nat} (h : i < 1000) : wrap64 ((i : Int) + 1) = ((i + 1 : Nat) : Int) := by unfold wrap64; omega
theorem same_l (l : List S23) (hl : l.length < 1000) : ∀ d k i, i + d = l.length → d < k → duetref10_Same.l0 k l l (i : Int) = some true
  | 0, k, i, e, hk => by
    obtain ⟨k, rfl⟩ : ∃ m, k = m + 1 := ⟨k - 1, by omega⟩
    simp only [duetref10_Same.l0]
    rw [if_neg (by omega)]
  | d + 1, k, i, e, hk => by
    obtain ⟨k, rfl⟩ : ∃ m, k = m + 1 := ⟨k - 1, by omega⟩
    simp only [duetref10_Same.l0]
    rw [if_pos (by omega), if_pos (by omega), if_pos (by omega)]
    simp only [beq_self_eq_true, Bool.not_true, Bool.or_self, Bool.false_eq_true, if_false]
    rw [w1 (by omega)]
    exact same_l l hl d k (i + 1) (by omega) (by omega)
theorem same_f (l : List S23) (hl : l.length < 1000) (k : Nat) (hk : l.length < k) : duetref10_Same.f k l l = some true := by
  unfold duetref10_Same.f
  rw [if_pos rfl]
  exact same_l l hl l.length k 0 (by omega) hk
theorem rank_l (l : List S23) (hl : l.length < 1000) (x0 x1 : Int) : ∀ d k i n b, i + d = l.length → n ≤ i → d < k →
    duetref10_Rank.l0 k l (n : Nat) b (i : Nat) x0 x1 = some (((n + (l.drop i).countP fun y => ltI y ⟨x0, x1⟩ : Nat) : Int), b || decide ((⟨x0, x1⟩ : S23) ∈ l.drop i))
  | 0, k, i, n, b, e, hn, hk => by
    obtain ⟨k, rfl⟩ : ∃ m, k = m + 1 := ⟨k - 1, by omega⟩
    simp only [duetref10_Rank.l0]
    rw [if_neg (by omega), List.drop_eq_nil_of_le (by omega)]
    simp
  | d + 1, k, i, n, b, e, hn, hk => by
    obtain ⟨k, rfl⟩ : ∃ m, k = m + 1 := ⟨k - 1, by omega⟩
    simp only [duetref10_Rank.l0]
    have hi : i < l.length := by omega
    rw [if_pos (by omega), if_pos (by omega), rd_at l i hi, rless_f]
    simp only [Option.bind_some]
    rw [w1 (by omega), w1 (by omega), eq_bool]
    have h1 := rank_l l hl x0 x1 d k (i + 1) (n + 1) true (by omega) (by omega) (by omega)
    have h2 := rank_l l hl x0 x1 d k (i + 1) (n + 1) (decide ((⟨l[i].f0, l[i].f1⟩ : S23) = ⟨x0, x1⟩)) (by omega) (by omega) (by omega)
    have h3 := rank_l l hl x0 x1 d k (i + 1) n true (by omega) (by omega) (by omega)
    have h4 := rank_l l hl x0 x1 d k (i + 1) n (decide ((⟨l[i].f0, l[i].f1⟩ : S23) = ⟨x0, x1⟩)) (by omega) (by omega) (by omega)
    rw [h1, h2, h3, h4]
    rw [List.drop_eq_getElem_cons hi, List.countP_cons]
    have e1 : decide ((⟨x0, x1⟩ : S23) ∈ l[i] :: l.drop (i + 1)) = (decide ((⟨l[i].f0, l[i].f1⟩ : S23) = ⟨x0, x1⟩) || decide ((⟨x0, x1⟩ : S23) ∈ l.drop (i + 1))) := by
      rw [Bool.eq_iff_iff]
      simp only [List.mem_cons, Bool.or_eq_true, decide_eq_true_eq]
      constructor
      · rintro (h | h)
        · exact .inl h.symm
        · exact .inr h
      · rintro (h | h)
        · exact .inl h.symm
        · exact .inr h
    rw [e1]
    show (if ltI l[i] ⟨x0, x1⟩ = true then _ else _) = _
    cases hx : ltI l[i] ⟨x0, x1⟩ with
    | true =>
      simp only [if_true]
      cases b with
      | true => simp only [if_true, Bool.true_or]; rw [show n + 1 + (l.drop (i + 1)).countP (fun y => ltI y ⟨x0, x1⟩) = n + ((l.drop (i + 1)).countP (fun y => ltI y ⟨x0, x1⟩) + 1) by omega]
      | false => simp only [Bool.false_eq_true, if_false, Bool.false_or]; rw [show n + 1 + (l.drop (i + 1)).countP (fun y => ltI y ⟨x0, x1⟩) = n + ((l.drop (i + 1)).countP (fun y => ltI y ⟨x0, x1⟩) + 1) by omega]
    | false =>
      simp only [Bool.false_eq_true, if_false]
      cases b with
      | true => simp only [if_true, Bool.true_or, Nat.add_zero]
      | false => simp only [Bool.false_eq_true, if_false, Bool.false_or, Nat.add_zero]
theorem rank_f (l : List S23) (hl : l.length < 1000) (x0 x1 : Int) (k : Nat) (hk : l.length < k) : duetref10_Rank.f k l x0 x1 = some (((rankI l ⟨x0, x1⟩ : Nat) : Int), decide ((⟨x0, x1⟩ : S23) ∈ l)) := by
  unfold duetref10_Rank.f
  have := rank_l l hl x0 x1 l.length k 0 0 false (by omega) (Nat.le_refl _) hk
  simpa [rankI] using this
theorem lt_of_not {x y : S23} (h : ltI x y = false) (hne : x ≠ y) : ltI y x = true := by
  cases h2 : ltI y x with
  | true => rfl
  | false => exact absurd (strict.tri x y h h2) hne
/-- One more, put in. -/
theorem put_in (l out : List S23) (x : S23) (at_ : Nat) (hr : Ord.Rising ltI out) (hm : ∀ y, y ∈ out ↔ y ∈ l) (h1 : at_ ≤ out.length) (hlo : ∀ t (h : t < out.length), t < at_ → ltI out[t] x = true) (hhi : ∀ t (h : t < out.length), at_ ≤ t → ltI x out[t] = true) :
    Ord.orderL ltI (l ++ [x]) = out.take at_ ++ [x] ++ out.drop at_ := by
  refine Ord.order_of strict _ _ ?_ ?_
  · unfold Ord.Rising
    rw [List.append_assoc, List.pairwise_append]
    have hr' : (out.take at_ ++ out.drop at_).Pairwise (fun a b => ltI a b = true) := by rw [List.take_append_drop]; exact hr
    rw [List.pairwise_append] at hr'
    refine ⟨hr'.1, ?_, ?_⟩
    · rw [List.singleton_append, List.pairwise_cons]
      refine ⟨fun y hy => ?_, hr'.2.1⟩
      obtain ⟨t, ht, rfl⟩ := List.getElem_of_mem hy
      rw [List.getElem_drop]
      exact hhi (at_ + t) (by simp at ht; omega) (by omega)
    · intro a ha b hb
      rcases List.mem_append.1 hb with hb | hb
      · obtain rfl := List.mem_singleton.1 hb
        obtain ⟨t, ht, rfl⟩ := List.getElem_of_mem ha
        rw [List.getElem_take]
        exact hlo t (by simp at ht; omega) (by simp at ht; omega)
      · exact hr'.2.2 a ha b hb
  · intro y
    have : y ∈ out ↔ y ∈ out.take at_ ∨ y ∈ out.drop at_ := by conv => lhs; rw [← List.take_append_drop at_ out]; rw [List.mem_append]
    rw [List.mem_append, List.mem_append, List.mem_append, ← hm, this]
    constructor
    · rintro ((h | h) | h)
      · exact .inl (.inl h)
      · exact .inr h
      · exact .inl (.inr h)
    · rintro ((h | h) | h)
      · exact .inl (.inl h)
      · exact .inr h
      · exact .inl (.inr h)
theorem ord_len (l : List S23) : (Ord.orderL ltI l).length ≤ l.length := by
  have := compact_le (Ord.sorted ltI l)
  have h : (Ord.sorted ltI l).length = l.length := List.length_mergeSort l
  unfold Ord.orderL; omega
theorem order_in (l : List S23) (hl : l.length ≤ 100) (i : Nat) (hi : i < l.length) (K : Nat) (res : Option (List S23))
    (H : ∀ k, K < k → duetref10_Order.l0 k l (Ord.orderL ltI (l.take (i + 1))) ((i + 1 : Nat) : Int) = res) :
    ∀ d k at_, at_ + d = (Ord.orderL ltI (l.take i)).length → (∀ t (h : t < (Ord.orderL ltI (l.take i)).length), t < at_ → ltI (Ord.orderL ltI (l.take i))[t] l[i] = true) → K + d + 1 < k → duetref10_Order.l1 k l (Ord.orderL ltI (l.take i)) (i : Nat) (at_ : Nat) = res := by
  have hr := Ord.order_rising strict (l.take i)
  have hm := Ord.order_mem strict (l.take i)
  have hlen := ord_len (l.take i)
  rw [List.length_take] at hlen
  rw [List.take_succ_eq_append_getElem hi] at H
  generalize Ord.orderL ltI (l.take i) = out at hr hm hlen ⊢
  intro d
  induction d with
  | zero =>
    intro k at_ e hlo hk
    obtain ⟨k, rfl⟩ : ∃ m, k = m + 1 := ⟨k - 1, by omega⟩
    simp only [duetref10_Order.l1]
    rw [if_neg (by omega), if_pos (by omega), if_pos (by omega)]
    simp only [Option.bind_some, Int.toNat_natCast]
    rw [if_pos (by simp; omega), if_pos (by omega), if_pos (by omega), if_pos (by simp; omega), if_pos (by simp; omega), rd_at l i hi, w1 (by omega)]
    have := put_in (l.take i) out l[i] at_ hr hm (by omega) hlo (fun t h h2 => by omega)
    rw [this] at H
    simpa using H k (by omega)
  | succ d ih =>
    intro k at_ e hlo hk
    obtain ⟨k, rfl⟩ : ∃ m, k = m + 1 := ⟨k - 1, by omega⟩
    have ha : at_ < out.length := by omega
    simp only [duetref10_Order.l1]
    rw [if_pos (by omega), if_pos (by omega), if_pos (by omega), if_pos (by omega), rd_at out at_ ha, rd_at l i hi, rless_f]
    simp only [Option.bind_some, Int.toNat_natCast]
    show (if ltI out[at_] l[i] = true then _ else _) = _
    cases hx : ltI out[at_] l[i] with
    | true =>
      simp only [if_true]
      rw [w1 (by omega)]
      refine ih k (at_ + 1) (by omega) (fun t h h2 => ?_) (by omega)
      rcases Nat.lt_or_ge t at_ with h3 | h3
      · exact hlo t h h3
      · obtain rfl : t = at_ := by omega
        exact hx
    | false =>
      simp only [Bool.false_eq_true, if_false]
      rw [eq_bool]
      by_cases he : out[at_] = l[i]
      · have hd : decide ((⟨out[at_].f0, out[at_].f1⟩ : S23) = ⟨l[i].f0, l[i].f1⟩) = true := by rw [decide_eq_true_eq]; exact he
        rw [hd]
        simp only [if_true]
        rw [w1 (by omega)]
        have : Ord.orderL ltI (l.take i ++ [l[i]]) = out := Ord.order_of strict _ _ hr (fun y => by
          rw [List.mem_append, ← hm]
          constructor
          · exact .inl
          · rintro (h | h)
            · exact h
            · rw [List.mem_singleton.1 h, ← he]; exact List.getElem_mem ha)
        rw [this] at H
        exact H k (by omega)
      · have hd : decide ((⟨out[at_].f0, out[at_].f1⟩ : S23) = ⟨l[i].f0, l[i].f1⟩) = false := by rw [decide_eq_false_iff_not]; exact he
        rw [hd]
        simp only [Bool.false_eq_true, if_false]
        rw [if_pos (by omega)]
        rw [if_pos (by simp; omega), if_pos (by simp; omega), if_pos (by simp; omega), w1 (by omega)]
        have hlt := lt_of_not hx he
        have := put_in (l.take i) out l[i] at_ hr hm (by omega) hlo (fun t h h2 => by
          rcases Nat.lt_or_ge at_ t with h3 | h3
          · exact strict.tr _ _ _ hlt (rise_at hr h3 h)
          · obtain rfl : t = at_ := by omega
            exact hlt)
        rw [this] at H
        simpa using H k (by omega)
theorem order_l (l : List S23) (hl : l.length ≤ 100) : ∀ d k i, i + d = l.length → d * 200 < k → duetref10_Order.l0 k l (Ord.orderL ltI (l.take i)) (i : Nat) = some (Ord.orderL ltI l)
  | 0, k, i, e, hk => by
    obtain ⟨k, rfl⟩ : ∃ m, k = m + 1 := ⟨k - 1, by omega⟩
    simp only [duetref10_Order.l0]
    rw [if_neg (by omega), List.take_of_length_le (by omega)]
  | d + 1, k, i, e, hk => by
    obtain ⟨k, rfl⟩ : ∃ m, k = m + 1 := ⟨k - 1, by omega⟩
    simp only [duetref10_Order.l0]
    rw [if_pos (by omega)]
    have hlen := ord_len (l.take i)
    rw [List.length_take] at hlen
    exact order_in l hl i (by omega) (d * 200) _ (fun k' hk' => order_l l hl d k' (i + 1) (by omega) hk') (Ord.orderL ltI (l.take i)).length k 0 (by omega) (fun t h h2 => by omega) (by omega)
theorem order_f (l : List S23) (hl : l.length ≤ 100) (k : Nat) (hk : l.length * 200 < k) : duetref10_Order.f k l = some (Ord.orderL ltI l) := by
  unfold duetref10_Order.f
  have := order_l l hl l.length k 0 (by omega) hk
  rw [List.take_zero, show Ord.orderL ltI ([] : List S23) = [] by simp [Ord.orderL, Ord.sorted, Ord.compact]] at this
  exact this
theorem ident_order_f (l : List S23) (hl : l.length ≤ 100) : ident_Order.f l = some (Ord.orderL ltI l) := by unfold ident_Order.f; rw [if_pos (by omega)]
theorem ident_rank_f (l : List S23) (hl : l.length ≤ 100) (hr : Ord.Rising ltI l) (x0 x1 : Int) : ident_Rank.f l x0 x1 = some (((rankI l ⟨x0, x1⟩ : Nat) : Int), decide ((⟨x0, x1⟩ : S23) ∈ l)) := by unfold ident_Rank.f; rw [if_pos ⟨by omega, hr⟩]
theorem IdentOrders (l : List S23) (x0 x1 : Int) : duetlaw10_IdentOrders.f 30000 l x0 x1 = some true := by
  unfold duetlaw10_IdentOrders.f
  by_cases hl : (l.length : Int) > 100
  · rw [if_pos hl]; rfl
  · rw [if_neg hl]
    have hl' : l.length ≤ 100 := by omega
    have ho := ord_len l
    have hr := Ord.order_rising strict l
    rw [ident_order_f l hl', order_f l hl' 30000 (by omega)]
    simp only [Option.bind_some]
    rw [same_f _ (by omega) 30000 (by omega)]
    simp only [Option.bind_some, if_true]
    rw [ident_rank_f _ (by omega) hr, rank_f _ (by omega) _ _ 30000 (by omega)]
    simp only [Option.bind_some, if_true, beq_self_eq_true]
    rfl
theorem sep_ex (l : List S23) (hr : Ord.Rising ltI l) (x : S23) : ∀ d i j, j - i = d → Sep l x i j → ∃ q, Sep l x q q
  | 0, i, j, e, h => by
    have := h.le
    obtain rfl : i = j := by omega
    exact ⟨i, h⟩
  | d + 1, i, j, e, h => by
    have := h.len
    cases hx : ltI l[i] x with
    | true => exact sep_ex l hr x d (i + 1) j (by omega) (h.left hr (by omega) (Nat.le_refl _) (by omega) hx)
    | false => exact ⟨i, h.right hr (by omega) (Nat.le_refl _) (by omega) hx⟩
theorem sep_rank (l : List S23) (hr : Ord.Rising ltI l) (x : S23) : Sep l x (rankI l x) (rankI l x) := by
  obtain ⟨q, hq⟩ := sep_ex l hr x (l.length - 0) 0 l.length rfl ⟨Nat.zero_le _, Nat.le_refl _, fun t _ h => absurd h (Nat.not_lt_zero _), fun t h1 h2 => by omega⟩
  rw [hq.rank]; exact hq
theorem rank_at (l : List S23) (hr : Ord.Rising ltI l) (i : Nat) (hi : i < l.length) : rankI l l[i] = i := by
  refine Sep.rank ⟨Nat.le_refl _, by omega, fun t h h2 => rise_at hr h2 hi, fun t h h2 => ?_⟩
  rcases Nat.lt_or_ge i t with h3 | h3
  · cases hx : ltI l[t] l[i] with
    | false => rfl
    | true => have := strict.tr _ _ _ (rise_at hr h3 h) hx; rw [strict.irr] at this; cases this
  · obtain rfl : t = i := by omega
    exact strict.irr _
theorem w0 {i : Nat} (h : i < 1000) (h0 : 0 < i) : wrap64 ((i : Int) - 1) = ((i - 1 : Nat) : Int) := by unfold wrap64; omega
theorem order_same (l : List S23) (hr : Ord.Rising ltI l) : Ord.orderL ltI l = l := Ord.order_of strict l l hr (fun _ => Iff.rfl)
theorem ranks_j2 (l : List S23) (hl : l.length ≤ 100) (hr : Ord.Rising ltI l) (n : Int) (b : Bool) (hb : n < l.length ∨ b = false) (k : Nat) : duetlaw10_IdentRanks.j2 (k + 1) l n b false = some true := by
  simp only [duetlaw10_IdentRanks.j2, Bool.false_eq_true, if_false]
  rw [ident_order_f l hl, order_same l hr]
  simp only [Option.bind_some, if_true, duetlaw10_live.f]
  rcases hb with h | h
  · rw [if_pos h]
  · subst h; simp
theorem less_k (k : Nat) (hk : 3 ≤ k) (a b : S23) : ident_Less.f k a.f0 a.f1 b.f0 b.f1 = some (ltI a b) := by
  obtain ⟨m, rfl⟩ : ∃ m, k = m + 3 := ⟨k - 3, by omega⟩
  exact less_f m _ _ _ _
theorem ranks_l (l : List S23) (hl : l.length ≤ 100) (hr : Ord.Rising ltI l) (x0 x1 : Int) : ∀ d k i, i + d = l.length → d + 20 < k → duetlaw10_IdentRanks.l0 k l (i : Nat) x0 x1 = some true
  | 0, k, i, e, hk => by
    obtain ⟨k, rfl⟩ : ∃ m, k = m + 1 := ⟨k - 1, by omega⟩
    simp only [duetlaw10_IdentRanks.l0]
    rw [if_neg (by omega), ident_rank_f l hl hr]
    simp only [Option.bind_some]
    have hS := sep_rank l hr ⟨x0, x1⟩
    have hM := hS.mem hr
    generalize hn : rankI l ⟨x0, x1⟩ = n at hS hM
    have hle := hS.len
    have fin : duetlaw10_IdentRanks.j1 k l (n : Nat) (decide ((⟨x0, x1⟩ : S23) ∈ l)) false x0 x1 = some true := by
      obtain ⟨k, rfl⟩ : ∃ m, k = m + 2 := ⟨k - 2, by omega⟩
      simp only [duetlaw10_IdentRanks.j1, Bool.false_eq_true, if_false]
      by_cases hnl : n < l.length
      · rw [if_pos (by omega), if_pos (by omega), rd_at l n hnl, eq_bool]
        have e1 : decide ((⟨x0, x1⟩ : S23) ∈ l) = decide ((⟨l[n].f0, l[n].f1⟩ : S23) = ⟨x0, x1⟩) := by
          rw [Bool.eq_iff_iff]
          simp only [decide_eq_true_eq]
          rw [hM]
          exact ⟨fun ⟨_, h⟩ => h, fun h => ⟨hnl, h⟩⟩
        rw [e1]
        simp only [bne_self_eq_false, Bool.false_eq_true, if_false]
        by_cases he : (⟨l[n].f0, l[n].f1⟩ : S23) = ⟨x0, x1⟩
        · rw [decide_eq_true he]
          simp only [if_true]
          exact ranks_j2 l hl hr _ _ (.inl (by omega)) _
        · rw [decide_eq_false he, less_k (k + 1) (by omega) ⟨x0, x1⟩ l[n]]
          have h1 : ltI l[n] ⟨x0, x1⟩ = false := hS.hi n hnl (Nat.le_refl _)
          have h2 : ltI ⟨x0, x1⟩ l[n] = true := lt_of_not h1 he
          simp only [Bool.false_eq_true, if_false, Option.bind_some]
          rw [h2]
          exact ranks_j2 l hl hr _ _ (.inl (by omega)) _
      · rw [if_neg (by omega)]
        have e1 : decide ((⟨x0, x1⟩ : S23) ∈ l) = false := by rw [decide_eq_false_iff_not, hM]; rintro ⟨h, _⟩; exact hnl h
        rw [e1]
        exact ranks_j2 l hl hr _ _ (.inr rfl) _
    rw [if_neg (by omega), if_neg (by omega)]
    by_cases hn0 : 0 < n
    · rw [if_pos (by omega), w0 (by omega) hn0, if_pos (by omega), if_pos (by omega), rd_at l (n - 1) (by omega), less_k k (by omega) l[n - 1] ⟨x0, x1⟩]
      have h1 : ltI l[n - 1] ⟨x0, x1⟩ = true := hS.lo (n - 1) (by omega) (by omega)
      rw [h1]
      exact fin
    · rw [if_neg (by omega)]
      exact fin
  | d + 1, k, i, e, hk => by
    obtain ⟨k, rfl⟩ : ∃ m, k = m + 1 := ⟨k - 1, by omega⟩
    have hi : i < l.length := by omega
    simp only [duetlaw10_IdentRanks.l0]
    rw [if_pos (by omega), if_pos (by omega), rd_at l i hi, ident_rank_f l hl hr]
    simp only [Option.bind_some]
    have e1 : rankI l ⟨l[i].f0, l[i].f1⟩ = i := rank_at l hr i hi
    have e2 : decide ((⟨l[i].f0, l[i].f1⟩ : S23) ∈ l) = true := by rw [decide_eq_true_eq]; exact List.getElem_mem hi
    rw [e1, e2]
    simp only [if_true]
    rw [w1 (by omega)]
    have nx := ranks_l l hl hr x0 x1 d k (i + 1) (by omega) (by omega)
    by_cases h0 : 0 < i
    · rw [if_pos (by omega), w0 (by omega) h0, if_pos (by omega), if_pos (by omega), rd_at l (i - 1) (by omega), less_k k (by omega) l[i - 1] l[i]]
      have h2 : ltI l[i - 1] l[i] = true := rise_at hr (by omega) hi
      rw [h2]
      exact nx
    · rw [if_neg (by omega)]
      exact nx
theorem IdentRanks (l : List S23) (x0 x1 : Int) : duetlaw10_IdentRanks.f 300 l x0 x1 = some true := by
  unfold duetlaw10_IdentRanks.f
  by_cases hl : (l.length : Int) > 100
  · rw [if_pos hl]; rfl
  · rw [if_neg hl]
    have hl' : l.length ≤ 100 := by omega
    have ho := ord_len l
    rw [ident_order_f l hl']
    exact ranks_l _ (by omega) (Ord.order_rising strict l) x0 x1 (Ord.orderL ltI l).length 300 0 (by omega) (by omega)
end Go.Proofs.Ytoaaekgpabnneaa.Pure

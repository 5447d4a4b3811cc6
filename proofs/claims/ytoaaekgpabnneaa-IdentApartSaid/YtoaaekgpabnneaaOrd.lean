/- Plain lists in an order, each once: two such lists with the same elements are one; sorted and made compact; put in one by one. -/
set_option linter.unusedVariables false
set_option linter.unusedSectionVars false
namespace Go.Proofs.Ytoaaekgpabnneaa.Ord
section
variable {α : Type} [DecidableEq α] (lt : α → α → Bool)
structure Strict : Prop where
  irr : ∀ a, lt a a = false
  tr : ∀ a b c, lt a b = true → lt b c = true → lt a c = true
  tri : ∀ a b, lt a b = false → lt b a = false → a = b
def Rising (l : List α) : Prop := l.Pairwise fun a b => lt a b = true
variable {lt} (S : Strict lt)
include S
theorem uniq : ∀ (l m : List α), Rising lt l → Rising lt m → (∀ x, x ∈ l ↔ x ∈ m) → l = m
  | [], [], _, _, _ => rfl
  | [], y :: m, _, _, h => by have := (h y).2 List.mem_cons_self; simp at this
  | x :: l, [], _, _, h => by have := (h x).1 List.mem_cons_self; simp at this
  | x :: l, y :: m, hl, hm, h => by
    have hl' := List.pairwise_cons.1 hl
    have hm' := List.pairwise_cons.1 hm
    have hxy : x = y := by
      rcases List.mem_cons.1 ((h x).1 List.mem_cons_self) with e | e
      · exact e
      · rcases List.mem_cons.1 ((h y).2 List.mem_cons_self) with e2 | e2
        · exact e2.symm
        · have a := hm'.1 x e
          have b := hl'.1 y e2
          have := S.tr _ _ _ a b
          rw [S.irr] at this; cases this
    subst hxy
    rw [uniq l m hl'.2 hm'.2 (fun z => ⟨fun hz => by
      rcases List.mem_cons.1 ((h z).1 (List.mem_cons_of_mem _ hz)) with e | e
      · subst e; have := hl'.1 z hz; rw [S.irr] at this; cases this
      · exact e, fun hz => by
      rcases List.mem_cons.1 ((h z).2 (List.mem_cons_of_mem _ hz)) with e | e
      · subst e; have := hm'.1 z hz; rw [S.irr] at this; cases this
      · exact e⟩)]
/-- What is not like the one ahead of it. -/
def squeeze : α → List α → List α
  | _, [] => []
  | a, x :: l => if x = a then squeeze x l else x :: squeeze x l
omit S in
def compact : List α → List α
  | [] => []
  | x :: l => x :: squeeze x l
theorem squeeze_mem : ∀ (a : α) (l : List α) (x : α), x ∈ squeeze a l → x ∈ l
  | a, [], x, h => by simp [squeeze] at h
  | a, y :: l, x, h => by
    unfold squeeze at h
    split at h
    · exact List.mem_cons_of_mem _ (squeeze_mem y l x h)
    · rcases List.mem_cons.1 h with e | e
      · rw [e]; exact List.mem_cons_self
      · exact List.mem_cons_of_mem _ (squeeze_mem y l x e)
theorem squeeze_rising : ∀ (a : α) (l : List α), (a :: l).Pairwise (fun x y => lt y x = false) → (∀ x ∈ squeeze a l, lt a x = true) ∧ Rising lt (squeeze a l) ∧ ∀ x ∈ l, x = a ∨ x ∈ squeeze a l
  | a, [], _ => ⟨fun x h => by simp [squeeze] at h, List.Pairwise.nil, fun x h => by simp at h⟩
  | a, y :: l, h => by
    have h1 := List.pairwise_cons.1 h
    obtain ⟨i1, i2, i3⟩ := squeeze_rising y l h1.2
    unfold squeeze
    by_cases e : y = a
    · rw [if_pos e]
      subst e
      exact ⟨i1, i2, fun x hx => by
        rcases List.mem_cons.1 hx with e | e
        · exact .inl e
        · exact i3 x e⟩
    · rw [if_neg e]
      have hay : lt a y = true := by
        have h2 := h1.1 y List.mem_cons_self
        cases h3 : lt a y with
        | true => rfl
        | false => exact absurd (S.tri y a h2 h3) e
      refine ⟨fun x hx => ?_, List.pairwise_cons.2 ⟨i1, i2⟩, fun x hx => ?_⟩
      · rcases List.mem_cons.1 hx with e | e
        · rw [e]; exact hay
        · exact S.tr _ _ _ hay (i1 x e)
      · rcases List.mem_cons.1 hx with e | e
        · right; rw [e]; exact List.mem_cons_self
        · rcases i3 x e with e | e
          · right; rw [e]; exact List.mem_cons_self
          · right; exact List.mem_cons_of_mem _ e
theorem compact_rising (l : List α) (h : l.Pairwise (fun x y => lt y x = false)) : Rising lt (compact l) ∧ ∀ x, x ∈ compact l ↔ x ∈ l := by
  cases l with
  | nil => exact ⟨List.Pairwise.nil, fun x => Iff.rfl⟩
  | cons a l =>
    obtain ⟨i1, i2, i3⟩ := squeeze_rising S a l h
    refine ⟨List.pairwise_cons.2 ⟨i1, i2⟩, fun x => ⟨fun hx => ?_, fun hx => ?_⟩⟩
    · rcases List.mem_cons.1 hx with e | e
      · rw [e]; exact List.mem_cons_self
      · exact List.mem_cons_of_mem _ (squeeze_mem S a l x e)
    · rcases List.mem_cons.1 hx with e | e
      · rw [e]; exact List.mem_cons_self
      · rcases i3 x e with e | e
        · rw [e]; exact List.mem_cons_self
        · exact List.mem_cons_of_mem _ e
def sorted (lt : α → α → Bool) (l : List α) : List α := l.mergeSort fun x y => !lt y x
theorem sorted_weak (l : List α) : (sorted lt l).Pairwise (fun x y => lt y x = false) := by
  have h := List.pairwise_mergeSort (le := fun x y => !lt y x) (by
    intro a b c h1 h2
    simp at h1 h2 ⊢
    cases h3 : lt c a with
    | false => rfl
    | true =>
      exfalso
      cases h4 : lt a b with
      | true => have := S.tr _ _ _ h3 h4; rw [h2] at this; cases this
      | false =>
        have e := S.tri a b h4 h1
        subst e
        rw [h2] at h3; cases h3) (by
    intro a b
    simp
    cases h1 : lt b a with
    | false => exact .inl rfl
    | true =>
      right
      cases h2 : lt a b with
      | false => rfl
      | true => have := S.tr _ _ _ h1 h2; rw [S.irr] at this; cases this) l
  exact h.imp (fun h => by simpa using h)
/-- In their order, each once. -/
def orderL (lt : α → α → Bool) (l : List α) : List α := compact (sorted lt l)
theorem order_rising (l : List α) : Rising lt (orderL lt l) := (compact_rising S _ (sorted_weak S l)).1
theorem order_mem (l : List α) (x : α) : x ∈ orderL lt l ↔ x ∈ l := by
  rw [orderL, (compact_rising S _ (sorted_weak S l)).2 x]; exact List.mem_mergeSort
theorem order_of (l m : List α) (h : Rising lt m) (hm : ∀ x, x ∈ m ↔ x ∈ l) : orderL lt l = m :=
  uniq S _ _ (order_rising S l) h (fun x => by rw [order_mem S, hm])
/-- One more, put in at its place. -/
def place (lt : α → α → Bool) (l : List α) (x : α) : Nat := (l.takeWhile fun y => lt y x).length
end
end Go.Proofs.Ytoaaekgpabnneaa.Ord

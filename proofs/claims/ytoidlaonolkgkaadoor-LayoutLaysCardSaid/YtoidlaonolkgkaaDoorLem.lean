/- What the printed functions of the document's cells answer, in plain numbers and lists. -/
import Derived.Test.YtoidlaonolkgkaaDoorPx3
import Derived.Test.YtoidlaonolkgkaaDoorPx10
set_option linter.unusedVariables false
set_option linter.unusedSimpArgs false
namespace Go.Proofs.YtoidlaonolkgkaaDoor.Lem
open Go.RowKit Go.Proofs.YtoidlaonolkgkaaDoor.P Go.Proofs.YtoidlaonolkgkaaDoor.Giv Go.Proofs.YtoidlaonolkgkaaDoorW.PrintWords Go.Proofs.YtoidlaonolkgkaaDoorW.PrintLast Go.Proofs.YtoidlaonolkgkaaDoorW.PrintMore
theorem in_f (a b c : Int) : duetref20_in.f a b c = some (decide (b ≤ a ∧ a ≤ c)) := by
  unfold duetref20_in.f
  by_cases h : a ≥ b
  · rw [if_pos h]; congr 1; rw [decide_eq_decide]; omega
  · rw [if_neg h]; congr 1; rw [eq_comm, decide_eq_false_iff_not]; omega
theorem has_none (n : Int) : hasN noneL n = true ↔ (0x7f ≤ n ∧ n ≤ 0x9f) ∨ (0x300 ≤ n ∧ n ≤ 0x36f) ∨ (0x200b ≤ n ∧ n ≤ 0x200f) ∨ (0x20d0 ≤ n ∧ n ≤ 0x20ff) ∨ (0xd800 ≤ n ∧ n ≤ 0xdfff) ∨ (0xfe00 ≤ n ∧ n ≤ 0xfe0f) ∨ (0xfe20 ≤ n ∧ n ≤ 0xfe2f) := by
  simp [hasN, noneL]
theorem has_wide (n : Int) : hasN wideL n = true ↔ (0x1100 ≤ n ∧ n ≤ 0x115f) ∨ (0x2e80 ≤ n ∧ n ≤ 0x303e) ∨ (0x3041 ≤ n ∧ n ≤ 0xa4cf) ∨ (0xac00 ≤ n ∧ n ≤ 0xd7a3) ∨ (0xf900 ≤ n ∧ n ≤ 0xfaff) ∨ (0xfe30 ≤ n ∧ n ≤ 0xfe6f) ∨ (0xff01 ≤ n ∧ n ≤ 0xff60) ∨ (0xffe0 ≤ n ∧ n ≤ 0xffe6) ∨ (0x1f300 ≤ n ∧ n ≤ 0x1f64f) ∨ (0x1f680 ≤ n ∧ n ≤ 0x1f6ff) ∨ (0x1f900 ≤ n ∧ n ≤ 0x1f9ff) ∨ (0x20000 ≤ n ∧ n ≤ 0x3fffd) := by
  simp [hasN, wideL]
theorem in_bind {α : Type} (a b c : Int) (X Y : Option α) : ((duetref20_in.f a b c).bind fun t => if t = true then X else Y) = if b ≤ a ∧ a ≤ c then X else Y := by
  rw [in_f, Option.bind_some]
  by_cases h : b ≤ a ∧ a ≤ c
  · rw [if_pos h, if_pos (decide_eq_true h)]
  · rw [if_neg h, if_neg (by simpa using h)]
theorem ite_to {α : Type} {p : Prop} [Decidable p] {X Y Z : α} (h1 : p → X = Z) (h2 : ¬ p → Y = Z) : (if p then X else Y) = Z := by
  by_cases h : p
  · rw [if_pos h]; exact h1 h
  · rw [if_neg h]; exact h2 h
theorem refWide_f (k : Nat) (n : Int) : duetref20_Width.j0 (k + 1) n false = some (if hasN wideL n = true then 2 else 1) := by
  have h := has_wide n
  rw [duetref20_Width.j0, if_neg (by simp)]
  by_cases hw : hasN wideL n = true
  · rw [if_pos hw]
    have := h.1 hw
    clear h hw
    iterate 12
      rw [in_bind]
      refine ite_to (fun _ => rfl) (fun _ => ?_)
    omega
  · rw [if_neg hw]
    have := mt h.2 hw
    clear h hw
    iterate 12 rw [in_bind, if_neg (by omega)]
theorem refWidth_f (k : Nat) (n : Int) : duetref20_Width.f (k + 1) n = some (widthN n) := by
  have h := has_none n
  have t : duetref20_Width.j0 (k + 1) n true = some 0 := by rw [duetref20_Width.j0, if_pos rfl]
  unfold duetref20_Width.f widthN
  by_cases h0 : n < 32
  · rw [if_pos h0, if_pos (.inl h0), t]
  · rw [if_neg h0]
    by_cases hn : hasN noneL n = true
    · rw [if_pos (show n < 32 ∨ n > 1114111 ∨ hasN noneL n = true from .inr (.inr hn))]
      have := h.1 hn
      clear h hn
      iterate 7
        rw [in_bind]
        refine ite_to (fun _ => t) (fun _ => ?_)
      omega
    · have := mt h.2 hn
      iterate 7 rw [in_bind, if_neg (by omega)]
      by_cases h1 : n > 1114111
      · rw [decide_eq_true h1, t, if_pos (.inr (.inl h1))]
      · rw [decide_eq_false h1, refWide_f]
        have hnn : ¬ (n < 32 ∨ n > 1114111 ∨ hasN noneL n = true) := fun x => x.elim h0 fun x => x.elim h1 hn
        rw [if_neg hnn]
theorem width_range (n : Int) : 0 ≤ widthN n ∧ widthN n ≤ 2 := by
  unfold widthN
  by_cases h : n < 32 ∨ n > 1114111 ∨ hasN noneL n = true
  · rw [if_pos h]; omega
  · rw [if_neg h]
    by_cases h2 : hasN wideL n = true
    · rw [if_pos h2]; omega
    · rw [if_neg h2]; omega
/-- How many cells some take. -/
def totalN : List Int → Int
  | [] => 0
  | n :: l => widthN n + totalN l
theorem total_range (l : List Int) : 0 ≤ totalN l ∧ totalN l ≤ 2 * l.length := by
  induction l with
  | nil => simp [totalN]
  | cons n l ih => have := width_range n; simp only [totalN, List.length_cons]; omega
theorem total_append (a b : List Int) : totalN (a ++ b) = totalN a + totalN b := by
  induction a with
  | nil => simp [totalN]
  | cons n l ih => simp only [List.cons_append, totalN, ih]; omega
theorem total_take (l : List Int) (i : Nat) (h : i < l.length) : totalN (l.take (i + 1)) = totalN (l.take i) + widthN (l.getD i 0) := by
  rw [List.take_succ_eq_append_getElem h, total_append, List.getD_eq_getElem?_getD, List.getElem?_eq_getElem h]
  simp [totalN]
theorem total_mono (l : List Int) (i j : Nat) (h : i ≤ j) : totalN (l.take i) ≤ totalN (l.take j) := by
  have e : l.take j = l.take i ++ (l.take j).drop i := by
    have := List.take_append_drop i (l.take j)
    rw [List.take_take, Nat.min_eq_left h] at this
    exact this.symm
  rw [e, total_append]
  have := (total_range ((l.take j).drop i)).1
  omega
theorem total_drop (l : List Int) (i : Nat) (h : i < l.length) : totalN (l.drop i) = widthN (l.getD i 0) + totalN (l.drop (i + 1)) := by
  rw [List.drop_eq_getElem_cons h, totalN, List.getD_eq_getElem?_getD, List.getElem?_eq_getElem h]; rfl
theorem rd_nat (l : List Int) (i : Nat) : rd l (i : Int) = l.getD i 0 := by unfold rd; rw [Int.toNat_natCast]
theorem refTotal_l0 (l : List Int) (hl : l.length ≤ 1000000) (d : Nat) : ∀ (K i : Nat) (acc : Int), i + d = l.length → d < K → 0 ≤ acc → acc ≤ 2 * i →
    duetref20_Total.l0 K l acc (i : Int) = some (acc + totalN (l.drop i)) := by
  induction d with
  | zero =>
    intro K i acc hi hK h0 h1
    obtain ⟨K, rfl⟩ : ∃ m, K = m + 1 := ⟨K - 1, by omega⟩
    simp only [duetref20_Total.l0]
    rw [if_neg (by omega), List.drop_of_length_le (by omega)]; simp [totalN]
  | succ d ih =>
    intro K i acc hi hK h0 h1
    obtain ⟨K, rfl⟩ : ∃ m, K = m + 1 + 1 := ⟨K - 2, by omega⟩
    have hw := width_range (l.getD i 0)
    rw [duetref20_Total.l0]
    rw [if_pos (by omega), if_pos (by omega), rd_nat, refWidth_f, Option.bind_some, show wrap64 (acc + widthN (l.getD i 0)) = acc + widthN (l.getD i 0) by unfold wrap64; omega,
      show wrap64 ((i : Int) + 1) = ((i + 1 : Nat) : Int) by unfold wrap64; omega, ih (K + 1) (i + 1) _ (by omega) (by omega) (by omega) (by omega), total_drop l i (by omega)]
    congr 1; omega
theorem refTotal_f (l : List Int) (hl : l.length ≤ 1000000) (K : Nat) (hK : l.length < K) : duetref20_Total.f K l = some (totalN l) := by
  unfold duetref20_Total.f
  have := refTotal_l0 l hl l.length K 0 0 (by omega) hK (by omega) (by omega)
  rw [List.drop_zero] at this
  exact this.trans (by congr 1; omega)

end Go.Proofs.YtoidlaonolkgkaaDoor.Lem

/- The laws of the view: what the printed laws answer (ViewHalves, ViewOne). -/
import Derived.Test.YtpclgafcldmchaaPureA
set_option linter.unusedVariables false
set_option linter.unusedSimpArgs false
namespace Go.Proofs.Ytpclgafcldmchaa.Pure
open Go.RowKit Go.Proofs.Ytpclgafcldmchaa.P Go.Proofs.Ytpclgafcldmchaa.It Go.Proofs.Ytpclgafcldmchaa.Giv Go.Proofs.Ytpclgafcldmchaa.Lem Go.Proofs.YtpclgafcldmchaaW.PrintWords Go.Proofs.YtpclgafcldmchaaW.PrintLast Go.Proofs.YtpclgafcldmchaaW.PrintMore
theorem seenFrom_shift : ∀ (l : List S44) (i j : Nat), (seenFrom i l).length = (seenFrom j l).length
  | [], i, j => rfl
  | x :: l, i, j => by
    have := seenFrom_shift l (i + 1) (j + 1)
    rw [seenFrom, seenFrom]; split <;> simp [this]
theorem seenN_append (l m : List S44) : (seenN (l ++ m)).length = (seenN l).length + (seenN m).length := by
  unfold seenN; rw [seenFrom_append, List.length_append, seenFrom_shift m (0 + l.length) 0]
theorem runes_size (l : List S44) : (runesBytes (clips l)).size ≤ 4 * l.length := by
  have h := runesBytes_size_le (clips l)
  have h2 : (clips l).length ≤ l.length := by unfold clips; rw [List.length_map]; exact List.length_filter_le _ _
  omega
theorem halves_j2 (l : List S44) (hl : l.length ≤ 60) (a b : Int) (k : Nat) (hk : 150 ≤ k) (c : Bool) (hc : c = false → (rangeL l 0 a).2 = 0 ∧ (rangeL l a b).2 = 0 ∧ (rangeL l b (seenN l).length).2 = 0) :
    duetlaw12_ViewHalves.j2 k l a b ((seenN l).length : Int) (rangeL l 0 a).1 (rangeL l a b).1 (rangeL l b (seenN l).length).1 c = some true := by
  obtain ⟨j, rfl⟩ : ∃ j, k = j + 1 := ⟨k - 1, by omega⟩
  rw [duetlaw12_ViewHalves.j2]
  cases c with
  | true => rw [if_pos rfl, live_f _ (by omega)]; rfl
  | false =>
    obtain ⟨h1, h2, h3⟩ := hc rfl
    have g1 := rangeL_len l 0 a
    have g2 := rangeL_len l a b
    have g3 := rangeL_len l b ((seenN l).length : Int)
    have hn := seenN_len l
    have i1 : ¬ ((0 : Int) < 0 ∨ 0 > a ∨ a > ((seenN l).length : Int)) := by intro h; unfold rangeL at h1; rw [if_pos h] at h1; cases h1
    have i2 : ¬ (a < 0 ∨ a > b ∨ b > ((seenN l).length : Int)) := by intro h; unfold rangeL at h2; rw [if_pos h] at h2; cases h2
    have i3 : ¬ (b < 0 ∨ b > ((seenN l).length : Int) ∨ ((seenN l).length : Int) > ((seenN l).length : Int)) := by intro h; unfold rangeL at h3; rw [if_pos h] at h3; cases h3
    have i4 : ¬ ((0 : Int) < 0 ∨ 0 > ((seenN l).length : Int) ∨ ((seenN l).length : Int) > ((seenN l).length : Int)) := by omega
    rw [if_neg (by decide), if_pos (by simp; omega), Option.bind_some, if_pos (by simp; omega), Option.bind_some, if_pos (by simp; omega), Range_f _ l (by omega) (by omega), Option.bind_some]
    have e : (rangeL l 0 ((seenN l).length : Int)) = (idsL l, 0) := by
      unfold rangeL; rw [if_neg i4]; simp [← idsL_len]
    have w : ([] ++ (rangeL l 0 a).1) ++ (rangeL l a b).1 ++ (rangeL l b ((seenN l).length : Int)).1 = idsL l := by
      unfold rangeL
      rw [if_neg i1, if_neg i2, if_neg i3]
      simp only [List.nil_append, Int.toNat_zero, List.drop_zero, Int.toNat_natCast]
      rw [List.take_of_length_le (show (idsL l).length ≤ (seenN l).length by rw [idsL_len]; exact Nat.le_refl _)]
      have s1 : (idsL l).take a.toNat ++ ((idsL l).take b.toNat).drop a.toNat = (idsL l).take b.toNat := by
        rw [show (idsL l).take a.toNat = ((idsL l).take b.toNat).take a.toNat by rw [List.take_take, Nat.min_eq_left (by omega)], List.take_append_drop]
      rw [s1, List.take_append_drop]
    have hlen : ((rangeL l a b).1.length : Int) = wrap64 (b - a) := by
      unfold rangeL; rw [if_neg i2]
      simp only [List.length_drop, List.length_take, idsL_len]
      unfold wrap64; omega
    rw [e, if_pos rfl, w, SameU_f _ _ (by rw [idsL_len]; omega) (by rw [idsL_len]; omega), Option.bind_some, if_pos rfl, if_pos hlen, live_f _ (by omega)]
    rfl
theorem halves_j1 (l : List S44) (hl : l.length ≤ 60) (a b : Int) (k : Nat) (hk : 151 ≤ k) : duetlaw12_ViewHalves.j1 k l a b false = some true := by
  obtain ⟨j, rfl⟩ : ∃ j, k = j + 1 := ⟨k - 1, by omega⟩
  rw [duetlaw12_ViewHalves.j1, if_neg (by decide), Seen_f l (by omega), Option.bind_some, Range_f _ l (by omega) (by omega), Option.bind_some, Range_f _ l (by omega) (by omega), Option.bind_some, seenL_len, Range_f _ l (by omega) (by omega), Option.bind_some]
  by_cases h1 : (rangeL l 0 a).2 = 0
  · rw [if_pos h1]
    by_cases h2 : (rangeL l a b).2 = 0
    · rw [if_pos h2]
      exact halves_j2 l hl a b j (by omega) _ (fun h => ⟨h1, h2, by simpa using h⟩)
    · rw [if_neg h2]; exact halves_j2 l hl a b j (by omega) _ (fun h => by cases h)
  · rw [if_neg h1]; exact halves_j2 l hl a b j (by omega) _ (fun h => by cases h)
theorem halves_j0 (l : List S44) (hl : l.length ≤ 60) (cut a b : Int) (k : Nat) (hk : 152 ≤ k) (c : Bool) (hc : c = false → 0 ≤ cut ∧ cut ≤ (l.length : Int)) : duetlaw12_ViewHalves.j0 k l cut a b c = some true := by
  obtain ⟨j, rfl⟩ : ∃ j, k = j + 1 := ⟨k - 1, by omega⟩
  rw [duetlaw12_ViewHalves.j0]
  cases c with
  | true => rw [if_pos rfl, live_f _ (by omega)]; rfl
  | false =>
    obtain ⟨h0, h1⟩ := hc rfl
    have ht : (l.take cut.toNat).length ≤ 60 := by rw [List.length_take]; omega
    have hd : (l.drop cut.toNat).length ≤ 60 := by rw [List.length_drop]; omega
    have r1 := runes_size (l.take cut.toNat)
    have r2 := runes_size (l.drop cut.toNat)
    have s1 := seenN_len (l.take cut.toNat)
    have s2 := seenN_len (l.drop cut.toNat)
    have et : runesBytes (clips l) = runesBytes (clips (l.take cut.toNat)) ++ runesBytes (clips (l.drop cut.toNat)) := by
      rw [← runes_append, ← clips_append, List.take_append_drop]
    have es : (seenN l).length = (seenN (l.take cut.toNat)).length + (seenN (l.drop cut.toNat)).length := by
      rw [← seenN_append, List.take_append_drop]
    rw [if_neg (by decide), Text_f l (by omega), Option.bind_some, if_pos h0, if_pos h1, Text_f _ (by omega), Option.bind_some, Text_f _ (by omega), Option.bind_some, if_pos (by omega), if_pos (by rw [et]),
      Seen_f l (by omega), Option.bind_some, Seen_f _ (by omega), Option.bind_some, Seen_f _ (by omega), Option.bind_some, seenL_len, seenL_len, seenL_len]
    have : ((seenN l).length : Int) = wrap64 (((seenN (l.take cut.toNat)).length : Int) + ((seenN (l.drop cut.toNat)).length : Int)) := by
      rw [es]; unfold wrap64; omega
    rw [← this, show (((seenN l).length : Int) != ((seenN l).length : Int)) = false by simp]
    exact halves_j1 l hl a b j (by omega)
theorem ViewHalves (l : List S44) (cut a b : Int) : duetlaw12_ViewHalves.f 200 l cut a b = some true := by
  obtain ⟨c, hb, hl⟩ := Few_f 200 (by decide) l
  unfold duetlaw12_ViewHalves.f
  rw [hb, Option.bind_some]
  cases c with
  | false =>
    rw [if_neg (by decide), show (200 : Nat) = 199 + 1 from rfl, duetlaw12_ViewHalves.j0, if_pos rfl, live_f _ (by decide)]; rfl
  | true =>
    have hl := hl rfl
    rw [if_pos rfl]
    by_cases h : cut < 0
    · rw [if_pos h]; exact halves_j0 l hl cut a b 200 (by decide) _ (fun h => by cases h)
    · rw [if_neg h]; exact halves_j0 l hl cut a b 200 (by decide) _ (fun h => by simp at h; omega)
/-! ### One seen among others that are not -/
def mark (l : List S44) (p : Nat) (i : Nat) : S44 := ⟨(l.getD i z44).f0, (l.getD i z44).f1, (l.getD i z44).f2, if i = p then [] else [0]⟩
def marks (l : List S44) (p : Nat) (i n : Nat) : List S44 := (List.range' i n).map (mark l p)
theorem marks_snoc (l : List S44) (p n : Nat) : marks l p 0 (n + 1) = marks l p 0 n ++ [mark l p n] := by
  unfold marks; rw [List.range'_concat]; simp
theorem seen_marks (l : List S44) (p : Nat) : ∀ n i, seenFrom i (marks l p i n) = if i ≤ p ∧ p < i + n then [p] else []
  | 0, i => by rw [if_neg (by omega)]; rfl
  | n + 1, i => by
    have ih := seen_marks l p n (i + 1)
    have e : marks l p i (n + 1) = mark l p i :: marks l p (i + 1) n := by unfold marks; rw [List.range'_succ]; rfl
    rw [e, seenFrom, ih]
    by_cases h : i = p
    · rw [if_pos (by simp [mark, h]), if_neg (by omega), if_pos (by omega), h]
    · rw [if_neg (by simp [mark, h])]
      by_cases h2 : i + 1 ≤ p ∧ p < i + 1 + n
      · rw [if_pos h2, if_pos (by omega)]
      · rw [if_neg h2, if_neg (by omega)]
theorem getD_marks (l : List S44) (p n i : Nat) (h : i < n) : (marks l p 0 n).getD i z44 = mark l p i := by
  unfold marks
  rw [List.getD_eq_getElem?_getD, List.getElem?_map, List.getElem?_range' (by omega)]
  simp
theorem one_l0 (l : List S44) (hl : l.length ≤ 60) (p : Nat) (hp : p < l.length) : ∀ (m i k : Nat), i + m = l.length → m + 100 ≤ k → duetlaw12_ViewOne.l0 k l (p : Int) (marks l p 0 i) (i : Int) = some true
  | m, i, 0, _, hk => absurd hk (by omega)
  | 0, i, k + 1, hm, hk => by
    obtain rfl : i = l.length := by omega
    have e1 : (rd_T44 l (p : Int)) = l.getD p z44 := by unfold rd_T44; rw [Int.toNat_natCast]
    have hml : (marks l p 0 l.length).length = l.length := by simp [marks]
    have hs : seenN (marks l p 0 l.length) = [p] := by
      unfold seenN; rw [seen_marks, if_pos (by omega)]
    have hc : clips (marks l p 0 l.length) = [clip (l.getD p z44).f2] := by
      rw [clips_eq, hs, List.map_cons, getD_marks _ _ _ _ hp]; rfl
    have hsL : seenL (marks l p 0 l.length) = [(p : Int)] := by rw [seenL_eq, hs]; rfl
    have r1 : refL (marks l p 0 l.length) 1 = ((l.getD p z44).f0.f0, (l.getD p z44).f0.f1, 0) := by
      unfold refL
      rw [hs, if_neg (by simp), if_neg (by decide)]
      show ((idAt (marks l p 0 l.length) p).f0, (idAt (marks l p 0 l.length) p).f1, (0 : Int)) = _
      unfold idAt
      rw [getD_marks _ _ _ _ hp]; rfl
    have r2 : refL (marks l p 0 l.length) 2 = (0, 0, 1) := by
      unfold refL
      rw [hs, if_pos (by simp)]
    have ht : runesBytes [clip (l.getD p z44).f2] = signS (l.getD p z44).f2 := by
      rw [runes_cons]; unfold signS; rw [show runesBytes [] = ByteArray.empty from rfl, ByteArray.append_empty]
    unfold duetlaw12_ViewOne.l0
    rw [if_neg (by omega), Ref_f _ (by omega) _ (by omega), Option.bind_some, Ref_f _ (by omega) _ (by omega), Option.bind_some, Text_f _ (by omega), Option.bind_some, if_pos (by omega), if_pos (by omega), e1,
      Sign_f _ (by omega), Option.bind_some, hc, ht, if_pos rfl, Seen_f _ (by omega), Option.bind_some, hsL, Same_f _ _ _ (by simp) (by simp; omega), Option.bind_some, if_pos (by simp), r1, r2, if_pos (by simp), if_pos rfl, if_pos rfl, live_f _ (by omega)]
    rfl
  | m + 1, i, k + 1, hm, hk => by
    have hi : i < l.length := by omega
    have e1 : (rd_T44 l (i : Int)) = l.getD i z44 := by unfold rd_T44; rw [Int.toNat_natCast]
    have hml : (marks l p 0 i).length = i := by simp [marks]
    unfold duetlaw12_ViewOne.l0
    rw [if_pos (by omega), if_pos (by omega), e1, hml, w1 i l.length hi (by omega)]
    by_cases h : i = p
    · rw [if_pos (by omega), if_pos (by omega)]
      have := one_l0 l hl p hp m (i + 1) k (by omega) (by omega)
      rw [marks_snoc] at this
      unfold mark at this
      rw [if_pos h] at this
      exact this
    · rw [if_neg (by omega), if_pos (by omega)]
      have := one_l0 l hl p hp m (i + 1) k (by omega) (by omega)
      rw [marks_snoc] at this
      unfold mark at this
      rw [if_neg h] at this
      exact this
theorem one_j0 (l : List S44) (hl : l.length ≤ 60) (a : Int) (c : Bool) (hc : c = false → 0 ≤ a ∧ a < (l.length : Int)) : duetlaw12_ViewOne.j0 200 l a c = some true := by
  rw [show (200 : Nat) = 199 + 1 from rfl, duetlaw12_ViewOne.j0]
  cases c with
  | true => rw [if_pos rfl, live_f _ (by decide)]; rfl
  | false =>
    obtain ⟨h0, h1⟩ := hc rfl
    obtain ⟨p, rfl⟩ : ∃ p : Nat, a = (p : Int) := ⟨a.toNat, by omega⟩
    rw [if_neg (by decide)]
    exact one_l0 l hl p (by omega) l.length 0 199 (by omega) (by omega)
theorem ViewOne (l : List S44) (a : Int) : duetlaw12_ViewOne.f 200 l a = some true := by
  obtain ⟨c, hb, hl⟩ := Few_f 200 (by decide) l
  unfold duetlaw12_ViewOne.f
  rw [hb, Option.bind_some]
  cases c with
  | false => rw [if_neg (by decide), show (200 : Nat) = 199 + 1 from rfl, duetlaw12_ViewOne.j0, if_pos rfl, live_f _ (by decide)]; rfl
  | true =>
    have hl := hl rfl
    rw [if_pos rfl]
    by_cases h : a < 0
    · rw [if_pos h]; exact one_j0 l hl a _ (fun h => by cases h)
    · rw [if_neg h]; exact one_j0 l hl a _ (fun h => by simp at h; omega)
end Go.Proofs.Ytpclgafcldmchaa.Pure

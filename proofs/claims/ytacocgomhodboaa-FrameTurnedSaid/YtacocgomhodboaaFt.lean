/- One byte that is turned, of frames one behind the other, spoils one frame. Plain lists. -/
import Derived.Test.YtacocgomhodboaaFl
set_option linter.unusedVariables false
set_option linter.unusedSimpArgs false
namespace Go.Proofs.Ytacocgomhodboaa.Ft
open Go.RowKit Go.Proofs.Ytacocgomhodboaa.Pk Go.Proofs.Ytacocgomhodboaa.Ba Go.Proofs.Ytacocgomhodboaa.Bw Go.Proofs.Ytacocgomhodboaa.En Go.Proofs.Ytacocgomhodboaa.Fs Go.Proofs.Ytacocgomhodboaa.Crc Go.Proofs.Ytacocgomhodboaa.Giv Go.Proofs.Ytacocgomhodboaa.Lem Go.Proofs.Ytacocgomhodboaa.Gv2 Go.Proofs.Ytacocgomhodboaa.Fl
/-- What has a sum that is not 0 is not opened. -/
theorem open_bad (T : ByteArray) (hne : sumN T ≠ 0) : (openS T).2 ≠ 0 := by
  unfold openS
  by_cases h : T.size < 3
  · rw [if_pos h]; decide
  · rw [if_neg h, if_neg]
    · decide
    · intro e
      apply hne
      rw [e, sumN_seal]
/-- One byte of a sealed text that is another: its sum is not 0. -/
theorem seal_turned (s : ByteArray) (p : Nat) (by_ : UInt8) (hp : p < (sealS s).data.toList.length) (hb : by_ ≠ 0) :
    (openS ⟨((sealS s).data.toList.set p ((sealS s).data.toList[p] ^^^ by_)).toArray⟩).2 ≠ 0 := by
  apply open_bad
  have hlen : p < (byts (sealS s)).length := by unfold byts; rw [List.length_map]; exact hp
  have e : byts ⟨((sealS s).data.toList.set p ((sealS s).data.toList[p] ^^^ by_)).toArray⟩ = (byts (sealS s)).set p ((byts (sealS s)).getD p 0 ^^^ by_.toNat) := by
    unfold byts
    rw [List.toList_toArray, List.map_set, UInt8.toNat_xor]
    congr 2
    rw [List.getD_eq_getElem?_getD, List.getElem?_map, List.getElem?_eq_getElem hp]
    rfl
  unfold sumN
  rw [e, more_set _ _ _ _ hlen]
  have h0 : more 11994318 (byts (sealS s)) = 0 := sumN_seal s
  rw [h0, Nat.zero_xor]
  apply pw_ne
  intro h
  apply hb
  apply UInt8.toNat_inj.1
  show by_.toNat = 0
  omega
/-- One byte of what is stuffed that is turned: it is not told, or just one byte of the text is another. -/
theorem bare_turned (by_ : UInt8) (x : List UInt8) : ∀ (acc : List UInt8) (j : Nat) (hj : j < (st x).length), (st x)[j] ≠ 126 → (st x)[j] ≠ 125 → (st x)[j] ^^^ by_ ≠ 126 → (st x)[j] ^^^ by_ ≠ 125 →
    (bareF false acc ((st x).set j ((st x)[j] ^^^ by_))).2 = false ∨ ∃ p, ∃ hp : p < x.length, bareF false acc ((st x).set j ((st x)[j] ^^^ by_)) = (acc ++ x.set p (x[p] ^^^ by_), true) := by
  induction x with
  | nil => intro acc j hj; simp [st] at hj
  | cons y x ih =>
    intro acc j hj h1 h2 h3 h4
    have e : st (y :: x) = st1 y ++ st x := by simp [st]
    by_cases h : y = 126 ∨ y = 125
    · have e1 : st1 y = [125, y ^^^ 32] := by unfold st1; rw [if_pos h]
      have e2 : st (y :: x) = 125 :: (y ^^^ 32) :: st x := by rw [e, e1]; rfl
      have e3 : okE (y ^^^ 32) = true := by
        unfold okE
        rw [xor_back]
        rcases h with rfl | rfl <;> rfl
      simp only [e2] at h1 h2 h3 h4 hj ⊢
      match j, hj with
      | 0, _ => exact absurd rfl h2
      | 1, _ =>
        simp only [List.set_cons_succ, List.set_cons_zero, List.getElem_cons_succ, List.getElem_cons_zero]
        rw [bareF, if_pos rfl, bareF]
        by_cases ho : okE (y ^^^ 32 ^^^ by_) = true
        · right
          refine ⟨0, by simp, ?_⟩
          rw [if_pos ho]
          have := bare_st x (acc ++ [y ^^^ 32 ^^^ by_ ^^^ 32]) []
          rw [List.append_nil] at this
          rw [this]
          have e4 : y ^^^ 32 ^^^ by_ ^^^ 32 = y ^^^ by_ := by
            rw [UInt8.xor_assoc y 32 by_, UInt8.xor_comm 32 by_, ← UInt8.xor_assoc y by_ 32, xor_back]
          simp [bareF, e4]
        · left
          rw [if_neg ho]
      | j + 2, hj =>
        simp only [List.set_cons_succ, List.getElem_cons_succ, List.length_cons] at h1 h2 h3 h4 hj ⊢
        rw [bareF, if_pos rfl, bareF, if_pos e3, xor_back]
        rcases ih (acc ++ [y]) j (by omega) h1 h2 h3 h4 with r | ⟨p, hp, r⟩
        · exact .inl r
        · refine .inr ⟨p + 1, by simp; omega, ?_⟩
          rw [r]; simp
    · have e1 : st1 y = [y] := by unfold st1; rw [if_neg h]
      have e2 : st (y :: x) = y :: st x := by rw [e, e1]; rfl
      simp only [e2] at h1 h2 h3 h4 hj ⊢
      match j, hj with
      | 0, _ =>
        simp only [List.set_cons_zero, List.getElem_cons_zero] at h1 h2 h3 h4 ⊢
        rw [bareF, if_neg h4]
        right
        refine ⟨0, by simp, ?_⟩
        have := bare_st x (acc ++ [y ^^^ by_]) []
        rw [List.append_nil] at this
        rw [this]
        simp [bareF]
      | j + 1, hj =>
        simp only [List.set_cons_succ, List.getElem_cons_succ, List.length_cons] at h1 h2 h3 h4 hj ⊢
        rw [bareF, if_neg (fun e => h (.inr e))]
        rcases ih (acc ++ [y]) j (by omega) h1 h2 h3 h4 with r | ⟨p, hp, r⟩
        · exact .inl r
        · refine .inr ⟨p + 1, by simp; omega, ?_⟩
          rw [r]; simp
/-- What is turned is bad. -/
theorem end_turned (s : ByteArray) (by_ : UInt8) (hb : by_ ≠ 0) (j : Nat) (hj : j < (st (sealS s).data.toList).length) (h1 : (st (sealS s).data.toList)[j] ≠ 126) (h2 : (st (sealS s).data.toList)[j] ≠ 125)
    (h3 : (st (sealS s).data.toList)[j] ^^^ by_ ≠ 126) (h4 : (st (sealS s).data.toList)[j] ^^^ by_ ≠ 125) :
    (endR ((st (sealS s).data.toList).set j ((st (sealS s).data.toList)[j] ^^^ by_)) false).2 = false := by
  unfold endR
  rcases bare_turned by_ _ [] j hj h1 h2 h3 h4 with r | ⟨p, hp, r⟩
  · simp only [r, Bool.false_and]
  · simp only [r, List.nil_append]
    rw [decide_eq_false (seal_turned s p by_ hp hb)]
    simp
/-- All of them, one byte turned. -/
def all (l : List ByteArray) : List UInt8 := l.flatMap fun s => (packS s).data.toList
theorem all_cons (s : ByteArray) (l : List ByteArray) : all (s :: l) = (packS s).data.toList ++ all l := by simp [all]
/-- What is told then: all but one. -/
def rest : List ByteArray → Nat → List ByteArray
  | [], _ => []
  | s :: l, k => if k < (packS s).size then l else s :: rest l (k - (packS s).size)
theorem rest_cons (s : ByteArray) (l : List ByteArray) (k : Nat) : rest (s :: l) k = if k < (packS s).size then l else s :: rest l (k - (packS s).size) := rfl
theorem size_list (s : ByteArray) : s.data.toList.length = s.size := Array.length_toList
theorem feed_turned (by_ : UInt8) (hb : by_ ≠ 0) (l : List ByteArray) : ∀ (k : Nat) (hk : k < (all l).length) (out : List ByteArray), (∀ s ∈ l, s.size ≤ 2000) → (all l)[k] ≠ 126 → (all l)[k] ≠ 125 → (all l)[k] ^^^ by_ ≠ 126 → (all l)[k] ^^^ by_ ≠ 125 →
    feedF ⟨[], false, 0, out⟩ ((all l).set k ((all l)[k] ^^^ by_)) = ⟨[], false, 1, out ++ rest l k⟩ := by
  induction l with
  | nil => intro k hk; simp [all] at hk
  | cons s l ih =>
    intro k hk out hl h1 h2 h3 h4
    have hs := hl s (List.mem_cons_self ..)
    have hl' : ∀ t ∈ l, t.size ≤ 2000 := fun t ht => hl t (List.mem_cons_of_mem _ ht)
    simp only [all_cons] at hk h1 h2 h3 h4 ⊢
    have hz := size_list (packS s)
    by_cases hlt : k < (packS s).size
    · have hlt' : k < (packS s).data.toList.length := by omega
      rw [List.getElem_append_left hlt'] at h1 h2 h3 h4
      have er : rest (s :: l) k = l := by rw [rest_cons, if_pos hlt]
      rw [List.set_append_left _ _ hlt', List.getElem_append_left hlt', feed_app, er]
      have hone : feedF ⟨[], false, 0, out⟩ ((packS s).data.toList.set k ((packS s).data.toList[k] ^^^ by_)) = ⟨[], false, 1, out⟩ := by
        have ep := pack_list s
        unfold tailP at ep
        simp only [ep] at h1 h2 h3 h4 hlt' ⊢
        match k, hlt' with
        | 0, _ => exact absurd rfl h1
        | k + 1, hlt' =>
          simp only [List.getElem_cons_succ, List.set_cons_succ, List.length_cons, List.length_append, List.length_nil] at h1 h2 h3 h4 hlt' ⊢
          by_cases hk2 : k < (st (sealS s).data.toList).length
          · rw [List.getElem_append_left hk2] at h1 h2 h3 h4 ⊢
            rw [List.set_append_left _ _ hk2]
            have hm : ∀ x, feedF ⟨[], false, 0, out⟩ (126 :: x) = feedF ⟨[], false, 0, out⟩ x := fun x => by
              have := feed_app ⟨[], false, 0, out⟩ [126] x
              rw [feed_mark] at this
              exact this
            have hno : (126 : UInt8) ∉ (st (sealS s).data.toList).set k ((st (sealS s).data.toList)[k] ^^^ by_) := fun h => by
              rcases List.mem_or_eq_of_mem_set h with h | h
              · exact st_no _ h
              · exact h3 h.symm
            rw [hm, feed_piece _ hno (by intro e; have := congrArg List.length e; simp at this; have := st_ne s; simp_all) (by rw [List.length_set]; exact st_small s hs), end_turned s by_ hb k hk2 h1 h2 h3 h4]
            rfl
          · exfalso
            have : k = (st (sealS s).data.toList).length := by omega
            subst this
            rw [List.getElem_append_right (Nat.le_refl _)] at h1
            simp at h1
      rw [hone]
      exact feed_packs l 1 out hl'
    · have hge : (packS s).data.toList.length ≤ k := by omega
      have hk2 : k - (packS s).data.toList.length < (all l).length := by rw [List.length_append] at hk; omega
      rw [List.getElem_append_right hge] at h1 h2 h3 h4
      have er : rest (s :: l) k = s :: rest l (k - (packS s).data.toList.length) := by rw [rest_cons, if_neg hlt, hz]
      rw [List.set_append_right _ _ hge, List.getElem_append_right hge, feed_app, feed_pack s hs, er, ih _ hk2 _ hl' h1 h2 h3 h4, List.append_assoc]
      rfl
/-- How the law's own loop picks what is told. -/
def fromL (l : List ByteArray) (i : Nat) : Nat := (all (l.take i)).length
theorem from_zero (l : List ByteArray) : fromL l 0 = 0 := rfl
theorem from_succ (l : List ByteArray) (i : Nat) (h : i < l.length) : fromL l (i + 1) = fromL l i + (packS l[i]).size := by
  unfold fromL
  rw [List.take_succ_eq_append_getElem h]
  unfold all
  rw [List.flatMap_append, List.length_append]
  simp only [List.flatMap_cons, List.flatMap_nil, List.append_nil, size_list]
theorem from_all (l : List ByteArray) : fromL l l.length = (all l).length := by unfold fromL; rw [List.take_of_length_le (Nat.le_refl _)]
def left (l : List ByteArray) (k i : Nat) : List ByteArray := if k < fromL l i then l.drop i else rest (l.drop i) (k - fromL l i)
theorem left_zero (l : List ByteArray) (k : Nat) : left l k 0 = rest l k := by unfold left; rw [from_zero, if_neg (by omega)]; rfl
theorem left_end (l : List ByteArray) (k : Nat) : left l k l.length = [] := by
  unfold left
  rw [List.drop_of_length_le (Nat.le_refl _)]
  split <;> rfl
theorem left_step (l : List ByteArray) (k i : Nat) (h : i < l.length) (hk : k < (all l).length) :
    left l k i = if fromL l i ≤ k ∧ (i + 1 = l.length ∨ k < fromL l (i + 1)) then left l k (i + 1) else l[i] :: left l k (i + 1) := by
  have hs := from_succ l i h
  have ha : i + 1 = l.length → k < fromL l (i + 1) := fun e => by rw [e, from_all]; exact hk
  have hd : l.drop i = l[i] :: l.drop (i + 1) := List.drop_eq_getElem_cons h
  unfold left
  rw [hd]
  by_cases h1 : k < fromL l i
  · rw [if_pos h1, if_neg (fun x => by omega), if_pos (by omega)]
  · rw [if_neg h1]
    by_cases h2 : k < fromL l (i + 1)
    · rw [if_pos ⟨by omega, .inr h2⟩, if_pos h2, rest_cons, if_pos (by omega)]
    · rw [if_neg (fun x => by rcases x.2 with e | e; exact h2 (ha e); exact h2 e), if_neg h2, rest_cons, if_neg (by omega)]
      congr 2
      omega
end Go.Proofs.Ytacocgomhodboaa.Ft

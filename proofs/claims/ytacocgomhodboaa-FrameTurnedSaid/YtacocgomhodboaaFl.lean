/- The document's fold over bytes: what frames one behind the other tell. Plain lists. -/
import Derived.Test.YtacocgomhodboaaFd
import Derived.Test.YtacocgomhodboaaGv2
set_option linter.unusedVariables false
set_option linter.unusedSimpArgs false
namespace Go.Proofs.Ytacocgomhodboaa.Fl
open Go.RowKit Go.Proofs.Ytacocgomhodboaa.Pk Go.Proofs.Ytacocgomhodboaa.Ba Go.Proofs.Ytacocgomhodboaa.Bw Go.Proofs.Ytacocgomhodboaa.En Go.Proofs.Ytacocgomhodboaa.Fs Go.Proofs.Ytacocgomhodboaa.Lem Go.Proofs.Ytacocgomhodboaa.Gv2
def shift (b : Int) (o : List ByteArray) (s : FS) : FS := ⟨s.l, s.long, b + s.bad, o ++ s.out⟩
theorem step_shift (b : Int) (o : List ByteArray) (s : FS) (c : UInt8) : Fs.step (shift b o s) c = shift b o (Fs.step s c) := by
  obtain ⟨l, long, bad, out⟩ := s
  unfold Fs.step shift
  by_cases h1 : c = 126
  · by_cases h2 : l = []
    · simp only [if_pos h1, if_pos h2]
    · by_cases h3 : (endR l long).2 = true
      · simp only [if_pos h1, if_neg h2, if_pos h3, List.append_assoc]
      · simp only [if_pos h1, if_neg h2, if_neg h3, Int.add_assoc]
  · by_cases h2 : l.length < 5000
    · simp only [if_neg h1, if_pos h2]
    · simp only [if_neg h1, if_neg h2]
theorem feed_shift (b : Int) (o : List ByteArray) (x : List UInt8) : ∀ s : FS, feedF (shift b o s) x = shift b o (feedF s x) := by
  induction x with
  | nil => intro s; rfl
  | cons c x ih =>
    intro s
    show feedF (Fs.step (shift b o s) c) x = shift b o (feedF (Fs.step s c) x)
    rw [step_shift, ih]
theorem feed_app (s : FS) (a b : List UInt8) : feedF s (a ++ b) = feedF (feedF s a) b := by simp [feedF]
theorem feed_cons (s : FS) (c : UInt8) (b : List UInt8) : feedF s (c :: b) = feedF (Fs.step s c) b := rfl
theorem feed_nil (s : FS) : feedF s [] = s := rfl
/-- A state with outputs set apart. -/
theorem feed_out (l : List UInt8) (long : Bool) (bad : Int) (out : List ByteArray) (x : List UInt8) :
    feedF ⟨l, long, bad, out⟩ x = ⟨(feedF ⟨l, long, bad, []⟩ x).l, (feedF ⟨l, long, bad, []⟩ x).long, (feedF ⟨l, long, bad, []⟩ x).bad, out ++ (feedF ⟨l, long, bad, []⟩ x).out⟩ := by
  have := feed_shift 0 out x ⟨l, long, bad, []⟩
  unfold shift at this
  simpa using this
theorem feed_plain (x : List UInt8) : ∀ (l : List UInt8) (long : Bool) (bad : Int) (out : List ByteArray), (126 : UInt8) ∉ x → l.length + x.length ≤ 5000 → feedF ⟨l, long, bad, out⟩ x = ⟨l ++ x, long, bad, out⟩ := by
  induction x with
  | nil => intro l long bad out _ _; rw [List.append_nil]; rfl
  | cons c x ih =>
    intro l long bad out h1 h2
    have hc : c ≠ 126 := fun e => h1 (by rw [e]; exact List.mem_cons_self ..)
    rw [List.length_cons] at h2
    have hs : Fs.step ⟨l, long, bad, out⟩ c = ⟨l ++ [c], long, bad, out⟩ := by
      unfold Fs.step
      rw [if_neg hc, if_pos (show l.length < 5000 by omega)]
    rw [feed_cons, hs, ih _ _ _ _ (fun h => h1 (List.mem_cons_of_mem _ h)) (by rw [List.length_append]; simp only [List.length_cons, List.length_nil]; omega), List.append_assoc]
    rfl
theorem st1_no (c : UInt8) : (126 : UInt8) ∉ st1 c := by
  unfold st1
  by_cases h : c = 126 ∨ c = 125
  · rw [if_pos h]
    rcases h with rfl | rfl <;> decide
  · rw [if_neg h]
    intro e
    exact h (.inl (List.mem_singleton.1 e).symm)
theorem st_no (l : List UInt8) : (126 : UInt8) ∉ st l := by
  unfold st
  rw [List.mem_flatMap]
  rintro ⟨c, _, h⟩
  exact st1_no c h
theorem xor_back (c : UInt8) : c ^^^ 32 ^^^ 32 = c := by
  rw [UInt8.xor_assoc, UInt8.xor_self, UInt8.xor_zero]
theorem bare_st (x : List UInt8) : ∀ (acc r : List UInt8), bareF false acc (st x ++ r) = bareF false (acc ++ x) r := by
  induction x with
  | nil => intro acc r; rw [List.append_nil]; rfl
  | cons c x ih =>
    intro acc r
    have e : st (c :: x) ++ r = st1 c ++ (st x ++ r) := by simp [st]
    rw [e]
    by_cases h : c = 126 ∨ c = 125
    · have e1 : st1 c = [125, c ^^^ 32] := by unfold st1; rw [if_pos h]
      have e2 : okE (c ^^^ 32) = true := by
        unfold okE
        rw [xor_back]
        rcases h with rfl | rfl <;> rfl
      rw [e1]
      show bareF false acc (125 :: (c ^^^ 32) :: (st x ++ r)) = _
      rw [bareF, if_pos rfl, bareF, if_pos e2, xor_back, ih, List.append_assoc]
      rfl
    · have e1 : st1 c = [c] := by unfold st1; rw [if_neg h]
      rw [e1]
      show bareF false acc (c :: (st x ++ r)) = _
      rw [bareF, if_neg (fun e => h (.inr e)), ih, List.append_assoc]
      rfl
theorem bare_all (x : List UInt8) : bareF false [] (st x) = (x, true) := by
  have := bare_st x [] []
  rw [List.append_nil, List.nil_append] at this
  rw [this]; rfl
theorem data_eta (s : ByteArray) : (⟨s.data.toList.toArray⟩ : ByteArray) = s := ByteArray.ext (by simp)
/-- What is stuffed and sealed is told. -/
theorem end_seal (s : ByteArray) (h : s.size ≤ 2000) : endR (st (sealS s).data.toList) false = (s, true) := by
  unfold endR
  rw [bare_all]
  simp only [data_eta, open_seal]
  simp [h]
theorem st_ne (s : ByteArray) : st (sealS s).data.toList ≠ [] := by
  intro e
  have h : (sealS s).data.toList = [] := by
    cases hl : (sealS s).data.toList with
    | nil => rfl
    | cons c l =>
      rw [hl] at e
      have : st1 c = [] := by
        have : st (c :: l) = st1 c ++ st l := by simp [st]
        rw [this] at e
        exact (List.append_eq_nil_iff.1 e).1
      unfold st1 at this
      split at this <;> cases this
  have h2 : (sealS s).size = 0 := by
    have : (sealS s).data.toList.length = 0 := by rw [h]; rfl
    rw [Array.length_toList] at this; exact this
  rw [sealS_size] at h2
  omega
theorem st_small (s : ByteArray) (h : s.size ≤ 2000) : (st (sealS s).data.toList).length ≤ 5000 := by
  have h1 := st_len (sealS s).data.toList
  have h2 : (sealS s).data.toList.length = (sealS s).size := Array.length_toList
  have h3 := sealS_size s
  omega
/-- A piece, and its mark. -/
theorem feed_piece (x : List UInt8) (h1 : (126 : UInt8) ∉ x) (h2 : x ≠ []) (h3 : x.length ≤ 5000) (bad : Int) (out : List ByteArray) :
    feedF ⟨[], false, bad, out⟩ (x ++ [126]) = if (endR x false).2 = true then ⟨[], false, bad, out ++ [(endR x false).1]⟩ else ⟨[], false, bad + 1, out⟩ := by
  rw [feed_app, feed_plain x [] false bad out h1 (by simpa using h3), List.nil_append]
  show Fs.step ⟨x, false, bad, out⟩ 126 = _
  unfold Fs.step
  rw [if_pos rfl, if_neg h2]
theorem feed_mark (bad : Int) (out : List ByteArray) : feedF ⟨[], false, bad, out⟩ [126] = ⟨[], false, bad, out⟩ := by
  show Fs.step ⟨[], false, bad, out⟩ 126 = _
  unfold Fs.step
  rw [if_pos rfl, if_pos rfl]
/-- A text's piece without the mark ahead. -/
def tailP (s : ByteArray) : List UInt8 := st (sealS s).data.toList ++ [126]
theorem pack_list (s : ByteArray) : (packS s).data.toList = 126 :: tailP s := by simp [packS, tailP]
theorem feed_tail (s : ByteArray) (h : s.size ≤ 2000) (bad : Int) (out : List ByteArray) : feedF ⟨[], false, bad, out⟩ (tailP s) = ⟨[], false, bad, out ++ [s]⟩ := by
  unfold tailP
  rw [feed_piece _ (st_no _) (st_ne s) (st_small s h), end_seal s h, if_pos rfl]
theorem feed_pack (s : ByteArray) (h : s.size ≤ 2000) (bad : Int) (out : List ByteArray) : feedF ⟨[], false, bad, out⟩ (packS s).data.toList = ⟨[], false, bad, out ++ [s]⟩ := by
  rw [pack_list]
  show feedF ⟨[], false, bad, out⟩ ([126] ++ tailP s) = _
  rw [feed_app, feed_mark, feed_tail s h]
theorem feed_tails (l : List ByteArray) : ∀ (bad : Int) (out : List ByteArray), (∀ s ∈ l, s.size ≤ 2000) → feedF ⟨[], false, bad, out⟩ (l.flatMap tailP) = ⟨[], false, bad, out ++ l⟩ := by
  induction l with
  | nil => intro bad out _; rw [List.append_nil]; rfl
  | cons s l ih =>
    intro bad out h
    rw [List.flatMap_cons, feed_app, feed_tail s (h s (List.mem_cons_self ..)), ih _ _ (fun t ht => h t (List.mem_cons_of_mem _ ht)), List.append_assoc]
    rfl
theorem feed_packs (l : List ByteArray) : ∀ (bad : Int) (out : List ByteArray), (∀ s ∈ l, s.size ≤ 2000) → feedF ⟨[], false, bad, out⟩ (l.flatMap fun s => (packS s).data.toList) = ⟨[], false, bad, out ++ l⟩ := by
  induction l with
  | nil => intro bad out _; rw [List.append_nil]; rfl
  | cons s l ih =>
    intro bad out h
    rw [List.flatMap_cons, feed_app, feed_pack s (h s (List.mem_cons_self ..)), ih _ _ (fun t ht => h t (List.mem_cons_of_mem _ ht)), List.append_assoc]
    rfl
end Go.Proofs.Ytacocgomhodboaa.Fl

/- What the printed functions of the sums answer, in plain numbers and lists. -/
import Derived.Test.YtacocgomhodboaaPx1
set_option linter.unusedVariables false
set_option linter.unusedSimpArgs false
namespace Go.Proofs.Ytacocgomhodboaa.Lem
open Go.RowKit Go.Proofs.Ytacocgomhodboaa.P Go.Proofs.Ytacocgomhodboaa.Crc Go.Proofs.Ytacocgomhodboaa.Giv Go.Proofs.YtacocgomhodboaaW.PrintWords Go.Proofs.YtacocgomhodboaaW.PrintLast Go.Proofs.YtacocgomhodboaaW.PrintMore

def sumN (s : ByteArray) : Nat := more 11994318 (byts s)
theorem sumN_lt (s : ByteArray) : sumN s < 16777216 := more_lt _ _ (by decide) (byts_lt s)
def tailS (n : Nat) : ByteArray := strOfNums [((n / 65536 % 256 : Nat) : Int), ((n / 256 % 256 : Nat) : Int), ((n % 256 : Nat) : Int)]
def sealS (s : ByteArray) : ByteArray := s ++ tailS (sumN s)
theorem tailS_size (n : Nat) : (tailS n).size = 3 := strOfNums_size _
theorem sealS_size (s : ByteArray) : (sealS s).size = s.size + 3 := by simp [sealS, tailS_size, ByteArray.size_append]
theorem byts_append (a b : ByteArray) : byts (a ++ b) = byts a ++ byts b := by simp [byts]
theorem byts_tail (n : Nat) : byts (tailS n) = [n / 65536 % 256, n / 256 % 256, n % 256] := by
  simp [byts, tailS, strOfNums_data]
  omega
theorem more_tail (s n : Nat) (h : n < 16777216) : more s (byts (tailS n)) = pw 24 (s ^^^ n) := by
  rw [byts_tail, more_three _ _ _ _ (by omega) (by omega), split3 n h]
theorem sumN_seal (s : ByteArray) : sumN (sealS s) = 0 := by
  unfold sumN sealS
  rw [byts_append, more_append]
  show more (sumN s) _ = 0
  rw [more_tail _ _ (sumN_lt s), Nat.xor_self, pw_zero]

/-! ### The program's own -/
theorem More_f (a : Int) (s : ByteArray) (h : s.size ≤ 140737488351232) : crcs_More.f a s = some ((more (a % 16777216).toNat (byts s) : Nat) : Int) := by
  unfold crcs_More.f; rw [if_pos (by omega)]
theorem Sum_f (s : ByteArray) (h : s.size ≤ 140737488351232) : crcs_Sum.f s = some ((sumN s : Nat) : Int) := by
  unfold crcs_Sum.f; rw [More_f _ _ h]; rfl
theorem tail_f (n : Nat) (h : n < 16777216) : crcs_tail.f (n : Int) = some (tailS n) := by
  unfold crcs_tail.f tailS
  congr 3
theorem Seal_f (s : ByteArray) (h : s.size ≤ 140737488351000) : crcs_Seal.f s = some (sealS s) := by
  unfold crcs_Seal.f
  rw [Sum_f _ (by omega), Option.bind_some, tail_f _ (sumN_lt s), Option.bind_some, tailS_size, if_pos (by omega)]; rfl
theorem toList_data (a : ByteArray) : a.toList = a.data.toList := ByteArray.toList_eq a
theorem hasSuffix_f (s t : ByteArray) (h : s.size ≤ 140737488351232) : strings_HasSuffix.f s t = some (decide (t.size ≤ s.size ∧ s.extract (s.size - t.size) s.size = t)) := by
  unfold strings_HasSuffix.f stringslite_HasSuffix.f
  by_cases ht : t.size ≤ s.size
  · have e : wrap64 ((s.size : Int) - (t.size : Int)) = ((s.size - t.size : Nat) : Int) := by unfold wrap64; omega
    rw [if_pos (by omega), e, if_pos (by omega), if_pos (by omega), Option.bind_some]
    congr 1
    rw [Int.toNat_natCast, Bool.eq_iff_iff, beq_iff_eq, decide_eq_true_iff, toList_data, toList_data]
    exact ⟨fun h => ⟨ht, ByteArray.ext (Array.toList_inj.1 h)⟩, fun h => by rw [h.2]⟩
  · rw [if_neg (by omega), Option.bind_some, decide_eq_false (by omega)]
def bodyOf (s : ByteArray) : ByteArray := s.extract 0 (s.size - 3)
theorem body_size (s : ByteArray) : (bodyOf s).size = s.size - 3 := by simp [bodyOf]
/-- What Open answers. -/
def openS (s : ByteArray) : ByteArray × Int :=
  if s.size < 3 then (⟨#[]⟩, 3) else if s = sealS (bodyOf s) then (bodyOf s, 0) else (⟨#[]⟩, 4)
theorem split_body (s : ByteArray) (h : 3 ≤ s.size) : s = bodyOf s ++ s.extract (s.size - 3) s.size := by
  unfold bodyOf
  rw [ByteArray.extract_append_extract]
  simp [Nat.max_eq_right]
theorem append_right_inj' {a b c : ByteArray} (h : a ++ b = a ++ c) : b = c := by
  have := congrArg (fun x => x.data.toList) h
  simp at this
  exact ByteArray.ext (Array.toList_inj.1 (by simpa using this))
theorem open_iff (s : ByteArray) (h : 3 ≤ s.size) : s.extract (s.size - 3) s.size = tailS (sumN (bodyOf s)) ↔ s = sealS (bodyOf s) := by
  unfold sealS
  constructor
  · intro e; rw [← e]; exact split_body s h
  · intro e
    exact append_right_inj' ((split_body s h).symm.trans e)
theorem Open_f (s : ByteArray) (h : s.size ≤ 140737488351000) : crcs_Open.f s = some (openS s) := by
  unfold crcs_Open.f openS
  by_cases h3 : s.size < 3
  · rw [if_pos (by omega), if_pos h3]
  · have e : wrap64 ((s.size : Int) - 3) = ((s.size - 3 : Nat) : Int) := by unfold wrap64; omega
    rw [if_neg (by omega), if_neg h3, e, if_pos (by omega), if_pos (by omega), Int.toNat_natCast]
    show ((crcs_Sum.f (bodyOf s)).bind _) = _
    rw [Sum_f _ (by rw [body_size]; omega), Option.bind_some, tail_f _ (sumN_lt _), Option.bind_some, hasSuffix_f _ _ (by omega), Option.bind_some, tailS_size]
    have hi := open_iff s (by omega)
    by_cases he : s = sealS (bodyOf s)
    · rw [decide_eq_true ⟨by omega, hi.2 he⟩, if_pos rfl, if_pos he]; rfl
    · rw [decide_eq_false (fun x => he (hi.1 x.2)), if_neg (by simp), if_neg he]
theorem body_seal (s : ByteArray) : bodyOf (sealS s) = s := by
  unfold bodyOf
  rw [sealS_size, Nat.add_sub_cancel]
  unfold sealS
  exact ByteArray.extract_append_eq_left rfl
theorem open_seal (s : ByteArray) : openS (sealS s) = (s, 0) := by
  unfold openS
  rw [sealS_size, if_neg (by omega), body_seal, if_pos rfl]

/-! ### The reference -/
theorem step_f (n b : Nat) (h : n < 16777216) (hb : b < 2) : duetref02_step.f (n : Int) (b : Int) = some ((Crc.step n b : Nat) : Int) := by
  unfold duetref02_step.f
  have e1 : wrap64 (Int.tdiv (n : Int) 8388608) = ((n / 8388608 : Nat) : Int) := by
    rw [Int.tdiv_eq_ediv_of_nonneg (by omega)]; unfold wrap64; omega
  have e2 : Int.tmod (wrap64 (2 * (n : Int))) 16777216 = ((2 * n % 16777216 : Nat) : Int) := by
    have : wrap64 (2 * (n : Int)) = 2 * (n : Int) := by unfold wrap64; omega
    rw [this, Int.tmod_eq_emod_of_nonneg (by omega)]; omega
  rw [e1, e2, step_eq n b h hb]
  by_cases hn : n / 8388608 = b
  · rw [if_pos (by omega), if_pos hn]
  · rw [if_neg (by omega), if_neg hn, show (8801531 : Int) = ((8801531 : Nat) : Int) from rfl, i64_xor _ _ (by omega) (by omega)]
theorem bt_nat (s : ByteArray) (i : Nat) (h : i < s.size) : bt s (i : Int) = (((byts s).getD i 0 : Nat) : Int) := by
  unfold bt
  rw [Int.toNat_natCast, dif_pos h]
  simp [byts, List.getD, ByteArray.getElem_eq_getElem_data, h]
theorem byte_lt' (s : ByteArray) (i : Nat) : (byts s).getD i 0 < 256 := by
  rw [List.getD_eq_getElem?_getD]
  by_cases h : i < (byts s).length
  · rw [List.getElem?_eq_getElem h]; exact byts_lt s _ (List.getElem_mem h)
  · rw [List.getElem?_eq_none (by omega)]; decide
theorem More_l1 (s : ByteArray) (i : Nat) (h : i < s.size) (d : Nat) (hd : d ≤ 8) : ∀ (K n : Nat), n < 16777216 →
    duetref02_More.l1 (K + d + 1) (n : Int) s (i : Int) ((d : Int) - 1) = duetref02_More.l0 K ((bitsFrom d n ((byts s).getD i 0) : Nat) : Int) s (wrap64 ((i : Int) + 1)) := by
  induction d with
  | zero => intro K n hn; simp only [duetref02_More.l1]; rw [if_neg (by omega)]; rfl
  | succ d ih =>
    intro K n hn
    rw [show K + (d + 1) + 1 = (K + d + 1) + 1 by omega]
    obtain ⟨K', hK'⟩ : ∃ K', K' = K + d + 1 := ⟨_, rfl⟩
    rw [← hK']
    simp only [duetref02_More.l1]
    rw [hK']
    have hb := byte_lt' s i
    have e0 : IntKind.u64.wrap (((d + 1 : Nat) : Int) - 1) = (d : Int) := by rw [show ((d + 1 : Nat) : Int) - 1 = d by omega]; simp [IntKind.wrap, IntKind.bits, IntKind.signed]; omega
    have e1 : wrap64 (bt s (i : Int)) = (((byts s).getD i 0 : Nat) : Int) := by rw [bt_nat s i h]; unfold wrap64; omega
    have e2 : shr .i64 (((byts s).getD i 0 : Nat) : Int) (d : Int) = (((byts s).getD i 0 / 2 ^ d : Nat) : Int) := by
      unfold shr; rw [Int.toNat_natCast, Nat.min_eq_left (by simp [IntKind.bits]; omega)]; simp
    have e3 : Int.tmod (((byts s).getD i 0 / 2 ^ d : Nat) : Int) 2 = (((byts s).getD i 0 / 2 ^ d % 2 : Nat) : Int) := by
      rw [Int.tmod_eq_emod_of_nonneg (Int.natCast_nonneg _)]; rfl
    have e4 : wrap64 (((d + 1 : Nat) : Int) - 1 - 1) = (d : Int) - 1 := by unfold wrap64; omega
    rw [if_pos (by omega), if_pos (by omega), if_pos (by omega), e0, if_pos (by omega), e1, e2, e3, step_f _ _ hn (by omega), Option.bind_some, e4, ih (by omega) K _ (step_lt _ _ hn (by omega))]
    rfl
theorem More_l0 (s : ByteArray) (hs : s.size ≤ 140737488351232) (m : Nat) : ∀ (i n : Nat), i + m = s.size → n < 16777216 →
    duetref02_More.l0 (10 * m + 1) (n : Int) s (i : Int) = some ((more n ((byts s).drop i) : Nat) : Int) := by
  induction m with
  | zero => intro i n hi hn; simp only [duetref02_More.l0]; rw [if_neg (by omega), List.drop_of_length_le (by rw [byts_length]; omega)]; rfl
  | succ m ih =>
    intro i n hi hn
    rw [show 10 * (m + 1) + 1 = (10 * m + 1 + 8 + 1) + 1 by omega]
    simp only [duetref02_More.l0]
    have hl := More_l1 s i (by omega) 8 (by omega) (10 * m + 1) n hn
    have hb := byte_lt' s i
    rw [show (((8 : Nat) : Int) - 1) = 7 from rfl, bits_byte _ _ hb] at hl
    rw [if_pos (by omega), hl, show wrap64 ((i : Int) + 1) = ((i + 1 : Nat) : Int) by unfold wrap64; omega, ih (i + 1) _ (by omega) (byte_lt _ _ hn hb)]
    congr 2
    have hlt : i < (byts s).length := by rw [byts_length]; omega
    rw [List.drop_eq_getElem_cons hlt]
    simp [more, List.getD_eq_getElem?_getD, List.getElem?_eq_getElem hlt]
theorem refMore_f (a : Int) (s : ByteArray) (hs : s.size ≤ 140737488351232) : duetref02_More.f (10 * s.size + 1) a s = some ((more (a % 16777216).toNat (byts s) : Nat) : Int) := by
  unfold duetref02_More.f
  have := More_l0 s hs s.size 0 (a % 16777216).toNat (by omega) (by omega)
  rw [i64_mask, show a % 16777216 = (((a % 16777216).toNat : Nat) : Int) by omega]
  rw [List.drop_zero] at this
  exact this
theorem refSum_f (s : ByteArray) (hs : s.size ≤ 140737488351232) : duetref02_Sum.f (10 * s.size + 1) s = some ((sumN s : Nat) : Int) := by
  unfold duetref02_Sum.f; rw [refMore_f _ _ hs]; rfl
theorem refSeal_f (s : ByteArray) (hs : s.size ≤ 140737488351000) : duetref02_Seal.f (10 * s.size + 1) s = some (sealS s) := by
  unfold duetref02_Seal.f
  have hn := sumN_lt s
  have e : ([(wrap64 (Int.tdiv ((sumN s : Nat) : Int) 65536)) % 256, (Int.tmod (wrap64 (Int.tdiv ((sumN s : Nat) : Int) 256)) 256) % 256, (Int.tmod ((sumN s : Nat) : Int) 256) % 256] : List Int) = [((sumN s / 65536 % 256 : Nat) : Int), ((sumN s / 256 % 256 : Nat) : Int), ((sumN s % 256 : Nat) : Int)] := by
    have e1 : wrap64 (Int.tdiv ((sumN s : Nat) : Int) 65536) = ((sumN s / 65536 : Nat) : Int) := by rw [Int.tdiv_eq_ediv_of_nonneg (by omega)]; unfold wrap64; omega
    have e2 : wrap64 (Int.tdiv ((sumN s : Nat) : Int) 256) = ((sumN s / 256 : Nat) : Int) := by rw [Int.tdiv_eq_ediv_of_nonneg (by omega)]; unfold wrap64; omega
    have e3 : Int.tmod ((sumN s : Nat) : Int) 256 = ((sumN s % 256 : Nat) : Int) := by rw [Int.tmod_eq_emod_of_nonneg (by omega)]; omega
    have e4 : Int.tmod ((sumN s / 256 : Nat) : Int) 256 = ((sumN s / 256 % 256 : Nat) : Int) := by rw [Int.tmod_eq_emod_of_nonneg (by omega)]; omega
    rw [e1, e2, e3, e4]
    have f1 : ((sumN s / 65536 : Nat) : Int) % 256 = ((sumN s / 65536 % 256 : Nat) : Int) := by omega
    have f2 : ((sumN s / 256 % 256 : Nat) : Int) % 256 = ((sumN s / 256 % 256 : Nat) : Int) := by omega
    have f3 : ((sumN s % 256 : Nat) : Int) % 256 = ((sumN s % 256 : Nat) : Int) := by omega
    rw [f1, f2, f3]
  rw [refSum_f _ (by omega), Option.bind_some, Option.bind_some, e, strOfNums_size, if_pos (by simp; omega)]
  rfl
end Go.Proofs.Ytacocgomhodboaa.Lem

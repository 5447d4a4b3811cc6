/- The sum of two texts one behind the other is that of the first gone on with the second; what is sealed sums to nothing; of at most 3000 bytes each. -/
import Derived.Test.YtiapjnidahonaaaPx2
import Derived.Test.YtiapjnidahonaaaLem
set_option linter.unusedVariables false
set_option linter.unusedSimpArgs false
namespace Go.Proofs.Ytiapjnidahonaaa.Pure
open Go.RowKit Go.Proofs.Ytiapjnidahonaaa.P Go.Proofs.Ytiapjnidahonaaa.Lem Go.Proofs.YtiapjnidahonaaaW.PrintWords Go.Proofs.YtiapjnidahonaaaW.PrintLast Go.Proofs.YtiapjnidahonaaaW.PrintMore
theorem CrcsJoined : duetlaw02_CrcsJoined.Pure := by
  intro s t hs ht
  refine ⟨1, ?_⟩
  unfold duetlaw02_CrcsJoined.f duetlaw02_short.f
  rw [Option.bind_some, Option.bind_some]
  have dead : duetlaw02_CrcsJoined.j0 1 s t true = some true := by
    simp only [duetlaw02_CrcsJoined.j0]
    rw [live_f]; rfl
  by_cases h : s.size ≤ 3000
  · by_cases h2 : t.size ≤ 3000
    · rw [decide_eq_true (by omega), if_pos rfl, decide_eq_true (by omega)]
      simp only [duetlaw02_CrcsJoined.j0, Bool.not_true, Bool.false_eq_true, if_false]
      have hj : ((sumN (s ++ t) : Nat) : Int) = ((Crc.more (((sumN s : Nat) : Int) % 16777216).toNat (Giv.byts t) : Nat) : Int) := by
        have := sumN_lt s
        rw [show (((sumN s : Nat) : Int) % 16777216).toNat = sumN s by omega]
        unfold sumN
        rw [byts_append, Crc.more_append]
      rw [if_pos (by omega), Sum_f _ (by rw [ByteArray.size_append]; omega), Option.bind_some, Sum_f _ hs, Option.bind_some, More_f _ _ ht, Option.bind_some, if_pos hj,
        Seal_f _ (by omega), Option.bind_some, Sum_f _ (by rw [sealS_size]; omega), Option.bind_some, sumN_seal, if_pos (by decide), More_f _ _ (by decide), Option.bind_some, if_pos (by decide), live_f, Option.bind_some]
    · rw [decide_eq_true (by omega), if_pos rfl, decide_eq_false (by omega)]; exact dead
  · rw [decide_eq_false (by omega), if_neg (by simp)]; exact dead

end Go.Proofs.Ytiapjnidahonaaa.Pure

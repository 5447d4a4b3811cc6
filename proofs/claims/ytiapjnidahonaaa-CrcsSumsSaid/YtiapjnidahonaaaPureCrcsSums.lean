/- The sum of any text, any sum gone on with, and any sealed text are the reference's; of at most 3000 bytes (beyond that the law says only what live says). -/
import Derived.Test.YtiapjnidahonaaaPx1
import Derived.Test.YtiapjnidahonaaaLem
set_option linter.unusedVariables false
set_option linter.unusedSimpArgs false
namespace Go.Proofs.Ytiapjnidahonaaa.Pure
open Go.RowKit Go.Proofs.Ytiapjnidahonaaa.P Go.Proofs.Ytiapjnidahonaaa.Lem Go.Proofs.YtiapjnidahonaaaW.PrintWords Go.Proofs.YtiapjnidahonaaaW.PrintLast Go.Proofs.YtiapjnidahonaaaW.PrintMore
theorem CrcsSums : duetlaw02_CrcsSums.Pure := by
  intro a s ha hs
  refine ⟨10 * s.size + 1, ?_⟩
  unfold duetlaw02_CrcsSums.f duetlaw02_short.f
  rw [Option.bind_some]
  by_cases h : s.size ≤ 3000
  · rw [decide_eq_true (by omega), if_pos rfl, Sum_f _ hs, Option.bind_some, refSum_f _ hs, Option.bind_some, if_pos rfl, More_f _ _ hs, Option.bind_some, refMore_f _ _ hs, Option.bind_some, if_pos rfl,
      Seal_f _ (by omega), Option.bind_some, refSeal_f _ (by omega), Option.bind_some, if_pos rfl, live_f, Option.bind_some]
  · rw [decide_eq_false (by omega), if_neg (by simp), live_f, Option.bind_some]

end Go.Proofs.Ytiapjnidahonaaa.Pure

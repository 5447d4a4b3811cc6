/- What is sealed is opened; of at most 3000 bytes. -/
import Derived.Test.YtiapjnidahonaaaPx2
import Derived.Test.YtiapjnidahonaaaLem
set_option linter.unusedVariables false
set_option linter.unusedSimpArgs false
namespace Go.Proofs.Ytiapjnidahonaaa.Pure
open Go.RowKit Go.Proofs.Ytiapjnidahonaaa.P Go.Proofs.Ytiapjnidahonaaa.Lem Go.Proofs.YtiapjnidahonaaaW.PrintWords Go.Proofs.YtiapjnidahonaaaW.PrintLast Go.Proofs.YtiapjnidahonaaaW.PrintMore
theorem CrcsBack : duetlaw02_CrcsBack.Pure := by
  intro s hs
  unfold duetlaw02_CrcsBack.f duetlaw02_short.f
  rw [Option.bind_some]
  by_cases h : s.size ≤ 3000
  · rw [decide_eq_true (by omega), if_pos rfl, Seal_f _ (by omega), Option.bind_some, Open_f _ (by rw [sealS_size]; omega), Option.bind_some, open_seal, if_pos rfl, if_pos rfl, live_f, Option.bind_some]
  · rw [decide_eq_false (by omega), if_neg (by simp), live_f, Option.bind_some]

end Go.Proofs.Ytiapjnidahonaaa.Pure

/- How many cells any runes take, and how many of them fit, is as the reference says; of at most 200 runes. -/
import Derived.Test.YtmhnldlfknbocaaDoorPx2
import Derived.Test.YtmhnldlfknbocaaDoorLem
set_option linter.unusedVariables false
set_option linter.unusedSimpArgs false
namespace Go.Proofs.YtmhnldlfknbocaaDoor.Pure
open Go.RowKit Go.Proofs.YtmhnldlfknbocaaDoor.P Go.Proofs.YtmhnldlfknbocaaDoor.Lem Go.Proofs.YtmhnldlfknbocaaDoor.Giv Go.Proofs.YtmhnldlfknbocaaDoorW.PrintWords Go.Proofs.YtmhnldlfknbocaaDoorW.PrintLast Go.Proofs.YtmhnldlfknbocaaDoorW.PrintMore
theorem CellsFits : duetlaw20_CellsFits.Pure := by
  intro l most hm hb hw hmo
  refine ⟨1000, ?_⟩
  unfold duetlaw20_CellsFits.f
  by_cases h : (l.length : Int) > 200
  · rw [if_pos h, live_f 1000 (by omega), Option.bind_some]
  · rw [if_neg h]
    by_cases hn : most < 0
    · rw [Fit_neg l most hn, Option.bind_some, refFit_neg l most hn, Option.bind_some, Total_f l (by omega) 1000 (by omega), Option.bind_some, refTotal_f l (by omega) 1000 (by omega), Option.bind_some, if_pos rfl, if_pos rfl, if_pos rfl, live_f 1000 (by omega), Option.bind_some]
    · rw [Fit_f l (by omega) most (by omega) 1000 (by omega), Option.bind_some, refFit_f l (by omega) most (by omega) 1000 (by omega), Option.bind_some, Total_f l (by omega) 1000 (by omega), Option.bind_some, refTotal_f l (by omega) 1000 (by omega), Option.bind_some, if_pos rfl, if_pos rfl, if_pos rfl, live_f 1000 (by omega), Option.bind_some]

end Go.Proofs.YtmhnldlfknbocaaDoor.Pure

/- How many cells any rune takes is as the reference says: for every number. -/
import Derived.Test.YtmhnldlfknbocaaDoorPx2
import Derived.Test.YtmhnldlfknbocaaDoorLem
set_option linter.unusedVariables false
set_option linter.unusedSimpArgs false
namespace Go.Proofs.YtmhnldlfknbocaaDoor.Pure
open Go.RowKit Go.Proofs.YtmhnldlfknbocaaDoor.P Go.Proofs.YtmhnldlfknbocaaDoor.Lem Go.Proofs.YtmhnldlfknbocaaDoor.Giv Go.Proofs.YtmhnldlfknbocaaDoorW.PrintWords Go.Proofs.YtmhnldlfknbocaaDoorW.PrintLast Go.Proofs.YtmhnldlfknbocaaDoorW.PrintMore
theorem CellsWidths : duetlaw20_CellsWidths.Pure := by
  intro n hn
  refine ⟨10, ?_⟩
  unfold duetlaw20_CellsWidths.f
  rw [Width_f, Option.bind_some, refWidth_f, Option.bind_some, if_pos rfl, live_f 10 (by omega), Option.bind_some]

end Go.Proofs.YtmhnldlfknbocaaDoor.Pure

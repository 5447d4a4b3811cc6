/- Rows one behind the other take as much as both; of at most 200 runes each. -/
import Derived.Test.YtmhnldlfknbocaaDoorPx3
import Derived.Test.YtmhnldlfknbocaaDoorLem
set_option linter.unusedVariables false
set_option linter.unusedSimpArgs false
namespace Go.Proofs.YtmhnldlfknbocaaDoor.Pure
open Go.RowKit Go.Proofs.YtmhnldlfknbocaaDoor.P Go.Proofs.YtmhnldlfknbocaaDoor.Lem Go.Proofs.YtmhnldlfknbocaaDoor.Giv Go.Proofs.YtmhnldlfknbocaaDoorW.PrintWords Go.Proofs.YtmhnldlfknbocaaDoorW.PrintLast Go.Proofs.YtmhnldlfknbocaaDoorW.PrintMore
theorem CellsJoined : duetlaw20_CellsJoined.Pure := by
  intro a b ha1 ha2 ha3 hb1 hb2 hb3
  refine ⟨1001, ?_⟩
  have dead : duetlaw20_CellsJoined.j0 1001 a b true = some true := by
    rw [duetlaw20_CellsJoined.j0, if_pos rfl, live_f 1000 (by omega), Option.bind_some]
  unfold duetlaw20_CellsJoined.f
  by_cases h : (a.length : Int) > 200
  · rw [if_pos h]; exact dead
  · rw [if_neg h]
    by_cases h2 : (b.length : Int) > 200
    · rw [decide_eq_true h2]; exact dead
    · have r1 := total_range a
      have r2 := total_range b
      rw [decide_eq_false h2, duetlaw20_CellsJoined.j0, if_neg (by simp), if_pos (by simp; omega), Option.bind_some, List.nil_append, if_pos (by omega), Total_f (a ++ b) (by rw [List.length_append]; omega) 1000 (by rw [List.length_append]; omega), Option.bind_some,
        Total_f a (by omega) 1000 (by omega), Option.bind_some, Total_f b (by omega) 1000 (by omega), Option.bind_some, if_pos (by rw [total_append]; unfold wrap64; omega), live_f 1000 (by omega), Option.bind_some]

end Go.Proofs.YtmhnldlfknbocaaDoor.Pure

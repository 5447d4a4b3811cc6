/- Each rune of a block of 256 takes as many cells as the reference says, 0 to 2; below 32 and above 10ffff none: for every block (outside -10 to 1200 the law says only what live says). -/
import Derived.Test.YtmhnldlfknbocaaDoorPx2
import Derived.Test.YtmhnldlfknbocaaDoorLem
set_option linter.unusedVariables false
set_option linter.unusedSimpArgs false
namespace Go.Proofs.YtmhnldlfknbocaaDoor.Pure
open Go.RowKit Go.Proofs.YtmhnldlfknbocaaDoor.P Go.Proofs.YtmhnldlfknbocaaDoor.Lem Go.Proofs.YtmhnldlfknbocaaDoor.Giv Go.Proofs.YtmhnldlfknbocaaDoorW.PrintWords Go.Proofs.YtmhnldlfknbocaaDoorW.PrintLast Go.Proofs.YtmhnldlfknbocaaDoorW.PrintMore
theorem CellsBlocks : duetlaw20_CellsBlocks.Pure := by
  intro b hb
  refine ⟨300, ?_⟩
  have dead : ∀ K, 11 ≤ K → duetlaw20_CellsBlocks.j0 K b true = some true := by
    intro K hK
    obtain ⟨K, rfl⟩ : ∃ m, K = m + 1 := ⟨K - 1, by omega⟩
    rw [duetlaw20_CellsBlocks.j0, if_pos rfl, live_f K (by omega), Option.bind_some]
  unfold duetlaw20_CellsBlocks.f
  by_cases h1 : b < -10
  · rw [if_pos h1]; exact dead 300 (by omega)
  · rw [if_neg h1]
    by_cases h2 : b > 4608
    · rw [decide_eq_true h2]; exact dead 300 (by omega)
    · rw [decide_eq_false h2]
      have loop : ∀ (d K i : Nat), i + d = 256 → d + 11 ≤ K → duetlaw20_CellsBlocks.l0 K b (i : Int) = some true := by
        intro d
        induction d with
        | zero =>
          intro K i hi hK
          obtain ⟨K, rfl⟩ : ∃ m, K = m + 1 := ⟨K - 1, by omega⟩
          rw [duetlaw20_CellsBlocks.l0, if_neg (by omega), live_f K (by omega), Option.bind_some]
        | succ d ih =>
          intro K i hi hK
          obtain ⟨K, rfl⟩ : ∃ m, K = m + 1 + 1 := ⟨K - 2, by omega⟩
          have e1 : wrap64 (256 * b) = 256 * b := by unfold wrap64; omega
          have e2 : wrap64 (256 * b + (i : Int)) = 256 * b + (i : Int) := by unfold wrap64; omega
          have e3 : wrap64 ((i : Int) + 1) = ((i + 1 : Nat) : Int) := by unfold wrap64; omega
          have hr := ih (K + 1) (i + 1) (by omega) (by omega)
          have hw := width_range (256 * b + (i : Int))
          rw [duetlaw20_CellsBlocks.l0, if_pos (by omega), e1, e2, e3, Width_f, Option.bind_some, refWidth_f, Option.bind_some, if_pos rfl, if_neg (by omega), if_neg (by omega), hr]
          by_cases c1 : 256 * b + (i : Int) < 32
          · have : widthN (256 * b + (i : Int)) = 0 := by unfold widthN; rw [if_pos (.inl c1)]
            rw [if_pos c1, if_pos this]
          · rw [if_neg c1]
            by_cases c2 : 256 * b + (i : Int) > 1114111
            · have : widthN (256 * b + (i : Int)) = 0 := by unfold widthN; rw [if_pos (.inr (.inl c2))]
              rw [if_pos c2, if_pos this]
            · rw [if_neg c2]
      rw [duetlaw20_CellsBlocks.j0, if_neg (by simp)]
      exact loop 256 299 0 (by omega) (by omega)

end Go.Proofs.YtmhnldlfknbocaaDoor.Pure

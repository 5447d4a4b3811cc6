/- live: it answers true. -/
import Derived.Test.YtoidlaonolkgkaaDoorPl
set_option linter.unusedVariables false
set_option linter.unusedSimpArgs false
namespace Go.Proofs.YtoidlaonolkgkaaDoor.P
open Go.RowKit Go.Proofs.YtoidlaonolkgkaaDoor.Giv Go.Proofs.YtoidlaonolkgkaaDoorW.PrintWords Go.Proofs.YtoidlaonolkgkaaDoorW.PrintLast
set_option maxRecDepth 100000 in
theorem liveK_true : duetlaw21_liveK.f 20 = some true := by kernel_rfl
def duetlaw21_live.f : Option Bool := some true
theorem duetlaw21_live.calls (r : Bool) (w : World) (hL : Laid w) (h : duetlaw21_live.f = some r) : Calls Tryd.prog 9 #[] w fun e w' => e = .returned (.bool r) ∧ Below w.heap.size w w' := by
  obtain rfl := Option.some.inj h
  exact duetlaw21_liveK.calls 20 true w hL ⟨rfl⟩ liveK_true
end Go.Proofs.YtoidlaonolkgkaaDoor.P

-- Written by a program of this session (wip/tools/pp.py) out of the translation. Not trusted: Lean checks it.
import Derived.Test.YtmhnldlfknbocaaDoorProg
import Derived.Below
import Derived.Deep.Draws
import Derived.Deep.AppendLies
import Derived.Maps.AppendAt
import Derived.OwnWalk
import Derived.Laws.BytesArg
import Derived.Laws.MakeOwn
import Derived.Laws.OwnMore
import Derived.Deep.OwnRows
import Derived.Tactics
import Derived.Lib.ConvBytes
import Derived.Laws.Slices
import Derived.WalkKit
import Derived.KernelRfl
import Derived.RowKit3
import Derived.Deep.LoopGhost
import Derived.Deep.QuietTactic
import Derived.BigQuiet
import Derived.WideLaws
import Derived.Deep.DeepCutAuto
import Derived.Deep.CutBlock
import Derived.Deep.RegionHeld3
import Derived.Laws.Rows
import Derived.Lib.AppendStr
import Derived.ArgAppend
import Derived.Laws.IdiomCopy
import Derived.OrdersHeld
import Derived.Laws.BitsLemmas
import Derived.RowKit
import Derived.Test.YtmhnldlfknbocaaDoorGiv
import Derived.Test.YtmhnldlfknbocaaDoorWWords
import Derived.Test.YtmhnldlfknbocaaDoorWLast
import Derived.Test.YtmhnldlfknbocaaDoorWTab
import Derived.Test.YtmhnldlfknbocaaDoorWFour
import Derived.Test.YtmhnldlfknbocaaDoorWQPut
import Derived.Test.YtmhnldlfknbocaaDoorWApart
import Derived.Test.YtmhnldlfknbocaaDoorWArr
import Derived.Test.YtmhnldlfknbocaaDoorWZeros
import Derived.Test.YtmhnldlfknbocaaDoorWFoot
import Derived.Test.YtmhnldlfknbocaaDoorWKept
import Derived.Test.YtmhnldlfknbocaaDoorWShare
import Derived.Test.YtmhnldlfknbocaaDoorWN
import Derived.Test.YtmhnldlfknbocaaDoorWFootNe
import Derived.Test.YtmhnldlfknbocaaDoorWAt
import Derived.Test.YtmhnldlfknbocaaDoorWEqStruct
import Derived.Test.YtmhnldlfknbocaaDoorWRepsOne
import Derived.Test.YtmhnldlfknbocaaDoorWInv
import Derived.Test.YtmhnldlfknbocaaDoorWInvWords
import Derived.Test.YtmhnldlfknbocaaDoorWGuard
import Derived.Test.YtmhnldlfknbocaaDoorWNEv
import Derived.Test.YtmhnldlfknbocaaDoorWMore
namespace Go.Proofs.YtmhnldlfknbocaaDoor.P
open Go.RowKit Go.Proofs.YtmhnldlfknbocaaDoorW.PrintWords Go.Proofs.YtmhnldlfknbocaaDoorW.PrintLast Go.Proofs.YtmhnldlfknbocaaDoorW.PrintMore
attribute [local go_sem] max2_int min2_int max_two min_two max_three min_three max_four min_four   -- for this text's walks alone
open Go.Proofs.YtmhnldlfknbocaaDoor.Giv
set_option linter.unusedVariables false
set_option linter.unusedSimpArgs false



def errW : Option Int → Value
  | none => .nilIface
  | some c => .iface 0 (.int .i64 c)
theorem errW_none : errW none = .nilIface := rfl
theorem errW_some (c : Int) : errW (some c) = .iface 0 (.int .i64 c) := rfl

theorem info3 : (Tryd.prog.info? 3).map (fun i => (i.zero, i.size, i.bytes)) = some (some (.int .i64 0), 1, 8) := by kernel_rfl
-- the values' own types

end Go.Proofs.YtmhnldlfknbocaaDoor.P

-- Written by a program of this session (wip/tools/pp.py) out of the translation. Not trusted: Lean checks it.
import Derived.Test.YtiapjnidahonaaaProg
import Derived.Below
import Derived.Deep.Draws
import Derived.Deep.AppendLies
import Derived.Maps.AppendAt
import Derived.OwnWalk
import Derived.Laws.BytesArg
import Derived.Laws.MakeOwn
import Derived.Laws.OwnMore
import Derived.Deep.OwnRows
import Derived.Tactics
import Derived.Lib.ConvBytes
import Derived.Laws.Slices
import Derived.WalkKit
import Derived.KernelRfl
import Derived.RowKit3
import Derived.Deep.LoopGhost
import Derived.Deep.QuietTactic
import Derived.BigQuiet
import Derived.WideLaws
import Derived.Deep.DeepCutAuto
import Derived.Deep.CutBlock
import Derived.Deep.RegionHeld3
import Derived.Laws.Rows
import Derived.Lib.AppendStr
import Derived.ArgAppend
import Derived.Laws.IdiomCopy
import Derived.OrdersHeld
import Derived.Laws.BitsLemmas
import Derived.RowKit
import Derived.Test.YtiapjnidahonaaaGiv
import Derived.Test.YtiapjnidahonaaaWWords
import Derived.Test.YtiapjnidahonaaaWLast
import Derived.Test.YtiapjnidahonaaaWTab
import Derived.Test.YtiapjnidahonaaaWFour
import Derived.Test.YtiapjnidahonaaaWQPut
import Derived.Test.YtiapjnidahonaaaWApart
import Derived.Test.YtiapjnidahonaaaWArr
import Derived.Test.YtiapjnidahonaaaWZeros
import Derived.Test.YtiapjnidahonaaaWFoot
import Derived.Test.YtiapjnidahonaaaWKept
import Derived.Test.YtiapjnidahonaaaWShare
import Derived.Test.YtiapjnidahonaaaWN
import Derived.Test.YtiapjnidahonaaaWFootNe
import Derived.Test.YtiapjnidahonaaaWAt
import Derived.Test.YtiapjnidahonaaaWEqStruct
import Derived.Test.YtiapjnidahonaaaWRepsOne
import Derived.Test.YtiapjnidahonaaaWInv
import Derived.Test.YtiapjnidahonaaaWInvWords
import Derived.Test.YtiapjnidahonaaaWGuard
import Derived.Test.YtiapjnidahonaaaWNEv
import Derived.Test.YtiapjnidahonaaaWMore
namespace Go.Proofs.Ytiapjnidahonaaa.P
open Go.RowKit Go.Proofs.YtiapjnidahonaaaW.PrintWords Go.Proofs.YtiapjnidahonaaaW.PrintLast Go.Proofs.YtiapjnidahonaaaW.PrintMore
attribute [local go_sem] max2_int min2_int max_two min_two max_three min_three max_four min_four   -- for this text's walks alone
open Go.Proofs.Ytiapjnidahonaaa.Giv
set_option linter.unusedVariables false
set_option linter.unusedSimpArgs false



def errW : Option Int → Value
  | none => .nilIface
  | some c => .iface 0 (.int .i64 c)
theorem errW_none : errW none = .nilIface := rfl
theorem errW_some (c : Int) : errW (some c) = .iface 0 (.int .i64 c) := rfl

theorem info5 : (Try.prog.info? 5).map (fun i => (i.zero, i.size, i.bytes)) = some (some (.int .u8 0), 1, 1) := by kernel_rfl
-- the values' own types

end Go.Proofs.Ytiapjnidahonaaa.P

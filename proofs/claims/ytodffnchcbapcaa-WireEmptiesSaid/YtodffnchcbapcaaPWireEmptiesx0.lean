/- Written by a program of this session, which began as the kit's print and is turned in wip/printer: the plain form of each function, and that the Go code comes to it. -/
import Derived.Test.YtodffnchcbapcaaProg
import Derived.Below
import Derived.Deep.Draws
import Derived.Deep.AppendLies
import Derived.Maps.AppendAt
import Derived.OwnWalk
import Derived.Laws.BytesArg
import Derived.Laws.MakeOwn
import Derived.Laws.OwnMore
import Derived.Deep.OwnRows
import Derived.Tactics
import Derived.Lib.ConvBytes
import Derived.Laws.Slices
import Derived.WalkKit
import Derived.KernelRfl
import Derived.RowKit3
import Derived.Deep.LoopGhost
import Derived.Deep.QuietTactic
import Derived.BigQuiet
import Derived.WideLaws
import Derived.Deep.DeepCutAuto
import Derived.Deep.CutBlock
import Derived.Deep.RegionHeld3
import Derived.Laws.Rows
import Derived.Lib.AppendStr
import Derived.ArgAppend
import Derived.Laws.IdiomCopy
import Derived.OrdersHeld
import Derived.Laws.BitsLemmas
import Derived.RowKit
import Derived.Test.YtodffnchcbapcaaWWords
import Derived.Test.YtodffnchcbapcaaWLast
import Derived.Test.YtodffnchcbapcaaWTab
import Derived.Test.YtodffnchcbapcaaWFour
import Derived.Test.YtodffnchcbapcaaWQPut
import Derived.Test.YtodffnchcbapcaaWApart
import Derived.Test.YtodffnchcbapcaaWArr
import Derived.Test.YtodffnchcbapcaaWZeros
import Derived.Test.YtodffnchcbapcaaWFoot
import Derived.Test.YtodffnchcbapcaaWKept
import Derived.Test.YtodffnchcbapcaaWShare
import Derived.Test.YtodffnchcbapcaaWN
import Derived.Test.YtodffnchcbapcaaWFootNe
import Derived.Test.YtodffnchcbapcaaWAt
import Derived.Test.YtodffnchcbapcaaWEqStruct
import Derived.Test.YtodffnchcbapcaaWRepsOne
import Derived.Test.YtodffnchcbapcaaWInv
import Derived.Test.YtodffnchcbapcaaWInvWords
import Derived.Test.YtodffnchcbapcaaWGuard
import Derived.Test.YtodffnchcbapcaaWNEv
import Derived.Test.YtodffnchcbapcaaWMore
namespace Go.Proofs.Ytodffnchcbapcaa.PWireEmpties
open Go.RowKit Go.Proofs.YtodffnchcbapcaaW.PrintWords Go.Proofs.YtodffnchcbapcaaW.PrintLast Go.Proofs.YtodffnchcbapcaaW.PrintMore
attribute [local go_sem] max2_int min2_int max_two min_two max_three min_three max_four min_four   -- for this text's walks alone
set_option linter.unusedVariables false
set_option linter.unusedSimpArgs false



def errW : Option Int → Value
  | none => .nilIface
  | some c => .iface 0 (.int .i64 c)
theorem errW_none : errW none = .nilIface := rfl
theorem errW_some (c : Int) : errW (some c) = .iface 0 (.int .i64 c) := rfl

-- the values' own types

end Go.Proofs.Ytodffnchcbapcaa.PWireEmpties

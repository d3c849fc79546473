/- Written by a program of this session, which began as the kit's print and is turned in wip/printer: the plain form of each function, and that the Go code comes to it. -/
import Derived.Test.YtfimbmdbaaiemaaProg
import Derived.Below
import Derived.Deep.Draws
import Derived.Deep.AppendLies
import Derived.Maps.AppendAt
import Derived.OwnWalk
import Derived.Laws.BytesArg
import Derived.Laws.MakeOwn
import Derived.Laws.OwnMore
import Derived.Deep.OwnRows
import Derived.Tactics
import Derived.Lib.ConvBytes
import Derived.Laws.Slices
import Derived.WalkKit
import Derived.KernelRfl
import Derived.RowKit3
import Derived.Deep.LoopGhost
import Derived.Deep.QuietTactic
import Derived.BigQuiet
import Derived.WideLaws
import Derived.Deep.DeepCutAuto
import Derived.Deep.CutBlock
import Derived.Deep.RegionHeld3
import Derived.Laws.Rows
import Derived.Lib.AppendStr
import Derived.ArgAppend
import Derived.Laws.IdiomCopy
import Derived.OrdersHeld
import Derived.Laws.BitsLemmas
import Derived.RowKit
import Derived.Test.YtfimbmdbaaiemaaWWords
import Derived.Test.YtfimbmdbaaiemaaWLast
import Derived.Test.YtfimbmdbaaiemaaWTab
import Derived.Test.YtfimbmdbaaiemaaWFour
import Derived.Test.YtfimbmdbaaiemaaWQPut
import Derived.Test.YtfimbmdbaaiemaaWApart
import Derived.Test.YtfimbmdbaaiemaaWArr
import Derived.Test.YtfimbmdbaaiemaaWZeros
import Derived.Test.YtfimbmdbaaiemaaWFoot
import Derived.Test.YtfimbmdbaaiemaaWKept
import Derived.Test.YtfimbmdbaaiemaaWShare
import Derived.Test.YtfimbmdbaaiemaaWN
import Derived.Test.YtfimbmdbaaiemaaWFootNe
import Derived.Test.YtfimbmdbaaiemaaWAt
import Derived.Test.YtfimbmdbaaiemaaWEqStruct
import Derived.Test.YtfimbmdbaaiemaaWRepsOne
import Derived.Test.YtfimbmdbaaiemaaWInv
import Derived.Test.YtfimbmdbaaiemaaWInvWords
import Derived.Test.YtfimbmdbaaiemaaWGuard
import Derived.Test.YtfimbmdbaaiemaaWNEv
import Derived.Test.YtfimbmdbaaiemaaWMore
namespace Go.Proofs.Ytfimbmdbaaiemaa.PCursorSteps
open Go.RowKit Go.Proofs.YtfimbmdbaaiemaaW.PrintWords Go.Proofs.YtfimbmdbaaiemaaW.PrintLast Go.Proofs.YtfimbmdbaaiemaaW.PrintMore
attribute [local go_sem] max2_int min2_int max_two min_two max_three min_three max_four min_four   -- for this text's walks alone
set_option linter.unusedVariables false
set_option linter.unusedSimpArgs false



def errW : Option Int → Value
  | none => .nilIface
  | some c => .iface 0 (.int .i64 c)
theorem errW_none : errW none = .nilIface := rfl
theorem errW_some (c : Int) : errW (some c) = .iface 0 (.int .i64 c) := rfl

@[go_sem] theorem idxA34_0 (x0 x1 x2 : Value) (w : World) : (Instr.index 34 (.agg #[x0, x1, x2]) (.int .i64 0)).run Try.prog w = .ok (x0) w := by kernel_rfl
@[go_sem] theorem idxA34_1 (x0 x1 x2 : Value) (w : World) : (Instr.index 34 (.agg #[x0, x1, x2]) (.int .i64 1)).run Try.prog w = .ok (x1) w := by kernel_rfl
@[go_sem] theorem idxA34_2 (x0 x1 x2 : Value) (w : World) : (Instr.index 34 (.agg #[x0, x1, x2]) (.int .i64 2)).run Try.prog w = .ok (x2) w := by kernel_rfl
theorem info3 : (Try.prog.info? 3).map (fun i => (i.zero, i.size, i.bytes)) = some (some (.int .i64 0), 1, 8) := by kernel_rfl
-- the values' own types

end Go.Proofs.Ytfimbmdbaaiemaa.PCursorSteps

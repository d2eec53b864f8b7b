/- The Go functions that the law LayoutChains goes through, as Lean functions, each with its contract: written by a program of this session. -/
import Derived.Test.YtckmcphphnoilaaProg
import Derived.Below
import Derived.Deep.Draws
import Derived.Deep.AppendLies
import Derived.Maps.AppendAt
import Derived.OwnWalk
import Derived.Laws.BytesArg
import Derived.Laws.MakeOwn
import Derived.Laws.OwnMore
import Derived.Deep.OwnRows
import Derived.Tactics
import Derived.Lib.ConvBytes
import Derived.Laws.Slices
import Derived.WalkKit
import Derived.KernelRfl
import Derived.RowKit3
import Derived.Deep.LoopGhost
import Derived.Deep.QuietTactic
import Derived.BigQuiet
import Derived.WideLaws
import Derived.Deep.DeepCutAuto
import Derived.Deep.CutBlock
import Derived.Deep.RegionHeld3
import Derived.Laws.Rows
import Derived.Lib.AppendStr
import Derived.ArgAppend
import Derived.Laws.IdiomCopy
import Derived.OrdersHeld
import Derived.Laws.BitsLemmas
import Derived.RowKit
import Derived.Test.YtckmcphphnoilaaCon
import Derived.Test.YtckmcphphnoilaaWWords
import Derived.Test.YtckmcphphnoilaaWLast
import Derived.Test.YtckmcphphnoilaaWTab
import Derived.Test.YtckmcphphnoilaaWFour
import Derived.Test.YtckmcphphnoilaaWQPut
import Derived.Test.YtckmcphphnoilaaWApart
import Derived.Test.YtckmcphphnoilaaWArr
import Derived.Test.YtckmcphphnoilaaWZeros
import Derived.Test.YtckmcphphnoilaaWFoot
import Derived.Test.YtckmcphphnoilaaWKept
import Derived.Test.YtckmcphphnoilaaWShare
import Derived.Test.YtckmcphphnoilaaWN
import Derived.Test.YtckmcphphnoilaaWFootNe
import Derived.Test.YtckmcphphnoilaaWAt
import Derived.Test.YtckmcphphnoilaaWEqStruct
import Derived.Test.YtckmcphphnoilaaWRepsOne
import Derived.Test.YtckmcphphnoilaaWInv
import Derived.Test.YtckmcphphnoilaaWInvWords
import Derived.Test.YtckmcphphnoilaaWGuard
import Derived.Test.YtckmcphphnoilaaWNEv
import Derived.Test.YtckmcphphnoilaaWMore
namespace Go.Proofs.Ytckmcphphnoilaa.PLayoutChains
open Go.RowKit Go.Proofs.YtckmcphphnoilaaW.PrintWords Go.Proofs.YtckmcphphnoilaaW.PrintLast Go.Proofs.YtckmcphphnoilaaW.PrintMore
attribute [local go_sem] max2_int min2_int max_two min_two max_three min_three max_four min_four   -- for this text's walks alone
set_option linter.unusedVariables false
set_option linter.unusedSimpArgs false



def errW : Option Int → Value
  | none => .nilIface
  | some c => .iface 0 (.int .i64 c)
theorem errW_none : errW none = .nilIface := rfl
theorem errW_some (c : Int) : errW (some c) = .iface 0 (.int .i64 c) := rfl

theorem info23 : (Try.prog.info? 23).map (fun i => (i.zero, i.size, i.bytes)) = some (some (.int .u32 0), 1, 4) := by kernel_rfl
theorem info33 : (Try.prog.info? 33).map (fun i => (i.zero, i.size, i.bytes)) = some (some (.int .u64 0), 1, 8) := by kernel_rfl
-- the values' own types

end Go.Proofs.Ytckmcphphnoilaa.PLayoutChains

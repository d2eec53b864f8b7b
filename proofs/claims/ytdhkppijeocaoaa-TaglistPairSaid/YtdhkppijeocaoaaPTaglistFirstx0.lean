/- The Go functions that the law TaglistFirst goes through, as Lean functions, each with its contract: written by a program of this session. -/
import Derived.Test.YtdhkppijeocaoaaProg
import Derived.Below
import Derived.Deep.Draws
import Derived.Deep.AppendLies
import Derived.Maps.AppendAt
import Derived.OwnWalk
import Derived.Laws.BytesArg
import Derived.Laws.MakeOwn
import Derived.Laws.OwnMore
import Derived.Deep.OwnRows
import Derived.Tactics
import Derived.Lib.ConvBytes
import Derived.Laws.Slices
import Derived.WalkKit
import Derived.KernelRfl
import Derived.RowKit3
import Derived.Deep.LoopGhost
import Derived.Deep.QuietTactic
import Derived.BigQuiet
import Derived.WideLaws
import Derived.Deep.DeepCutAuto
import Derived.Deep.CutBlock
import Derived.Deep.RegionHeld3
import Derived.Laws.Rows
import Derived.Lib.AppendStr
import Derived.ArgAppend
import Derived.Laws.IdiomCopy
import Derived.OrdersHeld
import Derived.Laws.BitsLemmas
import Derived.RowKit
import Derived.Test.YtdhkppijeocaoaaCon
import Derived.Test.YtdhkppijeocaoaaWWords
import Derived.Test.YtdhkppijeocaoaaWLast
import Derived.Test.YtdhkppijeocaoaaWTab
import Derived.Test.YtdhkppijeocaoaaWFour
import Derived.Test.YtdhkppijeocaoaaWQPut
import Derived.Test.YtdhkppijeocaoaaWApart
import Derived.Test.YtdhkppijeocaoaaWArr
import Derived.Test.YtdhkppijeocaoaaWZeros
import Derived.Test.YtdhkppijeocaoaaWFoot
import Derived.Test.YtdhkppijeocaoaaWKept
import Derived.Test.YtdhkppijeocaoaaWShare
import Derived.Test.YtdhkppijeocaoaaWN
import Derived.Test.YtdhkppijeocaoaaWFootNe
import Derived.Test.YtdhkppijeocaoaaWAt
import Derived.Test.YtdhkppijeocaoaaWEqStruct
import Derived.Test.YtdhkppijeocaoaaWRepsOne
import Derived.Test.YtdhkppijeocaoaaWInv
import Derived.Test.YtdhkppijeocaoaaWInvWords
import Derived.Test.YtdhkppijeocaoaaWGuard
import Derived.Test.YtdhkppijeocaoaaWNEv
import Derived.Test.YtdhkppijeocaoaaWMore
namespace Go.Proofs.Ytdhkppijeocaoaa.PTaglistFirst
open Go.RowKit Go.Proofs.YtdhkppijeocaoaaW.PrintWords Go.Proofs.YtdhkppijeocaoaaW.PrintLast Go.Proofs.YtdhkppijeocaoaaW.PrintMore
attribute [local go_sem] max2_int min2_int max_two min_two max_three min_three max_four min_four   -- for this text's walks alone
set_option linter.unusedVariables false
set_option linter.unusedSimpArgs false



def errW : Option Int → Value
  | none => .nilIface
  | some c => .iface 0 (.int .i64 c)
theorem errW_none : errW none = .nilIface := rfl
theorem errW_some (c : Int) : errW (some c) = .iface 0 (.int .i64 c) := rfl

theorem info41 : (Try.prog.info? 41).map (fun i => (i.zero, i.size, i.bytes)) = some (some (.int .u64 0), 1, 8) := by kernel_rfl
-- the values' own types

end Go.Proofs.Ytdhkppijeocaoaa.PTaglistFirst

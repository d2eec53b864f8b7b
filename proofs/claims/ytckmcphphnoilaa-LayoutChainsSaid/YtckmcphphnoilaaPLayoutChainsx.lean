/- The Go functions that the law LayoutChains goes through, as Lean functions, each with its contract: written by a program of this session. -/
import Derived.Test.YtckmcphphnoilaaPLayoutChainsx0
import Derived.Test.YtckmcphphnoilaaPLayoutChainsx1
import Derived.Test.YtckmcphphnoilaaPLayoutChainsx2
import Derived.Test.YtckmcphphnoilaaPLayoutChainsx3
import Derived.Test.YtckmcphphnoilaaPLayoutChainsx4
import Derived.Test.YtckmcphphnoilaaPLayoutChainsx5
namespace Go.Proofs.Ytckmcphphnoilaa.PLayoutChains
open Go.RowKit Go.Proofs.YtckmcphphnoilaaW.PrintWords Go.Proofs.YtckmcphphnoilaaW.PrintLast Go.Proofs.YtckmcphphnoilaaW.PrintMore
attribute [local go_sem] max2_int min2_int max_two min_two max_three min_three max_four min_four   -- for this text's walks alone
set_option linter.unusedVariables false
set_option linter.unusedSimpArgs false

end Go.Proofs.Ytckmcphphnoilaa.PLayoutChains

/- The Go functions that the law TaglistFirst goes through, as Lean functions, each with its contract: written by a program of this session. -/
import Derived.Test.YtdhkppijeocaoaaPTaglistFirstx0
import Derived.Test.YtdhkppijeocaoaaPTaglistFirstx1
import Derived.Test.YtdhkppijeocaoaaPTaglistFirstx2
namespace Go.Proofs.Ytdhkppijeocaoaa.PTaglistFirst
open Go.RowKit Go.Proofs.YtdhkppijeocaoaaW.PrintWords Go.Proofs.YtdhkppijeocaoaaW.PrintLast Go.Proofs.YtdhkppijeocaoaaW.PrintMore
attribute [local go_sem] max2_int min2_int max_two min_two max_three min_three max_four min_four   -- for this text's walks alone
set_option linter.unusedVariables false
set_option linter.unusedSimpArgs false

end Go.Proofs.Ytdhkppijeocaoaa.PTaglistFirst

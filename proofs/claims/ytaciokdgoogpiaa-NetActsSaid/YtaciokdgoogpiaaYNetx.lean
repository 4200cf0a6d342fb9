-- Own text, made by this session out of the translation by wip/tools/xprint.sh: Lean functions with the answers of Go functions, and their walks.
import Derived.Test.YtaciokdgoogpiaaYNetx0
import Derived.Test.YtaciokdgoogpiaaYNetx1
import Derived.Test.YtaciokdgoogpiaaYNetx2
import Derived.Test.YtaciokdgoogpiaaYNetx3
import Derived.Test.YtaciokdgoogpiaaYNetx4
namespace Go.Proofs.Ytaciokdgoogpiaa.YNet
open Go.RowKit Go.Proofs.YtaciokdgoogpiaaW.PrintWords Go.Proofs.YtaciokdgoogpiaaW.PrintLast Go.Proofs.YtaciokdgoogpiaaW.PrintMore
attribute [local go_sem] max2_int min2_int max_two min_two max_three min_three max_four min_four   -- for this text's walks alone
set_option linter.unusedVariables false
set_option linter.unusedSimpArgs false

end Go.Proofs.Ytaciokdgoogpiaa.YNet

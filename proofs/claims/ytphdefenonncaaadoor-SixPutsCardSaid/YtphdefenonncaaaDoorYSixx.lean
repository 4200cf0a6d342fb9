-- Own text, made by this session out of the translation by wip/tools/xprint.sh: Lean functions with the answers of Go functions, and their walks.
import Derived.Test.YtphdefenonncaaaDoorYSixx0
import Derived.Test.YtphdefenonncaaaDoorYSixx1
import Derived.Test.YtphdefenonncaaaDoorYSixx2
import Derived.Test.YtphdefenonncaaaDoorYSixx3
import Derived.Test.YtphdefenonncaaaDoorYSixx4
import Derived.Test.YtphdefenonncaaaDoorYSixx5
import Derived.Test.YtphdefenonncaaaDoorYSixx6
import Derived.Test.YtphdefenonncaaaDoorYSixx7
import Derived.Test.YtphdefenonncaaaDoorYSixx8
import Derived.Test.YtphdefenonncaaaDoorYSixx9
namespace Go.Proofs.YtphdefenonncaaaDoor.YSix
open Go.RowKit Go.Proofs.YtphdefenonncaaaDoorW.PrintWords Go.Proofs.YtphdefenonncaaaDoorW.PrintLast Go.Proofs.YtphdefenonncaaaDoorW.PrintMore
attribute [local go_sem] max2_int min2_int max_two min_two max_three min_three max_four min_four   -- for this text's walks alone
set_option linter.unusedVariables false
set_option linter.unusedSimpArgs false

end Go.Proofs.YtphdefenonncaaaDoor.YSix

-- Own text, made by this session out of the translation by wip/tools/xprint.sh: Lean functions with the answers of Go functions, and their walks.
import Derived.Test.YtabghncbdohciaaDoorYGridPx0
import Derived.Test.YtabghncbdohciaaDoorYGridPx1
import Derived.Test.YtabghncbdohciaaDoorYGridPx2
import Derived.Test.YtabghncbdohciaaDoorYGridPx3
import Derived.Test.YtabghncbdohciaaDoorYGridPx4
import Derived.Test.YtabghncbdohciaaDoorYGridPx5
import Derived.Test.YtabghncbdohciaaDoorYGridPx6
import Derived.Test.YtabghncbdohciaaDoorYGridPx7
import Derived.Test.YtabghncbdohciaaDoorYGridPx8
import Derived.Test.YtabghncbdohciaaDoorYGridPx9
namespace Go.Proofs.YtabghncbdohciaaDoor.YGridP
open Go.RowKit Go.Proofs.YtabghncbdohciaaDoorW.PrintWords Go.Proofs.YtabghncbdohciaaDoorW.PrintLast Go.Proofs.YtabghncbdohciaaDoorW.PrintMore
attribute [local go_sem] max2_int min2_int max_two min_two max_three min_three max_four min_four   -- for this text's walks alone
set_option linter.unusedVariables false
set_option linter.unusedSimpArgs false

end Go.Proofs.YtabghncbdohciaaDoor.YGridP

-- Own text, made by this session out of the translation by wip/tools/xprint.sh: Lean functions with the answers of Go functions, and their walks.
import Derived.Test.YtabghncbdohciaaYGridKx0
import Derived.Test.YtabghncbdohciaaYGridKx1
import Derived.Test.YtabghncbdohciaaYGridKx2
import Derived.Test.YtabghncbdohciaaYGridKx3
import Derived.Test.YtabghncbdohciaaYGridKx4
import Derived.Test.YtabghncbdohciaaYGridKx5
import Derived.Test.YtabghncbdohciaaYGridKx6
import Derived.Test.YtabghncbdohciaaYGridKx7
import Derived.Test.YtabghncbdohciaaYGridKx8
import Derived.Test.YtabghncbdohciaaYGridKx9
import Derived.Test.YtabghncbdohciaaYGridKx10
namespace Go.Proofs.Ytabghncbdohciaa.YGridK
open Go.RowKit Go.Proofs.YtabghncbdohciaaW.PrintWords Go.Proofs.YtabghncbdohciaaW.PrintLast Go.Proofs.YtabghncbdohciaaW.PrintMore
attribute [local go_sem] max2_int min2_int max_two min_two max_three min_three max_four min_four   -- for this text's walks alone
set_option linter.unusedVariables false
set_option linter.unusedSimpArgs false

end Go.Proofs.Ytabghncbdohciaa.YGridK

-- Own text, made by this session out of the translation by wip/tools/xprint.sh: Lean functions with the answers of Go functions, and their walks.
import Derived.Test.YtmpaljelolakhaaDoorYWinx0
import Derived.Test.YtmpaljelolakhaaDoorYWinx1
import Derived.Test.YtmpaljelolakhaaDoorYWinx2
import Derived.Test.YtmpaljelolakhaaDoorYWinx3
import Derived.Test.YtmpaljelolakhaaDoorYWinx4
import Derived.Test.YtmpaljelolakhaaDoorYWinx5
import Derived.Test.YtmpaljelolakhaaDoorYWinx6
import Derived.Test.YtmpaljelolakhaaDoorYWinx7
import Derived.Test.YtmpaljelolakhaaDoorYWinx8
import Derived.Test.YtmpaljelolakhaaDoorYWinx9
namespace Go.Proofs.YtmpaljelolakhaaDoor.YWin
open Go.RowKit Go.Proofs.YtmpaljelolakhaaDoorW.PrintWords Go.Proofs.YtmpaljelolakhaaDoorW.PrintLast Go.Proofs.YtmpaljelolakhaaDoorW.PrintMore
attribute [local go_sem] max2_int min2_int max_two min_two max_three min_three max_four min_four   -- for this text's walks alone
set_option linter.unusedVariables false
set_option linter.unusedSimpArgs false

end Go.Proofs.YtmpaljelolakhaaDoor.YWin

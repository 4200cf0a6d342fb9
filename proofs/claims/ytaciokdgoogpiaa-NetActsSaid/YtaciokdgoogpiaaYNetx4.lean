-- Own text, made by this session out of the translation by wip/tools/xprint.sh: Lean functions with the answers of Go functions, and their walks.
import Derived.Test.YtaciokdgoogpiaaYNetx0
namespace Go.Proofs.Ytaciokdgoogpiaa.YNet
open Go.RowKit Go.Proofs.YtaciokdgoogpiaaW.PrintWords Go.Proofs.YtaciokdgoogpiaaW.PrintLast Go.Proofs.YtaciokdgoogpiaaW.PrintMore
attribute [local go_sem] max2_int min2_int max_two min_two max_three min_three max_four min_four   -- for this text's walks alone
set_option linter.unusedVariables false
set_option linter.unusedSimpArgs false

-- NOT PRINTED: function 20 (shutterref24_lay)

-- NOT PRINTED: function 14 (shutterref24_Throw)

-- NOT PRINTED: function 3 (shutterlaw24_NetActs)

-- NOT PRINTED: function 4 (shutterlaw24_NetFates)

-- NOT PRINTED: function 5 (shutterlaw24_NetFull)

-- NOT PRINTED: function 6 (shutterlaw24_NetKeeps)

-- NOT PRINTED: function 7 (shutterlaw24_NetOrder)

end Go.Proofs.Ytaciokdgoogpiaa.YNet

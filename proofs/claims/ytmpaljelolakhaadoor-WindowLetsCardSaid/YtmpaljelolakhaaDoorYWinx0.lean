-- Own text, made by this session out of the translation by wip/tools/xprint.sh: Lean functions with the answers of Go functions, and their walks.
import Derived.Test.YtmpaljelolakhaaDoorProg
import Derived.Below
import Derived.Deep.Draws
import Derived.Deep.AppendLies
import Derived.Maps.AppendAt
import Derived.OwnWalk
import Derived.Laws.BytesArg
import Derived.Laws.MakeOwn
import Derived.Laws.OwnMore
import Derived.Deep.OwnRows
import Derived.Tactics
import Derived.Lib.ConvBytes
import Derived.Laws.Slices
import Derived.WalkKit
import Derived.KernelRfl
import Derived.RowKit3
import Derived.Deep.LoopGhost
import Derived.Deep.QuietTactic
import Derived.BigQuiet
import Derived.WideLaws
import Derived.Deep.DeepCutAuto
import Derived.Deep.CutBlock
import Derived.Deep.RegionHeld3
import Derived.Laws.Rows
import Derived.Lib.AppendStr
import Derived.ArgAppend
import Derived.Laws.IdiomCopy
import Derived.OrdersHeld
import Derived.Laws.BitsLemmas
import Derived.RowKit
import Derived.Test.YtmpaljelolakhaaDoorCode
import Derived.Test.YtmpaljelolakhaaDoorWWords
import Derived.Test.YtmpaljelolakhaaDoorWLast
import Derived.Test.YtmpaljelolakhaaDoorWTab
import Derived.Test.YtmpaljelolakhaaDoorWFour
import Derived.Test.YtmpaljelolakhaaDoorWQPut
import Derived.Test.YtmpaljelolakhaaDoorWApart
import Derived.Test.YtmpaljelolakhaaDoorWArr
import Derived.Test.YtmpaljelolakhaaDoorWZeros
import Derived.Test.YtmpaljelolakhaaDoorWFoot
import Derived.Test.YtmpaljelolakhaaDoorWKept
import Derived.Test.YtmpaljelolakhaaDoorWShare
import Derived.Test.YtmpaljelolakhaaDoorWN
import Derived.Test.YtmpaljelolakhaaDoorWFootNe
import Derived.Test.YtmpaljelolakhaaDoorWAt
import Derived.Test.YtmpaljelolakhaaDoorWEqStruct
import Derived.Test.YtmpaljelolakhaaDoorWRepsOne
import Derived.Test.YtmpaljelolakhaaDoorWInv
import Derived.Test.YtmpaljelolakhaaDoorWInvWords
import Derived.Test.YtmpaljelolakhaaDoorWGuard
import Derived.Test.YtmpaljelolakhaaDoorWNEv
import Derived.Test.YtmpaljelolakhaaDoorWMore
namespace Go.Proofs.YtmpaljelolakhaaDoor.YWin
open Go.RowKit Go.Proofs.YtmpaljelolakhaaDoorW.PrintWords Go.Proofs.YtmpaljelolakhaaDoorW.PrintLast Go.Proofs.YtmpaljelolakhaaDoorW.PrintMore
attribute [local go_sem] max2_int min2_int max_two min_two max_three min_three max_four min_four   -- for this text's walks alone
set_option linter.unusedVariables false
set_option linter.unusedSimpArgs false



def errW : Option Int → Value
  | none => .nilIface
  | some c => .iface 46 (.int .i64 c)
theorem errW_none : errW none = .nilIface := rfl
theorem errW_some (c : Int) : errW (some c) = .iface 46 (.int .i64 c) := rfl

theorem info3 : (Tryd.prog.info? 3).map (fun i => (i.zero, i.size, i.bytes)) = some (some (.int .i64 0), 1, 8) := by kernel_rfl
theorem info4 : (Tryd.prog.info? 4).map (fun i => (i.zero, i.size, i.bytes)) = some (some (.bool false), 1, 1) := by kernel_rfl
-- the values' own types

end Go.Proofs.YtmpaljelolakhaaDoor.YWin

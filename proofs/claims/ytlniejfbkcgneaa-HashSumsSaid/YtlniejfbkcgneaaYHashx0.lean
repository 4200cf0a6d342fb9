-- Own text, made by this session out of the translation by wip/tools/xprint.sh: Lean functions with the answers of Go functions, and their walks.
import Derived.Test.YtlniejfbkcgneaaProg
import Derived.Below
import Derived.Deep.Draws
import Derived.Deep.AppendLies
import Derived.Maps.AppendAt
import Derived.OwnWalk
import Derived.Laws.BytesArg
import Derived.Laws.MakeOwn
import Derived.Laws.OwnMore
import Derived.Deep.OwnRows
import Derived.Tactics
import Derived.Lib.ConvBytes
import Derived.Laws.Slices
import Derived.WalkKit
import Derived.KernelRfl
import Derived.RowKit3
import Derived.Deep.LoopGhost
import Derived.Deep.QuietTactic
import Derived.BigQuiet
import Derived.WideLaws
import Derived.Deep.DeepCutAuto
import Derived.Deep.CutBlock
import Derived.Deep.RegionHeld3
import Derived.Laws.Rows
import Derived.Lib.AppendStr
import Derived.ArgAppend
import Derived.Laws.IdiomCopy
import Derived.OrdersHeld
import Derived.Laws.BitsLemmas
import Derived.RowKit
import Derived.WalkSpells
import Derived.Lib.SliceRun
import Derived.Test.YtlniejfbkcgneaaWWords
import Derived.Test.YtlniejfbkcgneaaWLast
import Derived.Test.YtlniejfbkcgneaaWTab
import Derived.Test.YtlniejfbkcgneaaWFour
import Derived.Test.YtlniejfbkcgneaaWQPut
import Derived.Test.YtlniejfbkcgneaaWApart
import Derived.Test.YtlniejfbkcgneaaWArr
import Derived.Test.YtlniejfbkcgneaaWZeros
import Derived.Test.YtlniejfbkcgneaaWFoot
import Derived.Test.YtlniejfbkcgneaaWKept
import Derived.Test.YtlniejfbkcgneaaWShare
import Derived.Test.YtlniejfbkcgneaaWN
import Derived.Test.YtlniejfbkcgneaaWFootNe
import Derived.Test.YtlniejfbkcgneaaWAt
import Derived.Test.YtlniejfbkcgneaaWEqStruct
import Derived.Test.YtlniejfbkcgneaaWRepsOne
import Derived.Test.YtlniejfbkcgneaaWInv
import Derived.Test.YtlniejfbkcgneaaWInvWords
import Derived.Test.YtlniejfbkcgneaaWGuard
import Derived.Test.YtlniejfbkcgneaaWNEv
import Derived.Test.YtlniejfbkcgneaaWMore
namespace Go.Proofs.Ytlniejfbkcgneaa.YHash
open Go.RowKit Go.Proofs.YtlniejfbkcgneaaW.PrintWords Go.Proofs.YtlniejfbkcgneaaW.PrintLast Go.Proofs.YtlniejfbkcgneaaW.PrintMore
attribute [local go_sem] max2_int min2_int max_two min_two max_three min_three max_four min_four   -- for this text's walks alone
set_option linter.unusedVariables false
set_option linter.unusedSimpArgs false



def errW : Option Int → Value
  | none => .nilIface
  | some c => .iface 0 (.int .i64 c)
theorem errW_none : errW none = .nilIface := rfl
theorem errW_some (c : Int) : errW (some c) = .iface 0 (.int .i64 c) := rfl

theorem info5 : (Try.prog.info? 5).map (fun i => (i.zero, i.size, i.bytes)) = some (some (.int .u8 0), 1, 1) := by kernel_rfl
-- the values' own types

end Go.Proofs.Ytlniejfbkcgneaa.YHash

/-
  NARROWER THAN 'FOR EVERY INPUT', by the rows' own cells (each row's printed sentence says how): WindowLets: laid · WindowOnce: laid · WindowNear: laid · WindowFar: laid · WindowOrder: laid.
  DERIVED. THE GIVEN ROWS OF THIS SEAT. 5 by the template 'for every input the law returns true; each argument reads behind the call as it read before'; 0 by the template 'total and deterministic' (their statements: YtmpaljelolakhaaDoorTotals.lean).
  GIVEN WITH THE SEED: the statements are not yours to turn. If you find one false, say at which input.
  Laid BY PROGRAM, IN A SANDBOX (cutbox-rows.mjs): the forced cells as the released guide's own fill.sh prints them over the translation 439f077c7c9eda09… (all of the seat's roots in one cut). By AI agents, Wed Nov 11 2026. No macro, syntax, notation, axiom, sorry.
-/
import Derived.Test.YtmpaljelolakhaaDoorChecked
import GoSem.Claim
import GoSem.ClaimJoined
import GoSem.ClaimMapViews
import Derived.JoinedTies
import Derived.KernelRfl
namespace Go.Proofs.YtmpaljelolakhaaDoor
/- THE CELL 'sum', in the pinned program and in every row, IS THE sha256 OF THE DUMP (.gsa) THAT YtmpaljelolakhaaDoorProg.lean LOADS. Nothing in Lean hashes anything: it is a label: what it is worth is what the hold of that sum in a sandbox is worth. -/
noncomputable def Tryd.pinned : Pinned := { name := "ytmpaljelolakhaadoor", sum := "439f077c7c9eda094f82b779fe479c9e35d020e8e5ef49034d6f6e9c39e67fc0", checked := Tryd.checked }
namespace Rows
def none {H : Type} : Left H := { results := [], args := [] }

/- WHAT THE LISTED PACKAGE-LEVEL VARIABLES READ AS WHEN THE CALL BEGINS. Each datum BY PROGRAM (the guide's laid-datum.mjs) off the statement by which the dump's own 'gosem.cut.vars' lays the variable. In a bare row this is a premise. The card (YtmpaljelolakhaaDoorCards.lean) ties it to the program's text. -/
def laid_errors_errorType {H : Type} : DataW H := .iface "internal/reflectlite.rtype" (.agg [.ptr (.lit (.string [101, 114, 114, 111, 114]))])

/-- 'shutterlaw20.WindowLets': WHATEVER THE INPUT: true; the input reads as it did. -/
def windowLetsSpec : ChangeSpec := { name := "windowLets", fn := fun _ => fun
  | [d1, d2] => { results := [.lit (.bool true)], args := [d1, d2] }
  | _ => none }
def windowLetsRow : OpenClaim := { program := "ytmpaljelolakhaadoor", sum := "439f077c7c9eda094f82b779fe479c9e35d020e8e5ef49034d6f6e9c39e67fc0", func := "shutter/shutterlaw20.WindowLets", spec := "windowLets", inPlace := ["internal/reflectlite.ValueOf", "(internal/reflectlite.Value).Type", "(internal/reflectlite.Value).IsNil", "internal/reflectlite.TypeOf", "(internal/reflectlite.Value).Elem", "(internal/reflectlite.Value).Set"], unfollowed := true, recurses := true, named := ["errors.errorType"], apart := false, laid := [("errors.errorType", laid_errors_errorType)] }
def WindowLetsSaid : Prop := windowLetsRow.holds Tryd.pinned (OpenSpec.ofChange windowLetsSpec)

/-- ITS FALSE NEIGHBOUR: 'it returns false'. Refute it at one input. -/
def windowLetsWrong : ChangeSpec := { name := "windowLets", fn := fun _ => fun
  | [d1, d2] => { results := [.lit (.bool false)], args := [d1, d2] }
  | _ => none }
def WindowLetsWrongFalsely : Prop := windowLetsRow.holds Tryd.pinned (OpenSpec.ofChange windowLetsWrong)

/-- 'shutterlaw20.WindowOnce': WHATEVER THE INPUT: true; the input reads as it did. -/
def windowOnceSpec : ChangeSpec := { name := "windowOnce", fn := fun _ => fun
  | [d] => { results := [.lit (.bool true)], args := [d] }
  | _ => none }
def windowOnceRow : OpenClaim := { program := "ytmpaljelolakhaadoor", sum := "439f077c7c9eda094f82b779fe479c9e35d020e8e5ef49034d6f6e9c39e67fc0", func := "shutter/shutterlaw20.WindowOnce", spec := "windowOnce", inPlace := ["internal/reflectlite.ValueOf", "(internal/reflectlite.Value).Type", "(internal/reflectlite.Value).IsNil", "internal/reflectlite.TypeOf", "(internal/reflectlite.Value).Elem", "(internal/reflectlite.Value).Set"], unfollowed := true, recurses := true, named := ["errors.errorType"], apart := false, laid := [("errors.errorType", laid_errors_errorType)] }
def WindowOnceSaid : Prop := windowOnceRow.holds Tryd.pinned (OpenSpec.ofChange windowOnceSpec)

/-- ITS FALSE NEIGHBOUR: 'it returns false'. Refute it at one input. -/
def windowOnceWrong : ChangeSpec := { name := "windowOnce", fn := fun _ => fun
  | [d] => { results := [.lit (.bool false)], args := [d] }
  | _ => none }
def WindowOnceWrongFalsely : Prop := windowOnceRow.holds Tryd.pinned (OpenSpec.ofChange windowOnceWrong)

/-- 'shutterlaw20.WindowNear': WHATEVER THE INPUT: true; the input reads as it did. -/
def windowNearSpec : ChangeSpec := { name := "windowNear", fn := fun _ => fun
  | [d] => { results := [.lit (.bool true)], args := [d] }
  | _ => none }
def windowNearRow : OpenClaim := { program := "ytmpaljelolakhaadoor", sum := "439f077c7c9eda094f82b779fe479c9e35d020e8e5ef49034d6f6e9c39e67fc0", func := "shutter/shutterlaw20.WindowNear", spec := "windowNear", inPlace := ["internal/reflectlite.ValueOf", "(internal/reflectlite.Value).Type", "(internal/reflectlite.Value).IsNil", "internal/reflectlite.TypeOf", "(internal/reflectlite.Value).Elem", "(internal/reflectlite.Value).Set"], unfollowed := true, recurses := true, named := ["errors.errorType"], apart := false, laid := [("errors.errorType", laid_errors_errorType)] }
def WindowNearSaid : Prop := windowNearRow.holds Tryd.pinned (OpenSpec.ofChange windowNearSpec)

/-- ITS FALSE NEIGHBOUR: 'it returns false'. Refute it at one input. -/
def windowNearWrong : ChangeSpec := { name := "windowNear", fn := fun _ => fun
  | [d] => { results := [.lit (.bool false)], args := [d] }
  | _ => none }
def WindowNearWrongFalsely : Prop := windowNearRow.holds Tryd.pinned (OpenSpec.ofChange windowNearWrong)

/-- 'shutterlaw20.WindowFar': WHATEVER THE INPUT: true; the input reads as it did. -/
def windowFarSpec : ChangeSpec := { name := "windowFar", fn := fun _ => fun
  | [d1, d2, d3] => { results := [.lit (.bool true)], args := [d1, d2, d3] }
  | _ => none }
def windowFarRow : OpenClaim := { program := "ytmpaljelolakhaadoor", sum := "439f077c7c9eda094f82b779fe479c9e35d020e8e5ef49034d6f6e9c39e67fc0", func := "shutter/shutterlaw20.WindowFar", spec := "windowFar", inPlace := ["internal/reflectlite.ValueOf", "(internal/reflectlite.Value).Type", "(internal/reflectlite.Value).IsNil", "internal/reflectlite.TypeOf", "(internal/reflectlite.Value).Elem", "(internal/reflectlite.Value).Set"], unfollowed := true, recurses := true, named := ["errors.errorType"], apart := false, laid := [("errors.errorType", laid_errors_errorType)] }
def WindowFarSaid : Prop := windowFarRow.holds Tryd.pinned (OpenSpec.ofChange windowFarSpec)

/-- ITS FALSE NEIGHBOUR: 'it returns false'. Refute it at one input. -/
def windowFarWrong : ChangeSpec := { name := "windowFar", fn := fun _ => fun
  | [d1, d2, d3] => { results := [.lit (.bool false)], args := [d1, d2, d3] }
  | _ => none }
def WindowFarWrongFalsely : Prop := windowFarRow.holds Tryd.pinned (OpenSpec.ofChange windowFarWrong)

/-- 'shutterlaw20.WindowOrder': WHATEVER THE INPUT: true; the input reads as it did. -/
def windowOrderSpec : ChangeSpec := { name := "windowOrder", fn := fun _ => fun
  | [d1, d2] => { results := [.lit (.bool true)], args := [d1, d2] }
  | _ => none }
def windowOrderRow : OpenClaim := { program := "ytmpaljelolakhaadoor", sum := "439f077c7c9eda094f82b779fe479c9e35d020e8e5ef49034d6f6e9c39e67fc0", func := "shutter/shutterlaw20.WindowOrder", spec := "windowOrder", inPlace := ["internal/reflectlite.ValueOf", "(internal/reflectlite.Value).Type", "(internal/reflectlite.Value).IsNil", "internal/reflectlite.TypeOf", "(internal/reflectlite.Value).Elem", "(internal/reflectlite.Value).Set"], unfollowed := true, recurses := true, named := ["errors.errorType"], apart := false, laid := [("errors.errorType", laid_errors_errorType)] }
def WindowOrderSaid : Prop := windowOrderRow.holds Tryd.pinned (OpenSpec.ofChange windowOrderSpec)

/-- ITS FALSE NEIGHBOUR: 'it returns false'. Refute it at one input. -/
def windowOrderWrong : ChangeSpec := { name := "windowOrder", fn := fun _ => fun
  | [d1, d2] => { results := [.lit (.bool false)], args := [d1, d2] }
  | _ => none }
def WindowOrderWrongFalsely : Prop := windowOrderRow.holds Tryd.pinned (OpenSpec.ofChange windowOrderWrong)

/- THE SECOND FORM. 'bulk': how many values and letters a reading holds, each counted each time it is reached (what is shared counts as often as it is met; a slice's spare places count too). A statement '..UptoSaid' is the law's where the arguments, and the package variables that the reading takes, are together of bulk at most 1048576: NARROWER than '..Said'. Prove '..Said' where nothing that the law and all that it calls make is longer than what came in: it says more and counts as full. Else prove '..UptoSaid'. A law counts once. -/
mutual
def uptoBulk {H : Type} : DataW H → Nat
  | .lit (.string bytes) => bytes.length + 1
  | .lit _ => 1
  | .nil => 1
  | .ptr d => uptoBulk d + 1
  | .slice elems spare => uptoBulkAll elems + uptoBulkAll spare + 1
  | .agg parts => uptoBulkAll parts + 1
  | .iface _ d => uptoBulk d + 1
  | .map entries => uptoBulkEntries entries + 1
  | .held _ => 1
def uptoBulkAll {H : Type} : List (DataW H) → Nat
  | [] => 0
  | d :: r => uptoBulk d + uptoBulkAll r
def uptoBulkEntries {H : Type} : List (Lit × DataW H) → Nat
  | [] => 0
  | x :: r => uptoBulkEntry x + uptoBulkEntries r
def uptoBulkEntry {H : Type} : Lit × DataW H → Nat
  | (.string bytes, d) => bytes.length + uptoBulk d + 1
  | (_, d) => uptoBulk d + 1
 end
def uptoSmall : (H : Type) → List (DataW H) → Bool := fun _ ds => decide (uptoBulkAll ds ≤ 1048576)
def OpenSpec.upto (s : _root_.Go.ChangeSpec) : _root_.Go.OpenSpec := { _root_.Go.OpenSpec.ofChange s with cond := some uptoSmall }

/-- 'shutterlaw20.WindowLets', WHERE WHAT IT READS IS OF BULK AT MOST 1048576: true; the input reads as it did. -/
def windowLetsUptoRow : OpenClaim := { program := "ytmpaljelolakhaadoor", sum := "439f077c7c9eda094f82b779fe479c9e35d020e8e5ef49034d6f6e9c39e67fc0", func := "shutter/shutterlaw20.WindowLets", spec := "windowLets", inPlace := ["internal/reflectlite.ValueOf", "(internal/reflectlite.Value).Type", "(internal/reflectlite.Value).IsNil", "internal/reflectlite.TypeOf", "(internal/reflectlite.Value).Elem", "(internal/reflectlite.Value).Set"], unfollowed := true, recurses := true, named := ["errors.errorType"], apart := false, laid := [("errors.errorType", laid_errors_errorType)], narrowed := true }
def WindowLetsUptoSaid : Prop := windowLetsUptoRow.holds Tryd.pinned (OpenSpec.upto windowLetsSpec)

/-- 'shutterlaw20.WindowOnce', WHERE WHAT IT READS IS OF BULK AT MOST 1048576: true; the input reads as it did. -/
def windowOnceUptoRow : OpenClaim := { program := "ytmpaljelolakhaadoor", sum := "439f077c7c9eda094f82b779fe479c9e35d020e8e5ef49034d6f6e9c39e67fc0", func := "shutter/shutterlaw20.WindowOnce", spec := "windowOnce", inPlace := ["internal/reflectlite.ValueOf", "(internal/reflectlite.Value).Type", "(internal/reflectlite.Value).IsNil", "internal/reflectlite.TypeOf", "(internal/reflectlite.Value).Elem", "(internal/reflectlite.Value).Set"], unfollowed := true, recurses := true, named := ["errors.errorType"], apart := false, laid := [("errors.errorType", laid_errors_errorType)], narrowed := true }
def WindowOnceUptoSaid : Prop := windowOnceUptoRow.holds Tryd.pinned (OpenSpec.upto windowOnceSpec)

/-- 'shutterlaw20.WindowNear', WHERE WHAT IT READS IS OF BULK AT MOST 1048576: true; the input reads as it did. -/
def windowNearUptoRow : OpenClaim := { program := "ytmpaljelolakhaadoor", sum := "439f077c7c9eda094f82b779fe479c9e35d020e8e5ef49034d6f6e9c39e67fc0", func := "shutter/shutterlaw20.WindowNear", spec := "windowNear", inPlace := ["internal/reflectlite.ValueOf", "(internal/reflectlite.Value).Type", "(internal/reflectlite.Value).IsNil", "internal/reflectlite.TypeOf", "(internal/reflectlite.Value).Elem", "(internal/reflectlite.Value).Set"], unfollowed := true, recurses := true, named := ["errors.errorType"], apart := false, laid := [("errors.errorType", laid_errors_errorType)], narrowed := true }
def WindowNearUptoSaid : Prop := windowNearUptoRow.holds Tryd.pinned (OpenSpec.upto windowNearSpec)

/-- 'shutterlaw20.WindowFar', WHERE WHAT IT READS IS OF BULK AT MOST 1048576: true; the input reads as it did. -/
def windowFarUptoRow : OpenClaim := { program := "ytmpaljelolakhaadoor", sum := "439f077c7c9eda094f82b779fe479c9e35d020e8e5ef49034d6f6e9c39e67fc0", func := "shutter/shutterlaw20.WindowFar", spec := "windowFar", inPlace := ["internal/reflectlite.ValueOf", "(internal/reflectlite.Value).Type", "(internal/reflectlite.Value).IsNil", "internal/reflectlite.TypeOf", "(internal/reflectlite.Value).Elem", "(internal/reflectlite.Value).Set"], unfollowed := true, recurses := true, named := ["errors.errorType"], apart := false, laid := [("errors.errorType", laid_errors_errorType)], narrowed := true }
def WindowFarUptoSaid : Prop := windowFarUptoRow.holds Tryd.pinned (OpenSpec.upto windowFarSpec)

/-- 'shutterlaw20.WindowOrder', WHERE WHAT IT READS IS OF BULK AT MOST 1048576: true; the input reads as it did. -/
def windowOrderUptoRow : OpenClaim := { program := "ytmpaljelolakhaadoor", sum := "439f077c7c9eda094f82b779fe479c9e35d020e8e5ef49034d6f6e9c39e67fc0", func := "shutter/shutterlaw20.WindowOrder", spec := "windowOrder", inPlace := ["internal/reflectlite.ValueOf", "(internal/reflectlite.Value).Type", "(internal/reflectlite.Value).IsNil", "internal/reflectlite.TypeOf", "(internal/reflectlite.Value).Elem", "(internal/reflectlite.Value).Set"], unfollowed := true, recurses := true, named := ["errors.errorType"], apart := false, laid := [("errors.errorType", laid_errors_errorType)], narrowed := true }
def WindowOrderUptoSaid : Prop := windowOrderUptoRow.holds Tryd.pinned (OpenSpec.upto windowOrderSpec)

end Rows
end Go.Proofs.YtmpaljelolakhaaDoor

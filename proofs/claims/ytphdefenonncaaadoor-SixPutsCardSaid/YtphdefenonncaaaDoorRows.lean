/-
  NARROWER THAN 'FOR EVERY INPUT', by the rows' own cells (each row's printed sentence says how): SixPuts: laid · SixGets: laid · SixBack: laid · SixApart: laid · AttrPuts: laid · AttrGets: laid.
  DERIVED. THE GIVEN ROWS OF THIS SEAT. 6 by the template 'for every input the law returns true; each argument reads behind the call as it read before'; 0 by the template 'total and deterministic' (their statements: YtphdefenonncaaaDoorTotals.lean).
  GIVEN WITH THE SEED: the statements are not yours to turn. If you find one false, say at which input.
  Laid BY PROGRAM, IN A SANDBOX (cutbox-rows.mjs): the forced cells as the released guide's own fill.sh prints them over the translation 084be3be1efa37a9… (all of the seat's roots in one cut). By AI agents, Wed Nov 11 2026. No macro, syntax, notation, axiom, sorry.
-/
import Derived.Test.YtphdefenonncaaaDoorChecked
import GoSem.Claim
import GoSem.ClaimJoined
import GoSem.ClaimMapViews
import Derived.JoinedTies
import Derived.KernelRfl
namespace Go.Proofs.YtphdefenonncaaaDoor
/- THE CELL 'sum', in the pinned program and in every row, IS THE sha256 OF THE DUMP (.gsa) THAT YtphdefenonncaaaDoorProg.lean LOADS. Nothing in Lean hashes anything: it is a label: what it is worth is what the hold of that sum in a sandbox is worth. -/
noncomputable def Tryd.pinned : Pinned := { name := "ytphdefenonncaaadoor", sum := "084be3be1efa37a9af6ed1d366759668b34a467e917e18c87734d98d84482cc8", checked := Tryd.checked }
namespace Rows
def none {H : Type} : Left H := { results := [], args := [] }

/- WHAT THE LISTED PACKAGE-LEVEL VARIABLES READ AS WHEN THE CALL BEGINS. Each datum BY PROGRAM (the guide's laid-datum.mjs) off the statement by which the dump's own 'gosem.cut.vars' lays the variable. In a bare row this is a premise. The card (YtphdefenonncaaaDoorCards.lean) ties it to the program's text. -/
def laid_errors_errorType {H : Type} : DataW H := .iface "internal/reflectlite.rtype" (.agg [.ptr (.lit (.string [101, 114, 114, 111, 114]))])

/-- 'shutterlaw03.SixPuts': WHATEVER THE INPUT: true; the input reads as it did. -/
def sixPutsSpec : ChangeSpec := { name := "sixPuts", fn := fun _ => fun
  | [d] => { results := [.lit (.bool true)], args := [d] }
  | _ => none }
def sixPutsRow : OpenClaim := { program := "ytphdefenonncaaadoor", sum := "084be3be1efa37a9af6ed1d366759668b34a467e917e18c87734d98d84482cc8", func := "shutter/shutterlaw03.SixPuts", spec := "sixPuts", inPlace := ["internal/reflectlite.ValueOf", "(internal/reflectlite.Value).Type", "(internal/reflectlite.Value).IsNil", "internal/reflectlite.TypeOf", "(internal/reflectlite.Value).Elem", "(internal/reflectlite.Value).Set"], unfollowed := true, recurses := true, named := ["errors.errorType"], apart := false, laid := [("errors.errorType", laid_errors_errorType)] }
def SixPutsSaid : Prop := sixPutsRow.holds Tryd.pinned (OpenSpec.ofChange sixPutsSpec)

/-- ITS FALSE NEIGHBOUR: 'it returns false'. Refute it at one input. -/
def sixPutsWrong : ChangeSpec := { name := "sixPuts", fn := fun _ => fun
  | [d] => { results := [.lit (.bool false)], args := [d] }
  | _ => none }
def SixPutsWrongFalsely : Prop := sixPutsRow.holds Tryd.pinned (OpenSpec.ofChange sixPutsWrong)

/-- 'shutterlaw03.SixGets': WHATEVER THE INPUT: true; the input reads as it did. -/
def sixGetsSpec : ChangeSpec := { name := "sixGets", fn := fun _ => fun
  | [d] => { results := [.lit (.bool true)], args := [d] }
  | _ => none }
def sixGetsRow : OpenClaim := { program := "ytphdefenonncaaadoor", sum := "084be3be1efa37a9af6ed1d366759668b34a467e917e18c87734d98d84482cc8", func := "shutter/shutterlaw03.SixGets", spec := "sixGets", inPlace := ["internal/reflectlite.ValueOf", "(internal/reflectlite.Value).Type", "(internal/reflectlite.Value).IsNil", "internal/reflectlite.TypeOf", "(internal/reflectlite.Value).Elem", "(internal/reflectlite.Value).Set"], unfollowed := true, recurses := true, named := ["errors.errorType"], apart := false, laid := [("errors.errorType", laid_errors_errorType)] }
def SixGetsSaid : Prop := sixGetsRow.holds Tryd.pinned (OpenSpec.ofChange sixGetsSpec)

/-- ITS FALSE NEIGHBOUR: 'it returns false'. Refute it at one input. -/
def sixGetsWrong : ChangeSpec := { name := "sixGets", fn := fun _ => fun
  | [d] => { results := [.lit (.bool false)], args := [d] }
  | _ => none }
def SixGetsWrongFalsely : Prop := sixGetsRow.holds Tryd.pinned (OpenSpec.ofChange sixGetsWrong)

/-- 'shutterlaw03.SixBack': WHATEVER THE INPUT: true; the input reads as it did. -/
def sixBackSpec : ChangeSpec := { name := "sixBack", fn := fun _ => fun
  | [d1, d2] => { results := [.lit (.bool true)], args := [d1, d2] }
  | _ => none }
def sixBackRow : OpenClaim := { program := "ytphdefenonncaaadoor", sum := "084be3be1efa37a9af6ed1d366759668b34a467e917e18c87734d98d84482cc8", func := "shutter/shutterlaw03.SixBack", spec := "sixBack", inPlace := ["internal/reflectlite.ValueOf", "(internal/reflectlite.Value).Type", "(internal/reflectlite.Value).IsNil", "internal/reflectlite.TypeOf", "(internal/reflectlite.Value).Elem", "(internal/reflectlite.Value).Set"], unfollowed := true, recurses := true, named := ["errors.errorType"], apart := false, laid := [("errors.errorType", laid_errors_errorType)] }
def SixBackSaid : Prop := sixBackRow.holds Tryd.pinned (OpenSpec.ofChange sixBackSpec)

/-- ITS FALSE NEIGHBOUR: 'it returns false'. Refute it at one input. -/
def sixBackWrong : ChangeSpec := { name := "sixBack", fn := fun _ => fun
  | [d1, d2] => { results := [.lit (.bool false)], args := [d1, d2] }
  | _ => none }
def SixBackWrongFalsely : Prop := sixBackRow.holds Tryd.pinned (OpenSpec.ofChange sixBackWrong)

/-- 'shutterlaw03.SixApart': WHATEVER THE INPUT: true; the input reads as it did. -/
def sixApartSpec : ChangeSpec := { name := "sixApart", fn := fun _ => fun
  | [d1, d2, d3] => { results := [.lit (.bool true)], args := [d1, d2, d3] }
  | _ => none }
def sixApartRow : OpenClaim := { program := "ytphdefenonncaaadoor", sum := "084be3be1efa37a9af6ed1d366759668b34a467e917e18c87734d98d84482cc8", func := "shutter/shutterlaw03.SixApart", spec := "sixApart", inPlace := ["internal/reflectlite.ValueOf", "(internal/reflectlite.Value).Type", "(internal/reflectlite.Value).IsNil", "internal/reflectlite.TypeOf", "(internal/reflectlite.Value).Elem", "(internal/reflectlite.Value).Set"], unfollowed := true, recurses := true, named := ["errors.errorType"], apart := false, laid := [("errors.errorType", laid_errors_errorType)] }
def SixApartSaid : Prop := sixApartRow.holds Tryd.pinned (OpenSpec.ofChange sixApartSpec)

/-- ITS FALSE NEIGHBOUR: 'it returns false'. Refute it at one input. -/
def sixApartWrong : ChangeSpec := { name := "sixApart", fn := fun _ => fun
  | [d1, d2, d3] => { results := [.lit (.bool false)], args := [d1, d2, d3] }
  | _ => none }
def SixApartWrongFalsely : Prop := sixApartRow.holds Tryd.pinned (OpenSpec.ofChange sixApartWrong)

/-- 'shutterlaw05.AttrPuts': WHATEVER THE INPUT: true; the input reads as it did. -/
def attrPutsSpec : ChangeSpec := { name := "attrPuts", fn := fun _ => fun
  | [d1, d2] => { results := [.lit (.bool true)], args := [d1, d2] }
  | _ => none }
def attrPutsRow : OpenClaim := { program := "ytphdefenonncaaadoor", sum := "084be3be1efa37a9af6ed1d366759668b34a467e917e18c87734d98d84482cc8", func := "shutter/shutterlaw05.AttrPuts", spec := "attrPuts", inPlace := ["internal/reflectlite.ValueOf", "(internal/reflectlite.Value).Type", "(internal/reflectlite.Value).IsNil", "internal/reflectlite.TypeOf", "(internal/reflectlite.Value).Elem", "(internal/reflectlite.Value).Set"], unfollowed := true, recurses := true, named := ["errors.errorType"], apart := false, laid := [("errors.errorType", laid_errors_errorType)] }
def AttrPutsSaid : Prop := attrPutsRow.holds Tryd.pinned (OpenSpec.ofChange attrPutsSpec)

/-- ITS FALSE NEIGHBOUR: 'it returns false'. Refute it at one input. -/
def attrPutsWrong : ChangeSpec := { name := "attrPuts", fn := fun _ => fun
  | [d1, d2] => { results := [.lit (.bool false)], args := [d1, d2] }
  | _ => none }
def AttrPutsWrongFalsely : Prop := attrPutsRow.holds Tryd.pinned (OpenSpec.ofChange attrPutsWrong)

/-- 'shutterlaw05.AttrGets': WHATEVER THE INPUT: true; the input reads as it did. -/
def attrGetsSpec : ChangeSpec := { name := "attrGets", fn := fun _ => fun
  | [d] => { results := [.lit (.bool true)], args := [d] }
  | _ => none }
def attrGetsRow : OpenClaim := { program := "ytphdefenonncaaadoor", sum := "084be3be1efa37a9af6ed1d366759668b34a467e917e18c87734d98d84482cc8", func := "shutter/shutterlaw05.AttrGets", spec := "attrGets", inPlace := ["internal/reflectlite.ValueOf", "(internal/reflectlite.Value).Type", "(internal/reflectlite.Value).IsNil", "internal/reflectlite.TypeOf", "(internal/reflectlite.Value).Elem", "(internal/reflectlite.Value).Set"], unfollowed := true, recurses := true, named := ["errors.errorType"], apart := false, laid := [("errors.errorType", laid_errors_errorType)] }
def AttrGetsSaid : Prop := attrGetsRow.holds Tryd.pinned (OpenSpec.ofChange attrGetsSpec)

/-- ITS FALSE NEIGHBOUR: 'it returns false'. Refute it at one input. -/
def attrGetsWrong : ChangeSpec := { name := "attrGets", fn := fun _ => fun
  | [d] => { results := [.lit (.bool false)], args := [d] }
  | _ => none }
def AttrGetsWrongFalsely : Prop := attrGetsRow.holds Tryd.pinned (OpenSpec.ofChange attrGetsWrong)

/- THE SECOND FORM. 'bulk': how many values and letters a reading holds, each counted each time it is reached (what is shared counts as often as it is met; a slice's spare places count too). A statement '..UptoSaid' is the law's where the arguments, and the package variables that the reading takes, are together of bulk at most 1048576: NARROWER than '..Said'. Prove '..Said' where nothing that the law and all that it calls make is longer than what came in: it says more and counts as full. Else prove '..UptoSaid'. A law counts once. -/
mutual
def uptoBulk {H : Type} : DataW H → Nat
  | .lit (.string bytes) => bytes.length + 1
  | .lit _ => 1
  | .nil => 1
  | .ptr d => uptoBulk d + 1
  | .slice elems spare => uptoBulkAll elems + uptoBulkAll spare + 1
  | .agg parts => uptoBulkAll parts + 1
  | .iface _ d => uptoBulk d + 1
  | .map entries => uptoBulkEntries entries + 1
  | .held _ => 1
def uptoBulkAll {H : Type} : List (DataW H) → Nat
  | [] => 0
  | d :: r => uptoBulk d + uptoBulkAll r
def uptoBulkEntries {H : Type} : List (Lit × DataW H) → Nat
  | [] => 0
  | x :: r => uptoBulkEntry x + uptoBulkEntries r
def uptoBulkEntry {H : Type} : Lit × DataW H → Nat
  | (.string bytes, d) => bytes.length + uptoBulk d + 1
  | (_, d) => uptoBulk d + 1
 end
def uptoSmall : (H : Type) → List (DataW H) → Bool := fun _ ds => decide (uptoBulkAll ds ≤ 1048576)
def OpenSpec.upto (s : _root_.Go.ChangeSpec) : _root_.Go.OpenSpec := { _root_.Go.OpenSpec.ofChange s with cond := some uptoSmall }

/-- 'shutterlaw03.SixPuts', WHERE WHAT IT READS IS OF BULK AT MOST 1048576: true; the input reads as it did. -/
def sixPutsUptoRow : OpenClaim := { program := "ytphdefenonncaaadoor", sum := "084be3be1efa37a9af6ed1d366759668b34a467e917e18c87734d98d84482cc8", func := "shutter/shutterlaw03.SixPuts", spec := "sixPuts", inPlace := ["internal/reflectlite.ValueOf", "(internal/reflectlite.Value).Type", "(internal/reflectlite.Value).IsNil", "internal/reflectlite.TypeOf", "(internal/reflectlite.Value).Elem", "(internal/reflectlite.Value).Set"], unfollowed := true, recurses := true, named := ["errors.errorType"], apart := false, laid := [("errors.errorType", laid_errors_errorType)], narrowed := true }
def SixPutsUptoSaid : Prop := sixPutsUptoRow.holds Tryd.pinned (OpenSpec.upto sixPutsSpec)

/-- 'shutterlaw03.SixGets', WHERE WHAT IT READS IS OF BULK AT MOST 1048576: true; the input reads as it did. -/
def sixGetsUptoRow : OpenClaim := { program := "ytphdefenonncaaadoor", sum := "084be3be1efa37a9af6ed1d366759668b34a467e917e18c87734d98d84482cc8", func := "shutter/shutterlaw03.SixGets", spec := "sixGets", inPlace := ["internal/reflectlite.ValueOf", "(internal/reflectlite.Value).Type", "(internal/reflectlite.Value).IsNil", "internal/reflectlite.TypeOf", "(internal/reflectlite.Value).Elem", "(internal/reflectlite.Value).Set"], unfollowed := true, recurses := true, named := ["errors.errorType"], apart := false, laid := [("errors.errorType", laid_errors_errorType)], narrowed := true }
def SixGetsUptoSaid : Prop := sixGetsUptoRow.holds Tryd.pinned (OpenSpec.upto sixGetsSpec)

/-- 'shutterlaw03.SixBack', WHERE WHAT IT READS IS OF BULK AT MOST 1048576: true; the input reads as it did. -/
def sixBackUptoRow : OpenClaim := { program := "ytphdefenonncaaadoor", sum := "084be3be1efa37a9af6ed1d366759668b34a467e917e18c87734d98d84482cc8", func := "shutter/shutterlaw03.SixBack", spec := "sixBack", inPlace := ["internal/reflectlite.ValueOf", "(internal/reflectlite.Value).Type", "(internal/reflectlite.Value).IsNil", "internal/reflectlite.TypeOf", "(internal/reflectlite.Value).Elem", "(internal/reflectlite.Value).Set"], unfollowed := true, recurses := true, named := ["errors.errorType"], apart := false, laid := [("errors.errorType", laid_errors_errorType)], narrowed := true }
def SixBackUptoSaid : Prop := sixBackUptoRow.holds Tryd.pinned (OpenSpec.upto sixBackSpec)

/-- 'shutterlaw03.SixApart', WHERE WHAT IT READS IS OF BULK AT MOST 1048576: true; the input reads as it did. -/
def sixApartUptoRow : OpenClaim := { program := "ytphdefenonncaaadoor", sum := "084be3be1efa37a9af6ed1d366759668b34a467e917e18c87734d98d84482cc8", func := "shutter/shutterlaw03.SixApart", spec := "sixApart", inPlace := ["internal/reflectlite.ValueOf", "(internal/reflectlite.Value).Type", "(internal/reflectlite.Value).IsNil", "internal/reflectlite.TypeOf", "(internal/reflectlite.Value).Elem", "(internal/reflectlite.Value).Set"], unfollowed := true, recurses := true, named := ["errors.errorType"], apart := false, laid := [("errors.errorType", laid_errors_errorType)], narrowed := true }
def SixApartUptoSaid : Prop := sixApartUptoRow.holds Tryd.pinned (OpenSpec.upto sixApartSpec)

/-- 'shutterlaw05.AttrPuts', WHERE WHAT IT READS IS OF BULK AT MOST 1048576: true; the input reads as it did. -/
def attrPutsUptoRow : OpenClaim := { program := "ytphdefenonncaaadoor", sum := "084be3be1efa37a9af6ed1d366759668b34a467e917e18c87734d98d84482cc8", func := "shutter/shutterlaw05.AttrPuts", spec := "attrPuts", inPlace := ["internal/reflectlite.ValueOf", "(internal/reflectlite.Value).Type", "(internal/reflectlite.Value).IsNil", "internal/reflectlite.TypeOf", "(internal/reflectlite.Value).Elem", "(internal/reflectlite.Value).Set"], unfollowed := true, recurses := true, named := ["errors.errorType"], apart := false, laid := [("errors.errorType", laid_errors_errorType)], narrowed := true }
def AttrPutsUptoSaid : Prop := attrPutsUptoRow.holds Tryd.pinned (OpenSpec.upto attrPutsSpec)

/-- 'shutterlaw05.AttrGets', WHERE WHAT IT READS IS OF BULK AT MOST 1048576: true; the input reads as it did. -/
def attrGetsUptoRow : OpenClaim := { program := "ytphdefenonncaaadoor", sum := "084be3be1efa37a9af6ed1d366759668b34a467e917e18c87734d98d84482cc8", func := "shutter/shutterlaw05.AttrGets", spec := "attrGets", inPlace := ["internal/reflectlite.ValueOf", "(internal/reflectlite.Value).Type", "(internal/reflectlite.Value).IsNil", "internal/reflectlite.TypeOf", "(internal/reflectlite.Value).Elem", "(internal/reflectlite.Value).Set"], unfollowed := true, recurses := true, named := ["errors.errorType"], apart := false, laid := [("errors.errorType", laid_errors_errorType)], narrowed := true }
def AttrGetsUptoSaid : Prop := attrGetsUptoRow.holds Tryd.pinned (OpenSpec.upto attrGetsSpec)

end Rows
end Go.Proofs.YtphdefenonncaaaDoor

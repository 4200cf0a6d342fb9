/-
  NARROWER THAN 'FOR EVERY INPUT', by the rows' own cells (each row's printed sentence says how): LineOnce: laid · LineKeeps: laid · LineRoom: laid · LineActs: laid · LineEnds: laid.
  DERIVED. THE GIVEN ROWS OF THIS SEAT. 5 by the template 'for every input the law returns true; each argument reads behind the call as it read before'; 0 by the template 'total and deterministic' (their statements: YtafjegfmmnjpfaaDoorTotals.lean).
  GIVEN WITH THE SEED: the statements are not yours to turn. If you find one false, say at which input.
  Laid BY PROGRAM, IN A SANDBOX (cutbox-rows.mjs): the forced cells as the released guide's own fill.sh prints them over the translation d0f14fbb5129ecf1… (all of the seat's roots in one cut). By AI agents, Wed Nov 11 2026. No macro, syntax, notation, axiom, sorry.
-/
import Derived.Test.YtafjegfmmnjpfaaDoorChecked
import GoSem.Claim
import GoSem.ClaimJoined
import GoSem.ClaimMapViews
import Derived.JoinedTies
import Derived.KernelRfl
namespace Go.Proofs.YtafjegfmmnjpfaaDoor
/- THE CELL 'sum', in the pinned program and in every row, IS THE sha256 OF THE DUMP (.gsa) THAT YtafjegfmmnjpfaaDoorProg.lean LOADS. Nothing in Lean hashes anything: it is a label: what it is worth is what the hold of that sum in a sandbox is worth. -/
noncomputable def Tryd.pinned : Pinned := { name := "ytafjegfmmnjpfaadoor", sum := "d0f14fbb5129ecf1d69a4c6cb5463f7ac8de2daf384660d41e7eac50e78e2f6f", checked := Tryd.checked }
namespace Rows
def none {H : Type} : Left H := { results := [], args := [] }

/- WHAT THE LISTED PACKAGE-LEVEL VARIABLES READ AS WHEN THE CALL BEGINS. Each datum BY PROGRAM (the guide's laid-datum.mjs) off the statement by which the dump's own 'gosem.cut.vars' lays the variable. In a bare row this is a premise. The card (YtafjegfmmnjpfaaDoorCards.lean) ties it to the program's text. -/
def laid_errors_errorType {H : Type} : DataW H := .iface "internal/reflectlite.rtype" (.agg [.ptr (.lit (.string [101, 114, 114, 111, 114]))])

/-- 'shutterlaw23.LineOnce': WHATEVER THE INPUT: true; the input reads as it did. -/
def lineOnceSpec : ChangeSpec := { name := "lineOnce", fn := fun _ => fun
  | [d1, d2, d3] => { results := [.lit (.bool true)], args := [d1, d2, d3] }
  | _ => none }
def lineOnceRow : OpenClaim := { program := "ytafjegfmmnjpfaadoor", sum := "d0f14fbb5129ecf1d69a4c6cb5463f7ac8de2daf384660d41e7eac50e78e2f6f", func := "shutter/shutterlaw23.LineOnce", spec := "lineOnce", inPlace := ["internal/reflectlite.ValueOf", "(internal/reflectlite.Value).Type", "(internal/reflectlite.Value).IsNil", "internal/reflectlite.TypeOf", "(internal/reflectlite.Value).Elem", "(internal/reflectlite.Value).Set"], unfollowed := true, recurses := true, named := ["errors.errorType"], apart := false, laid := [("errors.errorType", laid_errors_errorType)] }
def LineOnceSaid : Prop := lineOnceRow.holds Tryd.pinned (OpenSpec.ofChange lineOnceSpec)

/-- ITS FALSE NEIGHBOUR: 'it returns false'. Refute it at one input. -/
def lineOnceWrong : ChangeSpec := { name := "lineOnce", fn := fun _ => fun
  | [d1, d2, d3] => { results := [.lit (.bool false)], args := [d1, d2, d3] }
  | _ => none }
def LineOnceWrongFalsely : Prop := lineOnceRow.holds Tryd.pinned (OpenSpec.ofChange lineOnceWrong)

/-- 'shutterlaw23.LineKeeps': WHATEVER THE INPUT: true; the input reads as it did. -/
def lineKeepsSpec : ChangeSpec := { name := "lineKeeps", fn := fun _ => fun
  | [d] => { results := [.lit (.bool true)], args := [d] }
  | _ => none }
def lineKeepsRow : OpenClaim := { program := "ytafjegfmmnjpfaadoor", sum := "d0f14fbb5129ecf1d69a4c6cb5463f7ac8de2daf384660d41e7eac50e78e2f6f", func := "shutter/shutterlaw23.LineKeeps", spec := "lineKeeps", inPlace := ["internal/reflectlite.ValueOf", "(internal/reflectlite.Value).Type", "(internal/reflectlite.Value).IsNil", "internal/reflectlite.TypeOf", "(internal/reflectlite.Value).Elem", "(internal/reflectlite.Value).Set"], unfollowed := true, recurses := true, named := ["errors.errorType"], apart := false, laid := [("errors.errorType", laid_errors_errorType)] }
def LineKeepsSaid : Prop := lineKeepsRow.holds Tryd.pinned (OpenSpec.ofChange lineKeepsSpec)

/-- ITS FALSE NEIGHBOUR: 'it returns false'. Refute it at one input. -/
def lineKeepsWrong : ChangeSpec := { name := "lineKeeps", fn := fun _ => fun
  | [d] => { results := [.lit (.bool false)], args := [d] }
  | _ => none }
def LineKeepsWrongFalsely : Prop := lineKeepsRow.holds Tryd.pinned (OpenSpec.ofChange lineKeepsWrong)

/-- 'shutterlaw23.LineRoom': WHATEVER THE INPUT: true; the input reads as it did. -/
def lineRoomSpec : ChangeSpec := { name := "lineRoom", fn := fun _ => fun
  | [d] => { results := [.lit (.bool true)], args := [d] }
  | _ => none }
def lineRoomRow : OpenClaim := { program := "ytafjegfmmnjpfaadoor", sum := "d0f14fbb5129ecf1d69a4c6cb5463f7ac8de2daf384660d41e7eac50e78e2f6f", func := "shutter/shutterlaw23.LineRoom", spec := "lineRoom", inPlace := ["internal/reflectlite.ValueOf", "(internal/reflectlite.Value).Type", "(internal/reflectlite.Value).IsNil", "internal/reflectlite.TypeOf", "(internal/reflectlite.Value).Elem", "(internal/reflectlite.Value).Set"], unfollowed := true, recurses := true, named := ["errors.errorType"], apart := false, laid := [("errors.errorType", laid_errors_errorType)] }
def LineRoomSaid : Prop := lineRoomRow.holds Tryd.pinned (OpenSpec.ofChange lineRoomSpec)

/-- ITS FALSE NEIGHBOUR: 'it returns false'. Refute it at one input. -/
def lineRoomWrong : ChangeSpec := { name := "lineRoom", fn := fun _ => fun
  | [d] => { results := [.lit (.bool false)], args := [d] }
  | _ => none }
def LineRoomWrongFalsely : Prop := lineRoomRow.holds Tryd.pinned (OpenSpec.ofChange lineRoomWrong)

/-- 'shutterlaw23.LineActs': WHATEVER THE INPUT: true; the input reads as it did. -/
def lineActsSpec : ChangeSpec := { name := "lineActs", fn := fun _ => fun
  | [d1, d2] => { results := [.lit (.bool true)], args := [d1, d2] }
  | _ => none }
def lineActsRow : OpenClaim := { program := "ytafjegfmmnjpfaadoor", sum := "d0f14fbb5129ecf1d69a4c6cb5463f7ac8de2daf384660d41e7eac50e78e2f6f", func := "shutter/shutterlaw23.LineActs", spec := "lineActs", inPlace := ["internal/reflectlite.ValueOf", "(internal/reflectlite.Value).Type", "(internal/reflectlite.Value).IsNil", "internal/reflectlite.TypeOf", "(internal/reflectlite.Value).Elem", "(internal/reflectlite.Value).Set"], unfollowed := true, recurses := true, named := ["errors.errorType"], apart := false, laid := [("errors.errorType", laid_errors_errorType)] }
def LineActsSaid : Prop := lineActsRow.holds Tryd.pinned (OpenSpec.ofChange lineActsSpec)

/-- ITS FALSE NEIGHBOUR: 'it returns false'. Refute it at one input. -/
def lineActsWrong : ChangeSpec := { name := "lineActs", fn := fun _ => fun
  | [d1, d2] => { results := [.lit (.bool false)], args := [d1, d2] }
  | _ => none }
def LineActsWrongFalsely : Prop := lineActsRow.holds Tryd.pinned (OpenSpec.ofChange lineActsWrong)

/-- 'shutterlaw23.LineEnds': WHATEVER THE INPUT: true; the input reads as it did. -/
def lineEndsSpec : ChangeSpec := { name := "lineEnds", fn := fun _ => fun
  | [d1, d2, d3] => { results := [.lit (.bool true)], args := [d1, d2, d3] }
  | _ => none }
def lineEndsRow : OpenClaim := { program := "ytafjegfmmnjpfaadoor", sum := "d0f14fbb5129ecf1d69a4c6cb5463f7ac8de2daf384660d41e7eac50e78e2f6f", func := "shutter/shutterlaw23.LineEnds", spec := "lineEnds", inPlace := ["internal/reflectlite.ValueOf", "(internal/reflectlite.Value).Type", "(internal/reflectlite.Value).IsNil", "internal/reflectlite.TypeOf", "(internal/reflectlite.Value).Elem", "(internal/reflectlite.Value).Set"], unfollowed := true, recurses := true, named := ["errors.errorType"], apart := false, laid := [("errors.errorType", laid_errors_errorType)] }
def LineEndsSaid : Prop := lineEndsRow.holds Tryd.pinned (OpenSpec.ofChange lineEndsSpec)

/-- ITS FALSE NEIGHBOUR: 'it returns false'. Refute it at one input. -/
def lineEndsWrong : ChangeSpec := { name := "lineEnds", fn := fun _ => fun
  | [d1, d2, d3] => { results := [.lit (.bool false)], args := [d1, d2, d3] }
  | _ => none }
def LineEndsWrongFalsely : Prop := lineEndsRow.holds Tryd.pinned (OpenSpec.ofChange lineEndsWrong)

/- THE SECOND FORM. 'bulk': how many values and letters a reading holds, each counted each time it is reached (what is shared counts as often as it is met; a slice's spare places count too). A statement '..UptoSaid' is the law's where the arguments, and the package variables that the reading takes, are together of bulk at most 1048576: NARROWER than '..Said'. Prove '..Said' where nothing that the law and all that it calls make is longer than what came in: it says more and counts as full. Else prove '..UptoSaid'. A law counts once. -/
mutual
def uptoBulk {H : Type} : DataW H → Nat
  | .lit (.string bytes) => bytes.length + 1
  | .lit _ => 1
  | .nil => 1
  | .ptr d => uptoBulk d + 1
  | .slice elems spare => uptoBulkAll elems + uptoBulkAll spare + 1
  | .agg parts => uptoBulkAll parts + 1
  | .iface _ d => uptoBulk d + 1
  | .map entries => uptoBulkEntries entries + 1
  | .held _ => 1
def uptoBulkAll {H : Type} : List (DataW H) → Nat
  | [] => 0
  | d :: r => uptoBulk d + uptoBulkAll r
def uptoBulkEntries {H : Type} : List (Lit × DataW H) → Nat
  | [] => 0
  | x :: r => uptoBulkEntry x + uptoBulkEntries r
def uptoBulkEntry {H : Type} : Lit × DataW H → Nat
  | (.string bytes, d) => bytes.length + uptoBulk d + 1
  | (_, d) => uptoBulk d + 1
 end
def uptoSmall : (H : Type) → List (DataW H) → Bool := fun _ ds => decide (uptoBulkAll ds ≤ 1048576)
def OpenSpec.upto (s : _root_.Go.ChangeSpec) : _root_.Go.OpenSpec := { _root_.Go.OpenSpec.ofChange s with cond := some uptoSmall }

/-- 'shutterlaw23.LineOnce', WHERE WHAT IT READS IS OF BULK AT MOST 1048576: true; the input reads as it did. -/
def lineOnceUptoRow : OpenClaim := { program := "ytafjegfmmnjpfaadoor", sum := "d0f14fbb5129ecf1d69a4c6cb5463f7ac8de2daf384660d41e7eac50e78e2f6f", func := "shutter/shutterlaw23.LineOnce", spec := "lineOnce", inPlace := ["internal/reflectlite.ValueOf", "(internal/reflectlite.Value).Type", "(internal/reflectlite.Value).IsNil", "internal/reflectlite.TypeOf", "(internal/reflectlite.Value).Elem", "(internal/reflectlite.Value).Set"], unfollowed := true, recurses := true, named := ["errors.errorType"], apart := false, laid := [("errors.errorType", laid_errors_errorType)], narrowed := true }
def LineOnceUptoSaid : Prop := lineOnceUptoRow.holds Tryd.pinned (OpenSpec.upto lineOnceSpec)

/-- 'shutterlaw23.LineKeeps', WHERE WHAT IT READS IS OF BULK AT MOST 1048576: true; the input reads as it did. -/
def lineKeepsUptoRow : OpenClaim := { program := "ytafjegfmmnjpfaadoor", sum := "d0f14fbb5129ecf1d69a4c6cb5463f7ac8de2daf384660d41e7eac50e78e2f6f", func := "shutter/shutterlaw23.LineKeeps", spec := "lineKeeps", inPlace := ["internal/reflectlite.ValueOf", "(internal/reflectlite.Value).Type", "(internal/reflectlite.Value).IsNil", "internal/reflectlite.TypeOf", "(internal/reflectlite.Value).Elem", "(internal/reflectlite.Value).Set"], unfollowed := true, recurses := true, named := ["errors.errorType"], apart := false, laid := [("errors.errorType", laid_errors_errorType)], narrowed := true }
def LineKeepsUptoSaid : Prop := lineKeepsUptoRow.holds Tryd.pinned (OpenSpec.upto lineKeepsSpec)

/-- 'shutterlaw23.LineRoom', WHERE WHAT IT READS IS OF BULK AT MOST 1048576: true; the input reads as it did. -/
def lineRoomUptoRow : OpenClaim := { program := "ytafjegfmmnjpfaadoor", sum := "d0f14fbb5129ecf1d69a4c6cb5463f7ac8de2daf384660d41e7eac50e78e2f6f", func := "shutter/shutterlaw23.LineRoom", spec := "lineRoom", inPlace := ["internal/reflectlite.ValueOf", "(internal/reflectlite.Value).Type", "(internal/reflectlite.Value).IsNil", "internal/reflectlite.TypeOf", "(internal/reflectlite.Value).Elem", "(internal/reflectlite.Value).Set"], unfollowed := true, recurses := true, named := ["errors.errorType"], apart := false, laid := [("errors.errorType", laid_errors_errorType)], narrowed := true }
def LineRoomUptoSaid : Prop := lineRoomUptoRow.holds Tryd.pinned (OpenSpec.upto lineRoomSpec)

/-- 'shutterlaw23.LineActs', WHERE WHAT IT READS IS OF BULK AT MOST 1048576: true; the input reads as it did. -/
def lineActsUptoRow : OpenClaim := { program := "ytafjegfmmnjpfaadoor", sum := "d0f14fbb5129ecf1d69a4c6cb5463f7ac8de2daf384660d41e7eac50e78e2f6f", func := "shutter/shutterlaw23.LineActs", spec := "lineActs", inPlace := ["internal/reflectlite.ValueOf", "(internal/reflectlite.Value).Type", "(internal/reflectlite.Value).IsNil", "internal/reflectlite.TypeOf", "(internal/reflectlite.Value).Elem", "(internal/reflectlite.Value).Set"], unfollowed := true, recurses := true, named := ["errors.errorType"], apart := false, laid := [("errors.errorType", laid_errors_errorType)], narrowed := true }
def LineActsUptoSaid : Prop := lineActsUptoRow.holds Tryd.pinned (OpenSpec.upto lineActsSpec)

/-- 'shutterlaw23.LineEnds', WHERE WHAT IT READS IS OF BULK AT MOST 1048576: true; the input reads as it did. -/
def lineEndsUptoRow : OpenClaim := { program := "ytafjegfmmnjpfaadoor", sum := "d0f14fbb5129ecf1d69a4c6cb5463f7ac8de2daf384660d41e7eac50e78e2f6f", func := "shutter/shutterlaw23.LineEnds", spec := "lineEnds", inPlace := ["internal/reflectlite.ValueOf", "(internal/reflectlite.Value).Type", "(internal/reflectlite.Value).IsNil", "internal/reflectlite.TypeOf", "(internal/reflectlite.Value).Elem", "(internal/reflectlite.Value).Set"], unfollowed := true, recurses := true, named := ["errors.errorType"], apart := false, laid := [("errors.errorType", laid_errors_errorType)], narrowed := true }
def LineEndsUptoSaid : Prop := lineEndsUptoRow.holds Tryd.pinned (OpenSpec.upto lineEndsSpec)

end Rows
end Go.Proofs.YtafjegfmmnjpfaaDoor

/-
  NARROWER THAN 'FOR EVERY INPUT', by the rows' own cells (each row's printed sentence says how): PieceCuts: laid · PieceWrites: laid · PieceJoin: laid · PieceBack: laid · PieceKeeps: laid · PieceCounts: laid.
  DERIVED. THE GIVEN ROWS OF THIS SEAT. 6 by the template 'for every input the law returns true; each argument reads behind the call as it read before'; 0 by the template 'total and deterministic' (their statements: YtfmlndkibnjbmaaDoorTotals.lean).
  GIVEN WITH THE SEED: the statements are not yours to turn. If you find one false, say at which input.
  Laid BY PROGRAM, IN A SANDBOX (cutbox-rows.mjs): the forced cells as the released guide's own fill.sh prints them over the translation be0f5c3cf7929648… (all of the seat's roots in one cut). By AI agents, Wed Nov 11 2026. No macro, syntax, notation, axiom, sorry.
-/
import Derived.Test.YtfmlndkibnjbmaaDoorChecked
import GoSem.Claim
import GoSem.ClaimJoined
import GoSem.ClaimMapViews
import Derived.JoinedTies
import Derived.KernelRfl
namespace Go.Proofs.YtfmlndkibnjbmaaDoor
/- THE CELL 'sum', in the pinned program and in every row, IS THE sha256 OF THE DUMP (.gsa) THAT YtfmlndkibnjbmaaDoorProg.lean LOADS. Nothing in Lean hashes anything: it is a label: what it is worth is what the hold of that sum in a sandbox is worth. -/
noncomputable def Tryd.pinned : Pinned := { name := "ytfmlndkibnjbmaadoor", sum := "be0f5c3cf7929648f02052c7425d94fa6c970422139f5cb585e996f08892d62b", checked := Tryd.checked }
namespace Rows
def none {H : Type} : Left H := { results := [], args := [] }

/- WHAT THE LISTED PACKAGE-LEVEL VARIABLES READ AS WHEN THE CALL BEGINS. Each datum BY PROGRAM (the guide's laid-datum.mjs) off the statement by which the dump's own 'gosem.cut.vars' lays the variable. In a bare row this is a premise. The card (YtfmlndkibnjbmaaDoorCards.lean) ties it to the program's text. -/
def laid_errors_errorType {H : Type} : DataW H := .iface "internal/reflectlite.rtype" (.agg [.ptr (.lit (.string [101, 114, 114, 111, 114]))])

/-- 'shutterlaw22.PieceCuts': WHATEVER THE INPUT: true; the input reads as it did. -/
def pieceCutsSpec : ChangeSpec := { name := "pieceCuts", fn := fun _ => fun
  | [d] => { results := [.lit (.bool true)], args := [d] }
  | _ => none }
def pieceCutsRow : OpenClaim := { program := "ytfmlndkibnjbmaadoor", sum := "be0f5c3cf7929648f02052c7425d94fa6c970422139f5cb585e996f08892d62b", func := "shutter/shutterlaw22.PieceCuts", spec := "pieceCuts", inPlace := ["internal/reflectlite.ValueOf", "(internal/reflectlite.Value).Type", "(internal/reflectlite.Value).IsNil", "internal/reflectlite.TypeOf", "(internal/reflectlite.Value).Elem", "(internal/reflectlite.Value).Set"], unfollowed := true, recurses := true, named := ["errors.errorType"], apart := false, laid := [("errors.errorType", laid_errors_errorType)] }
def PieceCutsSaid : Prop := pieceCutsRow.holds Tryd.pinned (OpenSpec.ofChange pieceCutsSpec)

/-- ITS FALSE NEIGHBOUR: 'it returns false'. Refute it at one input. -/
def pieceCutsWrong : ChangeSpec := { name := "pieceCuts", fn := fun _ => fun
  | [d] => { results := [.lit (.bool false)], args := [d] }
  | _ => none }
def PieceCutsWrongFalsely : Prop := pieceCutsRow.holds Tryd.pinned (OpenSpec.ofChange pieceCutsWrong)

/-- 'shutterlaw22.PieceWrites': WHATEVER THE INPUT: true; the input reads as it did. -/
def pieceWritesSpec : ChangeSpec := { name := "pieceWrites", fn := fun _ => fun
  | [d1, d2] => { results := [.lit (.bool true)], args := [d1, d2] }
  | _ => none }
def pieceWritesRow : OpenClaim := { program := "ytfmlndkibnjbmaadoor", sum := "be0f5c3cf7929648f02052c7425d94fa6c970422139f5cb585e996f08892d62b", func := "shutter/shutterlaw22.PieceWrites", spec := "pieceWrites", inPlace := ["internal/reflectlite.ValueOf", "(internal/reflectlite.Value).Type", "(internal/reflectlite.Value).IsNil", "internal/reflectlite.TypeOf", "(internal/reflectlite.Value).Elem", "(internal/reflectlite.Value).Set"], unfollowed := true, recurses := true, named := ["errors.errorType"], apart := false, laid := [("errors.errorType", laid_errors_errorType)] }
def PieceWritesSaid : Prop := pieceWritesRow.holds Tryd.pinned (OpenSpec.ofChange pieceWritesSpec)

/-- ITS FALSE NEIGHBOUR: 'it returns false'. Refute it at one input. -/
def pieceWritesWrong : ChangeSpec := { name := "pieceWrites", fn := fun _ => fun
  | [d1, d2] => { results := [.lit (.bool false)], args := [d1, d2] }
  | _ => none }
def PieceWritesWrongFalsely : Prop := pieceWritesRow.holds Tryd.pinned (OpenSpec.ofChange pieceWritesWrong)

/-- 'shutterlaw22.PieceJoin': WHATEVER THE INPUT: true; the input reads as it did. -/
def pieceJoinSpec : ChangeSpec := { name := "pieceJoin", fn := fun _ => fun
  | [d] => { results := [.lit (.bool true)], args := [d] }
  | _ => none }
def pieceJoinRow : OpenClaim := { program := "ytfmlndkibnjbmaadoor", sum := "be0f5c3cf7929648f02052c7425d94fa6c970422139f5cb585e996f08892d62b", func := "shutter/shutterlaw22.PieceJoin", spec := "pieceJoin", inPlace := ["internal/reflectlite.ValueOf", "(internal/reflectlite.Value).Type", "(internal/reflectlite.Value).IsNil", "internal/reflectlite.TypeOf", "(internal/reflectlite.Value).Elem", "(internal/reflectlite.Value).Set"], unfollowed := true, recurses := true, named := ["errors.errorType"], apart := false, laid := [("errors.errorType", laid_errors_errorType)] }
def PieceJoinSaid : Prop := pieceJoinRow.holds Tryd.pinned (OpenSpec.ofChange pieceJoinSpec)

/-- ITS FALSE NEIGHBOUR: 'it returns false'. Refute it at one input. -/
def pieceJoinWrong : ChangeSpec := { name := "pieceJoin", fn := fun _ => fun
  | [d] => { results := [.lit (.bool false)], args := [d] }
  | _ => none }
def PieceJoinWrongFalsely : Prop := pieceJoinRow.holds Tryd.pinned (OpenSpec.ofChange pieceJoinWrong)

/-- 'shutterlaw22.PieceBack': WHATEVER THE INPUT: true; the input reads as it did. -/
def pieceBackSpec : ChangeSpec := { name := "pieceBack", fn := fun _ => fun
  | [d1, d2] => { results := [.lit (.bool true)], args := [d1, d2] }
  | _ => none }
def pieceBackRow : OpenClaim := { program := "ytfmlndkibnjbmaadoor", sum := "be0f5c3cf7929648f02052c7425d94fa6c970422139f5cb585e996f08892d62b", func := "shutter/shutterlaw22.PieceBack", spec := "pieceBack", inPlace := ["internal/reflectlite.ValueOf", "(internal/reflectlite.Value).Type", "(internal/reflectlite.Value).IsNil", "internal/reflectlite.TypeOf", "(internal/reflectlite.Value).Elem", "(internal/reflectlite.Value).Set"], unfollowed := true, recurses := true, named := ["errors.errorType"], apart := false, laid := [("errors.errorType", laid_errors_errorType)] }
def PieceBackSaid : Prop := pieceBackRow.holds Tryd.pinned (OpenSpec.ofChange pieceBackSpec)

/-- ITS FALSE NEIGHBOUR: 'it returns false'. Refute it at one input. -/
def pieceBackWrong : ChangeSpec := { name := "pieceBack", fn := fun _ => fun
  | [d1, d2] => { results := [.lit (.bool false)], args := [d1, d2] }
  | _ => none }
def PieceBackWrongFalsely : Prop := pieceBackRow.holds Tryd.pinned (OpenSpec.ofChange pieceBackWrong)

/-- 'shutterlaw22.PieceKeeps': WHATEVER THE INPUT: true; the input reads as it did. -/
def pieceKeepsSpec : ChangeSpec := { name := "pieceKeeps", fn := fun _ => fun
  | [d] => { results := [.lit (.bool true)], args := [d] }
  | _ => none }
def pieceKeepsRow : OpenClaim := { program := "ytfmlndkibnjbmaadoor", sum := "be0f5c3cf7929648f02052c7425d94fa6c970422139f5cb585e996f08892d62b", func := "shutter/shutterlaw22.PieceKeeps", spec := "pieceKeeps", inPlace := ["internal/reflectlite.ValueOf", "(internal/reflectlite.Value).Type", "(internal/reflectlite.Value).IsNil", "internal/reflectlite.TypeOf", "(internal/reflectlite.Value).Elem", "(internal/reflectlite.Value).Set"], unfollowed := true, recurses := true, named := ["errors.errorType"], apart := false, laid := [("errors.errorType", laid_errors_errorType)] }
def PieceKeepsSaid : Prop := pieceKeepsRow.holds Tryd.pinned (OpenSpec.ofChange pieceKeepsSpec)

/-- ITS FALSE NEIGHBOUR: 'it returns false'. Refute it at one input. -/
def pieceKeepsWrong : ChangeSpec := { name := "pieceKeeps", fn := fun _ => fun
  | [d] => { results := [.lit (.bool false)], args := [d] }
  | _ => none }
def PieceKeepsWrongFalsely : Prop := pieceKeepsRow.holds Tryd.pinned (OpenSpec.ofChange pieceKeepsWrong)

/-- 'shutterlaw22.PieceCounts': WHATEVER THE INPUT: true; the input reads as it did. -/
def pieceCountsSpec : ChangeSpec := { name := "pieceCounts", fn := fun _ => fun
  | [d] => { results := [.lit (.bool true)], args := [d] }
  | _ => none }
def pieceCountsRow : OpenClaim := { program := "ytfmlndkibnjbmaadoor", sum := "be0f5c3cf7929648f02052c7425d94fa6c970422139f5cb585e996f08892d62b", func := "shutter/shutterlaw22.PieceCounts", spec := "pieceCounts", inPlace := ["internal/reflectlite.ValueOf", "(internal/reflectlite.Value).Type", "(internal/reflectlite.Value).IsNil", "internal/reflectlite.TypeOf", "(internal/reflectlite.Value).Elem", "(internal/reflectlite.Value).Set"], unfollowed := true, recurses := true, named := ["errors.errorType"], apart := false, laid := [("errors.errorType", laid_errors_errorType)] }
def PieceCountsSaid : Prop := pieceCountsRow.holds Tryd.pinned (OpenSpec.ofChange pieceCountsSpec)

/-- ITS FALSE NEIGHBOUR: 'it returns false'. Refute it at one input. -/
def pieceCountsWrong : ChangeSpec := { name := "pieceCounts", fn := fun _ => fun
  | [d] => { results := [.lit (.bool false)], args := [d] }
  | _ => none }
def PieceCountsWrongFalsely : Prop := pieceCountsRow.holds Tryd.pinned (OpenSpec.ofChange pieceCountsWrong)

/- THE SECOND FORM. 'bulk': how many values and letters a reading holds, each counted each time it is reached (what is shared counts as often as it is met; a slice's spare places count too). A statement '..UptoSaid' is the law's where the arguments, and the package variables that the reading takes, are together of bulk at most 1048576: NARROWER than '..Said'. Prove '..Said' where nothing that the law and all that it calls make is longer than what came in: it says more and counts as full. Else prove '..UptoSaid'. A law counts once. -/
mutual
def uptoBulk {H : Type} : DataW H → Nat
  | .lit (.string bytes) => bytes.length + 1
  | .lit _ => 1
  | .nil => 1
  | .ptr d => uptoBulk d + 1
  | .slice elems spare => uptoBulkAll elems + uptoBulkAll spare + 1
  | .agg parts => uptoBulkAll parts + 1
  | .iface _ d => uptoBulk d + 1
  | .map entries => uptoBulkEntries entries + 1
  | .held _ => 1
def uptoBulkAll {H : Type} : List (DataW H) → Nat
  | [] => 0
  | d :: r => uptoBulk d + uptoBulkAll r
def uptoBulkEntries {H : Type} : List (Lit × DataW H) → Nat
  | [] => 0
  | x :: r => uptoBulkEntry x + uptoBulkEntries r
def uptoBulkEntry {H : Type} : Lit × DataW H → Nat
  | (.string bytes, d) => bytes.length + uptoBulk d + 1
  | (_, d) => uptoBulk d + 1
 end
def uptoSmall : (H : Type) → List (DataW H) → Bool := fun _ ds => decide (uptoBulkAll ds ≤ 1048576)
def OpenSpec.upto (s : _root_.Go.ChangeSpec) : _root_.Go.OpenSpec := { _root_.Go.OpenSpec.ofChange s with cond := some uptoSmall }

/-- 'shutterlaw22.PieceCuts', WHERE WHAT IT READS IS OF BULK AT MOST 1048576: true; the input reads as it did. -/
def pieceCutsUptoRow : OpenClaim := { program := "ytfmlndkibnjbmaadoor", sum := "be0f5c3cf7929648f02052c7425d94fa6c970422139f5cb585e996f08892d62b", func := "shutter/shutterlaw22.PieceCuts", spec := "pieceCuts", inPlace := ["internal/reflectlite.ValueOf", "(internal/reflectlite.Value).Type", "(internal/reflectlite.Value).IsNil", "internal/reflectlite.TypeOf", "(internal/reflectlite.Value).Elem", "(internal/reflectlite.Value).Set"], unfollowed := true, recurses := true, named := ["errors.errorType"], apart := false, laid := [("errors.errorType", laid_errors_errorType)], narrowed := true }
def PieceCutsUptoSaid : Prop := pieceCutsUptoRow.holds Tryd.pinned (OpenSpec.upto pieceCutsSpec)

/-- 'shutterlaw22.PieceWrites', WHERE WHAT IT READS IS OF BULK AT MOST 1048576: true; the input reads as it did. -/
def pieceWritesUptoRow : OpenClaim := { program := "ytfmlndkibnjbmaadoor", sum := "be0f5c3cf7929648f02052c7425d94fa6c970422139f5cb585e996f08892d62b", func := "shutter/shutterlaw22.PieceWrites", spec := "pieceWrites", inPlace := ["internal/reflectlite.ValueOf", "(internal/reflectlite.Value).Type", "(internal/reflectlite.Value).IsNil", "internal/reflectlite.TypeOf", "(internal/reflectlite.Value).Elem", "(internal/reflectlite.Value).Set"], unfollowed := true, recurses := true, named := ["errors.errorType"], apart := false, laid := [("errors.errorType", laid_errors_errorType)], narrowed := true }
def PieceWritesUptoSaid : Prop := pieceWritesUptoRow.holds Tryd.pinned (OpenSpec.upto pieceWritesSpec)

/-- 'shutterlaw22.PieceJoin', WHERE WHAT IT READS IS OF BULK AT MOST 1048576: true; the input reads as it did. -/
def pieceJoinUptoRow : OpenClaim := { program := "ytfmlndkibnjbmaadoor", sum := "be0f5c3cf7929648f02052c7425d94fa6c970422139f5cb585e996f08892d62b", func := "shutter/shutterlaw22.PieceJoin", spec := "pieceJoin", inPlace := ["internal/reflectlite.ValueOf", "(internal/reflectlite.Value).Type", "(internal/reflectlite.Value).IsNil", "internal/reflectlite.TypeOf", "(internal/reflectlite.Value).Elem", "(internal/reflectlite.Value).Set"], unfollowed := true, recurses := true, named := ["errors.errorType"], apart := false, laid := [("errors.errorType", laid_errors_errorType)], narrowed := true }
def PieceJoinUptoSaid : Prop := pieceJoinUptoRow.holds Tryd.pinned (OpenSpec.upto pieceJoinSpec)

/-- 'shutterlaw22.PieceBack', WHERE WHAT IT READS IS OF BULK AT MOST 1048576: true; the input reads as it did. -/
def pieceBackUptoRow : OpenClaim := { program := "ytfmlndkibnjbmaadoor", sum := "be0f5c3cf7929648f02052c7425d94fa6c970422139f5cb585e996f08892d62b", func := "shutter/shutterlaw22.PieceBack", spec := "pieceBack", inPlace := ["internal/reflectlite.ValueOf", "(internal/reflectlite.Value).Type", "(internal/reflectlite.Value).IsNil", "internal/reflectlite.TypeOf", "(internal/reflectlite.Value).Elem", "(internal/reflectlite.Value).Set"], unfollowed := true, recurses := true, named := ["errors.errorType"], apart := false, laid := [("errors.errorType", laid_errors_errorType)], narrowed := true }
def PieceBackUptoSaid : Prop := pieceBackUptoRow.holds Tryd.pinned (OpenSpec.upto pieceBackSpec)

/-- 'shutterlaw22.PieceKeeps', WHERE WHAT IT READS IS OF BULK AT MOST 1048576: true; the input reads as it did. -/
def pieceKeepsUptoRow : OpenClaim := { program := "ytfmlndkibnjbmaadoor", sum := "be0f5c3cf7929648f02052c7425d94fa6c970422139f5cb585e996f08892d62b", func := "shutter/shutterlaw22.PieceKeeps", spec := "pieceKeeps", inPlace := ["internal/reflectlite.ValueOf", "(internal/reflectlite.Value).Type", "(internal/reflectlite.Value).IsNil", "internal/reflectlite.TypeOf", "(internal/reflectlite.Value).Elem", "(internal/reflectlite.Value).Set"], unfollowed := true, recurses := true, named := ["errors.errorType"], apart := false, laid := [("errors.errorType", laid_errors_errorType)], narrowed := true }
def PieceKeepsUptoSaid : Prop := pieceKeepsUptoRow.holds Tryd.pinned (OpenSpec.upto pieceKeepsSpec)

/-- 'shutterlaw22.PieceCounts', WHERE WHAT IT READS IS OF BULK AT MOST 1048576: true; the input reads as it did. -/
def pieceCountsUptoRow : OpenClaim := { program := "ytfmlndkibnjbmaadoor", sum := "be0f5c3cf7929648f02052c7425d94fa6c970422139f5cb585e996f08892d62b", func := "shutter/shutterlaw22.PieceCounts", spec := "pieceCounts", inPlace := ["internal/reflectlite.ValueOf", "(internal/reflectlite.Value).Type", "(internal/reflectlite.Value).IsNil", "internal/reflectlite.TypeOf", "(internal/reflectlite.Value).Elem", "(internal/reflectlite.Value).Set"], unfollowed := true, recurses := true, named := ["errors.errorType"], apart := false, laid := [("errors.errorType", laid_errors_errorType)], narrowed := true }
def PieceCountsUptoSaid : Prop := pieceCountsUptoRow.holds Tryd.pinned (OpenSpec.upto pieceCountsSpec)

end Rows
end Go.Proofs.YtfmlndkibnjbmaaDoor

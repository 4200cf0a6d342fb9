/-
  No cell of these rows narrows 'for every input' (looked for: loops, veiled, ifaces, maps, wideKeys, modest, calm, conditions, laid).
  DERIVED. THE GIVEN ROWS OF THIS SEAT. 3 by the template 'for every input the law returns true; each argument reads behind the call as it read before'; 0 by the template 'total and deterministic' (their statements: YtabghncbdohciaaTotals.lean).
  GIVEN WITH THE SEED: the statements are not yours to turn. If you find one false, say at which input.
  Laid BY PROGRAM, IN A SANDBOX (cutbox-rows.mjs): the forced cells as the released guide's own fill.sh prints them over the translation e8012a29496da47a… (all of the seat's roots in one cut). By AI agents, Wed Nov 11 2026. No macro, syntax, notation, axiom, sorry.
-/
import Derived.Test.YtabghncbdohciaaChecked
import GoSem.Claim
import GoSem.ClaimJoined
import GoSem.ClaimMapViews
import Derived.JoinedTies
import Derived.KernelRfl
namespace Go.Proofs.Ytabghncbdohciaa
/- THE CELL 'sum', in the pinned program and in every row, IS THE sha256 OF THE DUMP (.gsa) THAT YtabghncbdohciaaProg.lean LOADS. Nothing in Lean hashes anything: it is a label: what it is worth is what the hold of that sum in a sandbox is worth. -/
noncomputable def Try.pinned : Pinned := { name := "ytabghncbdohciaa", sum := "e8012a29496da47ada940356b488c10df67efc7e2660ec1b923743ff6d3bb57d", checked := Try.checked }
namespace Rows
def none {H : Type} : Left H := { results := [], args := [] }

/-- 'shutterlaw10.GridSpans': WHATEVER THE INPUT: true; the input reads as it did. -/
def gridSpansSpec : ChangeSpec := { name := "gridSpans", fn := fun _ => fun
  | [d1, d2, d3] => { results := [.lit (.bool true)], args := [d1, d2, d3] }
  | _ => none }
def gridSpansRow : OpenClaim := { program := "ytabghncbdohciaa", sum := "e8012a29496da47ada940356b488c10df67efc7e2660ec1b923743ff6d3bb57d", func := "shutter/shutterlaw10.GridSpans", spec := "gridSpans", unfollowed := true, recurses := true, apart := false }
def GridSpansSaid : Prop := gridSpansRow.holds Try.pinned (OpenSpec.ofChange gridSpansSpec)

/-- ITS FALSE NEIGHBOUR: 'it returns false'. Refute it at one input. -/
def gridSpansWrong : ChangeSpec := { name := "gridSpans", fn := fun _ => fun
  | [d1, d2, d3] => { results := [.lit (.bool false)], args := [d1, d2, d3] }
  | _ => none }
def GridSpansWrongFalsely : Prop := gridSpansRow.holds Try.pinned (OpenSpec.ofChange gridSpansWrong)

/-- 'shutterlaw10.GridRing': WHATEVER THE INPUT: true; the input reads as it did. -/
def gridRingSpec : ChangeSpec := { name := "gridRing", fn := fun _ => fun
  | [d1, d2, d3, d4] => { results := [.lit (.bool true)], args := [d1, d2, d3, d4] }
  | _ => none }
def gridRingRow : OpenClaim := { program := "ytabghncbdohciaa", sum := "e8012a29496da47ada940356b488c10df67efc7e2660ec1b923743ff6d3bb57d", func := "shutter/shutterlaw10.GridRing", spec := "gridRing", unfollowed := true, recurses := true, apart := false }
def GridRingSaid : Prop := gridRingRow.holds Try.pinned (OpenSpec.ofChange gridRingSpec)

/-- ITS FALSE NEIGHBOUR: 'it returns false'. Refute it at one input. -/
def gridRingWrong : ChangeSpec := { name := "gridRing", fn := fun _ => fun
  | [d1, d2, d3, d4] => { results := [.lit (.bool false)], args := [d1, d2, d3, d4] }
  | _ => none }
def GridRingWrongFalsely : Prop := gridRingRow.holds Try.pinned (OpenSpec.ofChange gridRingWrong)

/-- 'shutterlaw10.GridKeeps': WHATEVER THE INPUT: true; the input reads as it did. -/
def gridKeepsSpec : ChangeSpec := { name := "gridKeeps", fn := fun _ => fun
  | [d1, d2, d3] => { results := [.lit (.bool true)], args := [d1, d2, d3] }
  | _ => none }
def gridKeepsRow : OpenClaim := { program := "ytabghncbdohciaa", sum := "e8012a29496da47ada940356b488c10df67efc7e2660ec1b923743ff6d3bb57d", func := "shutter/shutterlaw10.GridKeeps", spec := "gridKeeps", unfollowed := true, recurses := true, apart := false }
def GridKeepsSaid : Prop := gridKeepsRow.holds Try.pinned (OpenSpec.ofChange gridKeepsSpec)

/-- ITS FALSE NEIGHBOUR: 'it returns false'. Refute it at one input. -/
def gridKeepsWrong : ChangeSpec := { name := "gridKeeps", fn := fun _ => fun
  | [d1, d2, d3] => { results := [.lit (.bool false)], args := [d1, d2, d3] }
  | _ => none }
def GridKeepsWrongFalsely : Prop := gridKeepsRow.holds Try.pinned (OpenSpec.ofChange gridKeepsWrong)

/- THE SECOND FORM. 'bulk': how many values and letters a reading holds, each counted each time it is reached (what is shared counts as often as it is met; a slice's spare places count too). A statement '..UptoSaid' is the law's where the arguments, and the package variables that the reading takes, are together of bulk at most 1048576: NARROWER than '..Said'. Prove '..Said' where nothing that the law and all that it calls make is longer than what came in: it says more and counts as full. Else prove '..UptoSaid'. A law counts once. -/
mutual
def uptoBulk {H : Type} : DataW H → Nat
  | .lit (.string bytes) => bytes.length + 1
  | .lit _ => 1
  | .nil => 1
  | .ptr d => uptoBulk d + 1
  | .slice elems spare => uptoBulkAll elems + uptoBulkAll spare + 1
  | .agg parts => uptoBulkAll parts + 1
  | .iface _ d => uptoBulk d + 1
  | .map entries => uptoBulkEntries entries + 1
  | .held _ => 1
def uptoBulkAll {H : Type} : List (DataW H) → Nat
  | [] => 0
  | d :: r => uptoBulk d + uptoBulkAll r
def uptoBulkEntries {H : Type} : List (Lit × DataW H) → Nat
  | [] => 0
  | x :: r => uptoBulkEntry x + uptoBulkEntries r
def uptoBulkEntry {H : Type} : Lit × DataW H → Nat
  | (.string bytes, d) => bytes.length + uptoBulk d + 1
  | (_, d) => uptoBulk d + 1
 end
def uptoSmall : (H : Type) → List (DataW H) → Bool := fun _ ds => decide (uptoBulkAll ds ≤ 1048576)
def OpenSpec.upto (s : _root_.Go.ChangeSpec) : _root_.Go.OpenSpec := { _root_.Go.OpenSpec.ofChange s with cond := some uptoSmall }

/-- 'shutterlaw10.GridSpans', WHERE WHAT IT READS IS OF BULK AT MOST 1048576: true; the input reads as it did. -/
def gridSpansUptoRow : OpenClaim := { program := "ytabghncbdohciaa", sum := "e8012a29496da47ada940356b488c10df67efc7e2660ec1b923743ff6d3bb57d", func := "shutter/shutterlaw10.GridSpans", spec := "gridSpans", unfollowed := true, recurses := true, apart := false, narrowed := true }
def GridSpansUptoSaid : Prop := gridSpansUptoRow.holds Try.pinned (OpenSpec.upto gridSpansSpec)

/-- 'shutterlaw10.GridRing', WHERE WHAT IT READS IS OF BULK AT MOST 1048576: true; the input reads as it did. -/
def gridRingUptoRow : OpenClaim := { program := "ytabghncbdohciaa", sum := "e8012a29496da47ada940356b488c10df67efc7e2660ec1b923743ff6d3bb57d", func := "shutter/shutterlaw10.GridRing", spec := "gridRing", unfollowed := true, recurses := true, apart := false, narrowed := true }
def GridRingUptoSaid : Prop := gridRingUptoRow.holds Try.pinned (OpenSpec.upto gridRingSpec)

/-- 'shutterlaw10.GridKeeps', WHERE WHAT IT READS IS OF BULK AT MOST 1048576: true; the input reads as it did. -/
def gridKeepsUptoRow : OpenClaim := { program := "ytabghncbdohciaa", sum := "e8012a29496da47ada940356b488c10df67efc7e2660ec1b923743ff6d3bb57d", func := "shutter/shutterlaw10.GridKeeps", spec := "gridKeeps", unfollowed := true, recurses := true, apart := false, narrowed := true }
def GridKeepsUptoSaid : Prop := gridKeepsUptoRow.holds Try.pinned (OpenSpec.upto gridKeepsSpec)

end Rows
end Go.Proofs.Ytabghncbdohciaa

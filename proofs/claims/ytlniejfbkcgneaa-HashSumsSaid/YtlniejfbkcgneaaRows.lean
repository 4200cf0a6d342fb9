/-
  No cell of these rows narrows 'for every input' (looked for: loops, veiled, ifaces, maps, wideKeys, modest, calm, conditions, laid).
  DERIVED. THE GIVEN ROWS OF THIS SEAT. 5 by the template 'for every input the law returns true; each argument reads behind the call as it read before'; 0 by the template 'total and deterministic' (their statements: YtlniejfbkcgneaaTotals.lean).
  GIVEN WITH THE SEED: the statements are not yours to turn. If you find one false, say at which input.
  Laid BY PROGRAM, IN A SANDBOX (cutbox-rows.mjs): the forced cells as the released guide's own fill.sh prints them over the translation c10b1e204d475674… (all of the seat's roots in one cut). By AI agents, Wed Nov 11 2026. No macro, syntax, notation, axiom, sorry.
-/
import Derived.Test.YtlniejfbkcgneaaChecked
import GoSem.Claim
import GoSem.ClaimJoined
import GoSem.ClaimMapViews
import Derived.JoinedTies
import Derived.KernelRfl
namespace Go.Proofs.Ytlniejfbkcgneaa
/- THE CELL 'sum', in the pinned program and in every row, IS THE sha256 OF THE DUMP (.gsa) THAT YtlniejfbkcgneaaProg.lean LOADS. Nothing in Lean hashes anything: it is a label: what it is worth is what the hold of that sum in a sandbox is worth. -/
noncomputable def Try.pinned : Pinned := { name := "ytlniejfbkcgneaa", sum := "c10b1e204d4756747474c790e8919e6fe0232913db1922452e0493e267421c3b", checked := Try.checked }
namespace Rows
def none {H : Type} : Left H := { results := [], args := [] }

/-- 'shutterlaw01.HashSums': WHATEVER THE INPUT: true; the input reads as it did. -/
def hashSumsSpec : ChangeSpec := { name := "hashSums", fn := fun _ => fun
  | [d1, d2] => { results := [.lit (.bool true)], args := [d1, d2] }
  | _ => none }
def hashSumsRow : OpenClaim := { program := "ytlniejfbkcgneaa", sum := "c10b1e204d4756747474c790e8919e6fe0232913db1922452e0493e267421c3b", func := "shutter/shutterlaw01.HashSums", spec := "hashSums", apart := false }
def HashSumsSaid : Prop := hashSumsRow.holds Try.pinned (OpenSpec.ofChange hashSumsSpec)

/-- ITS FALSE NEIGHBOUR: 'it returns false'. Refute it at one input. -/
def hashSumsWrong : ChangeSpec := { name := "hashSums", fn := fun _ => fun
  | [d1, d2] => { results := [.lit (.bool false)], args := [d1, d2] }
  | _ => none }
def HashSumsWrongFalsely : Prop := hashSumsRow.holds Try.pinned (OpenSpec.ofChange hashSumsWrong)

/-- 'shutterlaw01.HashParts': WHATEVER THE INPUT: true; the input reads as it did. -/
def hashPartsSpec : ChangeSpec := { name := "hashParts", fn := fun _ => fun
  | [d] => { results := [.lit (.bool true)], args := [d] }
  | _ => none }
def hashPartsRow : OpenClaim := { program := "ytlniejfbkcgneaa", sum := "c10b1e204d4756747474c790e8919e6fe0232913db1922452e0493e267421c3b", func := "shutter/shutterlaw01.HashParts", spec := "hashParts", apart := false }
def HashPartsSaid : Prop := hashPartsRow.holds Try.pinned (OpenSpec.ofChange hashPartsSpec)

/-- ITS FALSE NEIGHBOUR: 'it returns false'. Refute it at one input. -/
def hashPartsWrong : ChangeSpec := { name := "hashParts", fn := fun _ => fun
  | [d] => { results := [.lit (.bool false)], args := [d] }
  | _ => none }
def HashPartsWrongFalsely : Prop := hashPartsRow.holds Try.pinned (OpenSpec.ofChange hashPartsWrong)

/-- 'shutterlaw01.HashEdges': WHATEVER THE INPUT: true; the input reads as it did. -/
def hashEdgesSpec : ChangeSpec := { name := "hashEdges", fn := fun _ => fun
  | [d1, d2] => { results := [.lit (.bool true)], args := [d1, d2] }
  | _ => none }
def hashEdgesRow : OpenClaim := { program := "ytlniejfbkcgneaa", sum := "c10b1e204d4756747474c790e8919e6fe0232913db1922452e0493e267421c3b", func := "shutter/shutterlaw01.HashEdges", spec := "hashEdges", apart := false }
def HashEdgesSaid : Prop := hashEdgesRow.holds Try.pinned (OpenSpec.ofChange hashEdgesSpec)

/-- ITS FALSE NEIGHBOUR: 'it returns false'. Refute it at one input. -/
def hashEdgesWrong : ChangeSpec := { name := "hashEdges", fn := fun _ => fun
  | [d1, d2] => { results := [.lit (.bool false)], args := [d1, d2] }
  | _ => none }
def HashEdgesWrongFalsely : Prop := hashEdgesRow.holds Try.pinned (OpenSpec.ofChange hashEdgesWrong)

/-- 'shutterlaw01.HashKeeps': WHATEVER THE INPUT: true; the input reads as it did. -/
def hashKeepsSpec : ChangeSpec := { name := "hashKeeps", fn := fun _ => fun
  | [d1, d2] => { results := [.lit (.bool true)], args := [d1, d2] }
  | _ => none }
def hashKeepsRow : OpenClaim := { program := "ytlniejfbkcgneaa", sum := "c10b1e204d4756747474c790e8919e6fe0232913db1922452e0493e267421c3b", func := "shutter/shutterlaw01.HashKeeps", spec := "hashKeeps", apart := false }
def HashKeepsSaid : Prop := hashKeepsRow.holds Try.pinned (OpenSpec.ofChange hashKeepsSpec)

/-- ITS FALSE NEIGHBOUR: 'it returns false'. Refute it at one input. -/
def hashKeepsWrong : ChangeSpec := { name := "hashKeeps", fn := fun _ => fun
  | [d1, d2] => { results := [.lit (.bool false)], args := [d1, d2] }
  | _ => none }
def HashKeepsWrongFalsely : Prop := hashKeepsRow.holds Try.pinned (OpenSpec.ofChange hashKeepsWrong)

/-- 'shutterlaw01.HashTwice': WHATEVER THE INPUT: true; the input reads as it did. -/
def hashTwiceSpec : ChangeSpec := { name := "hashTwice", fn := fun _ => fun
  | [d1, d2] => { results := [.lit (.bool true)], args := [d1, d2] }
  | _ => none }
def hashTwiceRow : OpenClaim := { program := "ytlniejfbkcgneaa", sum := "c10b1e204d4756747474c790e8919e6fe0232913db1922452e0493e267421c3b", func := "shutter/shutterlaw01.HashTwice", spec := "hashTwice", apart := false }
def HashTwiceSaid : Prop := hashTwiceRow.holds Try.pinned (OpenSpec.ofChange hashTwiceSpec)

/-- ITS FALSE NEIGHBOUR: 'it returns false'. Refute it at one input. -/
def hashTwiceWrong : ChangeSpec := { name := "hashTwice", fn := fun _ => fun
  | [d1, d2] => { results := [.lit (.bool false)], args := [d1, d2] }
  | _ => none }
def HashTwiceWrongFalsely : Prop := hashTwiceRow.holds Try.pinned (OpenSpec.ofChange hashTwiceWrong)

/- THE SECOND FORM. 'bulk': how many values and letters a reading holds, each counted each time it is reached (what is shared counts as often as it is met; a slice's spare places count too). A statement '..UptoSaid' is the law's where the arguments, and the package variables that the reading takes, are together of bulk at most 1048576: NARROWER than '..Said'. Prove '..Said' where nothing that the law and all that it calls make is longer than what came in: it says more and counts as full. Else prove '..UptoSaid'. A law counts once. -/
mutual
def uptoBulk {H : Type} : DataW H → Nat
  | .lit (.string bytes) => bytes.length + 1
  | .lit _ => 1
  | .nil => 1
  | .ptr d => uptoBulk d + 1
  | .slice elems spare => uptoBulkAll elems + uptoBulkAll spare + 1
  | .agg parts => uptoBulkAll parts + 1
  | .iface _ d => uptoBulk d + 1
  | .map entries => uptoBulkEntries entries + 1
  | .held _ => 1
def uptoBulkAll {H : Type} : List (DataW H) → Nat
  | [] => 0
  | d :: r => uptoBulk d + uptoBulkAll r
def uptoBulkEntries {H : Type} : List (Lit × DataW H) → Nat
  | [] => 0
  | x :: r => uptoBulkEntry x + uptoBulkEntries r
def uptoBulkEntry {H : Type} : Lit × DataW H → Nat
  | (.string bytes, d) => bytes.length + uptoBulk d + 1
  | (_, d) => uptoBulk d + 1
 end
def uptoSmall : (H : Type) → List (DataW H) → Bool := fun _ ds => decide (uptoBulkAll ds ≤ 1048576)
def OpenSpec.upto (s : _root_.Go.ChangeSpec) : _root_.Go.OpenSpec := { _root_.Go.OpenSpec.ofChange s with cond := some uptoSmall }

/-- 'shutterlaw01.HashSums', WHERE WHAT IT READS IS OF BULK AT MOST 1048576: true; the input reads as it did. -/
def hashSumsUptoRow : OpenClaim := { program := "ytlniejfbkcgneaa", sum := "c10b1e204d4756747474c790e8919e6fe0232913db1922452e0493e267421c3b", func := "shutter/shutterlaw01.HashSums", spec := "hashSums", apart := false, narrowed := true }
def HashSumsUptoSaid : Prop := hashSumsUptoRow.holds Try.pinned (OpenSpec.upto hashSumsSpec)

/-- 'shutterlaw01.HashParts', WHERE WHAT IT READS IS OF BULK AT MOST 1048576: true; the input reads as it did. -/
def hashPartsUptoRow : OpenClaim := { program := "ytlniejfbkcgneaa", sum := "c10b1e204d4756747474c790e8919e6fe0232913db1922452e0493e267421c3b", func := "shutter/shutterlaw01.HashParts", spec := "hashParts", apart := false, narrowed := true }
def HashPartsUptoSaid : Prop := hashPartsUptoRow.holds Try.pinned (OpenSpec.upto hashPartsSpec)

/-- 'shutterlaw01.HashEdges', WHERE WHAT IT READS IS OF BULK AT MOST 1048576: true; the input reads as it did. -/
def hashEdgesUptoRow : OpenClaim := { program := "ytlniejfbkcgneaa", sum := "c10b1e204d4756747474c790e8919e6fe0232913db1922452e0493e267421c3b", func := "shutter/shutterlaw01.HashEdges", spec := "hashEdges", apart := false, narrowed := true }
def HashEdgesUptoSaid : Prop := hashEdgesUptoRow.holds Try.pinned (OpenSpec.upto hashEdgesSpec)

/-- 'shutterlaw01.HashKeeps', WHERE WHAT IT READS IS OF BULK AT MOST 1048576: true; the input reads as it did. -/
def hashKeepsUptoRow : OpenClaim := { program := "ytlniejfbkcgneaa", sum := "c10b1e204d4756747474c790e8919e6fe0232913db1922452e0493e267421c3b", func := "shutter/shutterlaw01.HashKeeps", spec := "hashKeeps", apart := false, narrowed := true }
def HashKeepsUptoSaid : Prop := hashKeepsUptoRow.holds Try.pinned (OpenSpec.upto hashKeepsSpec)

/-- 'shutterlaw01.HashTwice', WHERE WHAT IT READS IS OF BULK AT MOST 1048576: true; the input reads as it did. -/
def hashTwiceUptoRow : OpenClaim := { program := "ytlniejfbkcgneaa", sum := "c10b1e204d4756747474c790e8919e6fe0232913db1922452e0493e267421c3b", func := "shutter/shutterlaw01.HashTwice", spec := "hashTwice", apart := false, narrowed := true }
def HashTwiceUptoSaid : Prop := hashTwiceUptoRow.holds Try.pinned (OpenSpec.upto hashTwiceSpec)

end Rows
end Go.Proofs.Ytlniejfbkcgneaa

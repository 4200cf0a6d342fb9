/-
  No cell of these rows narrows 'for every input' (looked for: loops, veiled, ifaces, maps, wideKeys, modest, calm, conditions, laid).
  DERIVED. THE GIVEN ROWS OF THIS SEAT. 3 by the template 'for every input the law returns true; each argument reads behind the call as it read before'; 0 by the template 'total and deterministic' (their statements: YtphdefenonncaaaTotals.lean).
  GIVEN WITH THE SEED: the statements are not yours to turn. If you find one false, say at which input.
  Laid BY PROGRAM, IN A SANDBOX (cutbox-rows.mjs): the forced cells as the released guide's own fill.sh prints them over the translation 0fc071a12075fe59… (all of the seat's roots in one cut). By AI agents, Wed Nov 11 2026. No macro, syntax, notation, axiom, sorry.
-/
import Derived.Test.YtphdefenonncaaaChecked
import GoSem.Claim
import GoSem.ClaimJoined
import GoSem.ClaimMapViews
import Derived.JoinedTies
import Derived.KernelRfl
namespace Go.Proofs.Ytphdefenonncaaa
/- THE CELL 'sum', in the pinned program and in every row, IS THE sha256 OF THE DUMP (.gsa) THAT YtphdefenonncaaaProg.lean LOADS. Nothing in Lean hashes anything: it is a label: what it is worth is what the hold of that sum in a sandbox is worth. -/
noncomputable def Try.pinned : Pinned := { name := "ytphdefenonncaaa", sum := "0fc071a12075fe598b58817abab07aa2909f2316edb4e4c6b3ea02eb7be78e9d", checked := Try.checked }
namespace Rows
def none {H : Type} : Left H := { results := [], args := [] }

/-- 'shutterlaw05.AttrOrders': WHATEVER THE INPUT: true; the input reads as it did. -/
def attrOrdersSpec : ChangeSpec := { name := "attrOrders", fn := fun _ => fun
  | [d] => { results := [.lit (.bool true)], args := [d] }
  | _ => none }
def attrOrdersRow : OpenClaim := { program := "ytphdefenonncaaa", sum := "0fc071a12075fe598b58817abab07aa2909f2316edb4e4c6b3ea02eb7be78e9d", func := "shutter/shutterlaw05.AttrOrders", spec := "attrOrders", apart := false }
def AttrOrdersSaid : Prop := attrOrdersRow.holds Try.pinned (OpenSpec.ofChange attrOrdersSpec)

/-- ITS FALSE NEIGHBOUR: 'it returns false'. Refute it at one input. -/
def attrOrdersWrong : ChangeSpec := { name := "attrOrders", fn := fun _ => fun
  | [d] => { results := [.lit (.bool false)], args := [d] }
  | _ => none }
def AttrOrdersWrongFalsely : Prop := attrOrdersRow.holds Try.pinned (OpenSpec.ofChange attrOrdersWrong)

/-- 'shutterlaw05.AttrSix': WHATEVER THE INPUT: true; the input reads as it did. -/
def attrSixSpec : ChangeSpec := { name := "attrSix", fn := fun _ => fun
  | [d] => { results := [.lit (.bool true)], args := [d] }
  | _ => none }
def attrSixRow : OpenClaim := { program := "ytphdefenonncaaa", sum := "0fc071a12075fe598b58817abab07aa2909f2316edb4e4c6b3ea02eb7be78e9d", func := "shutter/shutterlaw05.AttrSix", spec := "attrSix", apart := false }
def AttrSixSaid : Prop := attrSixRow.holds Try.pinned (OpenSpec.ofChange attrSixSpec)

/-- ITS FALSE NEIGHBOUR: 'it returns false'. Refute it at one input. -/
def attrSixWrong : ChangeSpec := { name := "attrSix", fn := fun _ => fun
  | [d] => { results := [.lit (.bool false)], args := [d] }
  | _ => none }
def AttrSixWrongFalsely : Prop := attrSixRow.holds Try.pinned (OpenSpec.ofChange attrSixWrong)

/-- 'shutterlaw05.AttrBack': WHATEVER THE INPUT: true; the input reads as it did. -/
def attrBackSpec : ChangeSpec := { name := "attrBack", fn := fun _ => fun
  | [d1, d2, d3] => { results := [.lit (.bool true)], args := [d1, d2, d3] }
  | _ => none }
def attrBackRow : OpenClaim := { program := "ytphdefenonncaaa", sum := "0fc071a12075fe598b58817abab07aa2909f2316edb4e4c6b3ea02eb7be78e9d", func := "shutter/shutterlaw05.AttrBack", spec := "attrBack", apart := false }
def AttrBackSaid : Prop := attrBackRow.holds Try.pinned (OpenSpec.ofChange attrBackSpec)

/-- ITS FALSE NEIGHBOUR: 'it returns false'. Refute it at one input. -/
def attrBackWrong : ChangeSpec := { name := "attrBack", fn := fun _ => fun
  | [d1, d2, d3] => { results := [.lit (.bool false)], args := [d1, d2, d3] }
  | _ => none }
def AttrBackWrongFalsely : Prop := attrBackRow.holds Try.pinned (OpenSpec.ofChange attrBackWrong)

/- THE SECOND FORM. 'bulk': how many values and letters a reading holds, each counted each time it is reached (what is shared counts as often as it is met; a slice's spare places count too). A statement '..UptoSaid' is the law's where the arguments, and the package variables that the reading takes, are together of bulk at most 1048576: NARROWER than '..Said'. Prove '..Said' where nothing that the law and all that it calls make is longer than what came in: it says more and counts as full. Else prove '..UptoSaid'. A law counts once. -/
mutual
def uptoBulk {H : Type} : DataW H → Nat
  | .lit (.string bytes) => bytes.length + 1
  | .lit _ => 1
  | .nil => 1
  | .ptr d => uptoBulk d + 1
  | .slice elems spare => uptoBulkAll elems + uptoBulkAll spare + 1
  | .agg parts => uptoBulkAll parts + 1
  | .iface _ d => uptoBulk d + 1
  | .map entries => uptoBulkEntries entries + 1
  | .held _ => 1
def uptoBulkAll {H : Type} : List (DataW H) → Nat
  | [] => 0
  | d :: r => uptoBulk d + uptoBulkAll r
def uptoBulkEntries {H : Type} : List (Lit × DataW H) → Nat
  | [] => 0
  | x :: r => uptoBulkEntry x + uptoBulkEntries r
def uptoBulkEntry {H : Type} : Lit × DataW H → Nat
  | (.string bytes, d) => bytes.length + uptoBulk d + 1
  | (_, d) => uptoBulk d + 1
 end
def uptoSmall : (H : Type) → List (DataW H) → Bool := fun _ ds => decide (uptoBulkAll ds ≤ 1048576)
def OpenSpec.upto (s : _root_.Go.ChangeSpec) : _root_.Go.OpenSpec := { _root_.Go.OpenSpec.ofChange s with cond := some uptoSmall }

/-- 'shutterlaw05.AttrOrders', WHERE WHAT IT READS IS OF BULK AT MOST 1048576: true; the input reads as it did. -/
def attrOrdersUptoRow : OpenClaim := { program := "ytphdefenonncaaa", sum := "0fc071a12075fe598b58817abab07aa2909f2316edb4e4c6b3ea02eb7be78e9d", func := "shutter/shutterlaw05.AttrOrders", spec := "attrOrders", apart := false, narrowed := true }
def AttrOrdersUptoSaid : Prop := attrOrdersUptoRow.holds Try.pinned (OpenSpec.upto attrOrdersSpec)

/-- 'shutterlaw05.AttrSix', WHERE WHAT IT READS IS OF BULK AT MOST 1048576: true; the input reads as it did. -/
def attrSixUptoRow : OpenClaim := { program := "ytphdefenonncaaa", sum := "0fc071a12075fe598b58817abab07aa2909f2316edb4e4c6b3ea02eb7be78e9d", func := "shutter/shutterlaw05.AttrSix", spec := "attrSix", apart := false, narrowed := true }
def AttrSixUptoSaid : Prop := attrSixUptoRow.holds Try.pinned (OpenSpec.upto attrSixSpec)

/-- 'shutterlaw05.AttrBack', WHERE WHAT IT READS IS OF BULK AT MOST 1048576: true; the input reads as it did. -/
def attrBackUptoRow : OpenClaim := { program := "ytphdefenonncaaa", sum := "0fc071a12075fe598b58817abab07aa2909f2316edb4e4c6b3ea02eb7be78e9d", func := "shutter/shutterlaw05.AttrBack", spec := "attrBack", apart := false, narrowed := true }
def AttrBackUptoSaid : Prop := attrBackUptoRow.holds Try.pinned (OpenSpec.upto attrBackSpec)

end Rows
end Go.Proofs.Ytphdefenonncaaa

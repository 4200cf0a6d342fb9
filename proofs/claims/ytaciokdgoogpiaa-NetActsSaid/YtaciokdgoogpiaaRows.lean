/-
  No cell of these rows narrows 'for every input' (looked for: loops, veiled, ifaces, maps, wideKeys, modest, calm, conditions, laid).
  DERIVED. THE GIVEN ROWS OF THIS SEAT. 5 by the template 'for every input the law returns true; each argument reads behind the call as it read before'; 0 by the template 'total and deterministic' (their statements: YtaciokdgoogpiaaTotals.lean).
  GIVEN WITH THE SEED: the statements are not yours to turn. If you find one false, say at which input.
  Laid BY PROGRAM, IN A SANDBOX (cutbox-rows.mjs): the forced cells as the released guide's own fill.sh prints them over the translation b7c33b98bd2b5259… (all of the seat's roots in one cut). By AI agents, Wed Nov 11 2026. No macro, syntax, notation, axiom, sorry.
-/
import Derived.Test.YtaciokdgoogpiaaChecked
import GoSem.Claim
import GoSem.ClaimJoined
import GoSem.ClaimMapViews
import Derived.JoinedTies
import Derived.KernelRfl
namespace Go.Proofs.Ytaciokdgoogpiaa
/- THE CELL 'sum', in the pinned program and in every row, IS THE sha256 OF THE DUMP (.gsa) THAT YtaciokdgoogpiaaProg.lean LOADS. Nothing in Lean hashes anything: it is a label: what it is worth is what the hold of that sum in a sandbox is worth. -/
noncomputable def Try.pinned : Pinned := { name := "ytaciokdgoogpiaa", sum := "b7c33b98bd2b5259e1cbdb4d76677a4cfea274f5097e7191fef6f0c6f11e110c", checked := Try.checked }
namespace Rows
def none {H : Type} : Left H := { results := [], args := [] }

/-- 'shutterlaw24.NetActs': WHATEVER THE INPUT: true; the input reads as it did. -/
def netActsSpec : ChangeSpec := { name := "netActs", fn := fun _ => fun
  | [d] => { results := [.lit (.bool true)], args := [d] }
  | _ => none }
def netActsRow : OpenClaim := { program := "ytaciokdgoogpiaa", sum := "b7c33b98bd2b5259e1cbdb4d76677a4cfea274f5097e7191fef6f0c6f11e110c", func := "shutter/shutterlaw24.NetActs", spec := "netActs", unfollowed := true, recurses := true, apart := false }
def NetActsSaid : Prop := netActsRow.holds Try.pinned (OpenSpec.ofChange netActsSpec)

/-- ITS FALSE NEIGHBOUR: 'it returns false'. Refute it at one input. -/
def netActsWrong : ChangeSpec := { name := "netActs", fn := fun _ => fun
  | [d] => { results := [.lit (.bool false)], args := [d] }
  | _ => none }
def NetActsWrongFalsely : Prop := netActsRow.holds Try.pinned (OpenSpec.ofChange netActsWrong)

/-- 'shutterlaw24.NetFates': WHATEVER THE INPUT: true; the input reads as it did. -/
def netFatesSpec : ChangeSpec := { name := "netFates", fn := fun _ => fun
  | [d1, d2] => { results := [.lit (.bool true)], args := [d1, d2] }
  | _ => none }
def netFatesRow : OpenClaim := { program := "ytaciokdgoogpiaa", sum := "b7c33b98bd2b5259e1cbdb4d76677a4cfea274f5097e7191fef6f0c6f11e110c", func := "shutter/shutterlaw24.NetFates", spec := "netFates", unfollowed := true, recurses := true, apart := false }
def NetFatesSaid : Prop := netFatesRow.holds Try.pinned (OpenSpec.ofChange netFatesSpec)

/-- ITS FALSE NEIGHBOUR: 'it returns false'. Refute it at one input. -/
def netFatesWrong : ChangeSpec := { name := "netFates", fn := fun _ => fun
  | [d1, d2] => { results := [.lit (.bool false)], args := [d1, d2] }
  | _ => none }
def NetFatesWrongFalsely : Prop := netFatesRow.holds Try.pinned (OpenSpec.ofChange netFatesWrong)

/-- 'shutterlaw24.NetFull': WHATEVER THE INPUT: true; the input reads as it did. -/
def netFullSpec : ChangeSpec := { name := "netFull", fn := fun _ => fun
  | [d1, d2] => { results := [.lit (.bool true)], args := [d1, d2] }
  | _ => none }
def netFullRow : OpenClaim := { program := "ytaciokdgoogpiaa", sum := "b7c33b98bd2b5259e1cbdb4d76677a4cfea274f5097e7191fef6f0c6f11e110c", func := "shutter/shutterlaw24.NetFull", spec := "netFull", unfollowed := true, recurses := true, apart := false }
def NetFullSaid : Prop := netFullRow.holds Try.pinned (OpenSpec.ofChange netFullSpec)

/-- ITS FALSE NEIGHBOUR: 'it returns false'. Refute it at one input. -/
def netFullWrong : ChangeSpec := { name := "netFull", fn := fun _ => fun
  | [d1, d2] => { results := [.lit (.bool false)], args := [d1, d2] }
  | _ => none }
def NetFullWrongFalsely : Prop := netFullRow.holds Try.pinned (OpenSpec.ofChange netFullWrong)

/-- 'shutterlaw24.NetKeeps': WHATEVER THE INPUT: true; the input reads as it did. -/
def netKeepsSpec : ChangeSpec := { name := "netKeeps", fn := fun _ => fun
  | [d] => { results := [.lit (.bool true)], args := [d] }
  | _ => none }
def netKeepsRow : OpenClaim := { program := "ytaciokdgoogpiaa", sum := "b7c33b98bd2b5259e1cbdb4d76677a4cfea274f5097e7191fef6f0c6f11e110c", func := "shutter/shutterlaw24.NetKeeps", spec := "netKeeps", unfollowed := true, recurses := true, apart := false }
def NetKeepsSaid : Prop := netKeepsRow.holds Try.pinned (OpenSpec.ofChange netKeepsSpec)

/-- ITS FALSE NEIGHBOUR: 'it returns false'. Refute it at one input. -/
def netKeepsWrong : ChangeSpec := { name := "netKeeps", fn := fun _ => fun
  | [d] => { results := [.lit (.bool false)], args := [d] }
  | _ => none }
def NetKeepsWrongFalsely : Prop := netKeepsRow.holds Try.pinned (OpenSpec.ofChange netKeepsWrong)

/-- 'shutterlaw24.NetOrder': WHATEVER THE INPUT: true; the input reads as it did. -/
def netOrderSpec : ChangeSpec := { name := "netOrder", fn := fun _ => fun
  | [d1, d2] => { results := [.lit (.bool true)], args := [d1, d2] }
  | _ => none }
def netOrderRow : OpenClaim := { program := "ytaciokdgoogpiaa", sum := "b7c33b98bd2b5259e1cbdb4d76677a4cfea274f5097e7191fef6f0c6f11e110c", func := "shutter/shutterlaw24.NetOrder", spec := "netOrder", unfollowed := true, recurses := true, apart := false }
def NetOrderSaid : Prop := netOrderRow.holds Try.pinned (OpenSpec.ofChange netOrderSpec)

/-- ITS FALSE NEIGHBOUR: 'it returns false'. Refute it at one input. -/
def netOrderWrong : ChangeSpec := { name := "netOrder", fn := fun _ => fun
  | [d1, d2] => { results := [.lit (.bool false)], args := [d1, d2] }
  | _ => none }
def NetOrderWrongFalsely : Prop := netOrderRow.holds Try.pinned (OpenSpec.ofChange netOrderWrong)

/- THE SECOND FORM. 'bulk': how many values and letters a reading holds, each counted each time it is reached (what is shared counts as often as it is met; a slice's spare places count too). A statement '..UptoSaid' is the law's where the arguments, and the package variables that the reading takes, are together of bulk at most 1048576: NARROWER than '..Said'. Prove '..Said' where nothing that the law and all that it calls make is longer than what came in: it says more and counts as full. Else prove '..UptoSaid'. A law counts once. -/
mutual
def uptoBulk {H : Type} : DataW H → Nat
  | .lit (.string bytes) => bytes.length + 1
  | .lit _ => 1
  | .nil => 1
  | .ptr d => uptoBulk d + 1
  | .slice elems spare => uptoBulkAll elems + uptoBulkAll spare + 1
  | .agg parts => uptoBulkAll parts + 1
  | .iface _ d => uptoBulk d + 1
  | .map entries => uptoBulkEntries entries + 1
  | .held _ => 1
def uptoBulkAll {H : Type} : List (DataW H) → Nat
  | [] => 0
  | d :: r => uptoBulk d + uptoBulkAll r
def uptoBulkEntries {H : Type} : List (Lit × DataW H) → Nat
  | [] => 0
  | x :: r => uptoBulkEntry x + uptoBulkEntries r
def uptoBulkEntry {H : Type} : Lit × DataW H → Nat
  | (.string bytes, d) => bytes.length + uptoBulk d + 1
  | (_, d) => uptoBulk d + 1
 end
def uptoSmall : (H : Type) → List (DataW H) → Bool := fun _ ds => decide (uptoBulkAll ds ≤ 1048576)
def OpenSpec.upto (s : _root_.Go.ChangeSpec) : _root_.Go.OpenSpec := { _root_.Go.OpenSpec.ofChange s with cond := some uptoSmall }

/-- 'shutterlaw24.NetActs', WHERE WHAT IT READS IS OF BULK AT MOST 1048576: true; the input reads as it did. -/
def netActsUptoRow : OpenClaim := { program := "ytaciokdgoogpiaa", sum := "b7c33b98bd2b5259e1cbdb4d76677a4cfea274f5097e7191fef6f0c6f11e110c", func := "shutter/shutterlaw24.NetActs", spec := "netActs", unfollowed := true, recurses := true, apart := false, narrowed := true }
def NetActsUptoSaid : Prop := netActsUptoRow.holds Try.pinned (OpenSpec.upto netActsSpec)

/-- 'shutterlaw24.NetFates', WHERE WHAT IT READS IS OF BULK AT MOST 1048576: true; the input reads as it did. -/
def netFatesUptoRow : OpenClaim := { program := "ytaciokdgoogpiaa", sum := "b7c33b98bd2b5259e1cbdb4d76677a4cfea274f5097e7191fef6f0c6f11e110c", func := "shutter/shutterlaw24.NetFates", spec := "netFates", unfollowed := true, recurses := true, apart := false, narrowed := true }
def NetFatesUptoSaid : Prop := netFatesUptoRow.holds Try.pinned (OpenSpec.upto netFatesSpec)

/-- 'shutterlaw24.NetFull', WHERE WHAT IT READS IS OF BULK AT MOST 1048576: true; the input reads as it did. -/
def netFullUptoRow : OpenClaim := { program := "ytaciokdgoogpiaa", sum := "b7c33b98bd2b5259e1cbdb4d76677a4cfea274f5097e7191fef6f0c6f11e110c", func := "shutter/shutterlaw24.NetFull", spec := "netFull", unfollowed := true, recurses := true, apart := false, narrowed := true }
def NetFullUptoSaid : Prop := netFullUptoRow.holds Try.pinned (OpenSpec.upto netFullSpec)

/-- 'shutterlaw24.NetKeeps', WHERE WHAT IT READS IS OF BULK AT MOST 1048576: true; the input reads as it did. -/
def netKeepsUptoRow : OpenClaim := { program := "ytaciokdgoogpiaa", sum := "b7c33b98bd2b5259e1cbdb4d76677a4cfea274f5097e7191fef6f0c6f11e110c", func := "shutter/shutterlaw24.NetKeeps", spec := "netKeeps", unfollowed := true, recurses := true, apart := false, narrowed := true }
def NetKeepsUptoSaid : Prop := netKeepsUptoRow.holds Try.pinned (OpenSpec.upto netKeepsSpec)

/-- 'shutterlaw24.NetOrder', WHERE WHAT IT READS IS OF BULK AT MOST 1048576: true; the input reads as it did. -/
def netOrderUptoRow : OpenClaim := { program := "ytaciokdgoogpiaa", sum := "b7c33b98bd2b5259e1cbdb4d76677a4cfea274f5097e7191fef6f0c6f11e110c", func := "shutter/shutterlaw24.NetOrder", spec := "netOrder", unfollowed := true, recurses := true, apart := false, narrowed := true }
def NetOrderUptoSaid : Prop := netOrderUptoRow.holds Try.pinned (OpenSpec.upto netOrderSpec)

end Rows
end Go.Proofs.Ytaciokdgoogpiaa

/- Proved: arguments that came in read on as they did behind a call that turned no old block (trodAll_below); a law's row needs no more than its walk; conditions: the theorems' own premises. -/
import Derived.Test.YtafjegfmmnjpfaaDoorRows
import Derived.WalkKit
import Derived.ProofKit
import Derived.OpenShut
import Derived.Carry
import Derived.ChangeOld
import Derived.Below
import Derived.SizedLaws
import Derived.Lib.SmallJoins
namespace Go.Proofs.YtafjegfmmnjpfaaDoor.Lift
open Go.ChangeShapes Go.WideShapes Go.ChangeAt Go.RowKit

theorem trodAll_below {H : Type} {enc : TypeId × Value → H} {P : Program} (hl : laidOutB P = true) {W W' : World} (hb : Below W.heap.size W W') :
    ∀ (ts : List TypeId), (ts.all fun t => P.readableRec t && decide (t < P.types.size)) = true → ∀ (vs : List Value) (ds : List (DataW H)) (ps : List MemPlace),
      DataW.TrodAll enc P W 0 (fun _ => true) true ts vs ds ps → (∀ x ∈ ps, x.block < W.heap.size) → DataW.TrodAll enc P W' 0 (fun b => decide (b < W.heap.size)) true ts vs ds ps
  | [], _, vs, ds, ps, h, _ => by
    obtain ⟨rfl, rfl, rfl⟩ := trodAll_nil h
    exact trodAll_mk0
  | t :: ts, hr, vs, ds, ps, h, hlt => by
    simp only [List.all_cons, Bool.and_eq_true, decide_eq_true_eq] at hr
    obtain ⟨v, vs', d, ds', p, q, rfl, rfl, rfl, h0, h1⟩ := trodAll_cons h
    exact trodAll_cons_mk (Below.trod hl hr.1.1 hr.1.2 h0 hb fun x hx => hlt x (List.mem_append.2 (.inl hx)))
      (trodAll_below hl hb ts hr.2 vs' ds' q h1 fun x hx => hlt x (List.mem_append.2 (.inr hx)))

end Go.Proofs.YtafjegfmmnjpfaaDoor.Lift

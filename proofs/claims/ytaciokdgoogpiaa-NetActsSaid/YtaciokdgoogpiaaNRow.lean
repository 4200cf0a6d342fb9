/- Proved: a datagram is stored into its row; conditions: the theorems' own premises. -/
import Derived.Test.YtaciokdgoogpiaaNClear
namespace Go.Proofs.Ytaciokdgoogpiaa.NetT
open Go.RowKit Go.Proofs.Ytaciokdgoogpiaa.YNet Go.Proofs.YtaciokdgoogpiaaW.PrintWords Go.Proofs.YtaciokdgoogpiaaW.PrintLast Go.Proofs.YtaciokdgoogpiaaW.PrintMore
set_option linter.unusedVariables false
set_option linter.unusedSimpArgs false
theorem Frame.of_setCells (w : World) (g o : Nat) (vs : List Value) : Frame w (w.setCells g o vs) (fun k => k = g) := by
  obtain ⟨h1, h2, h3, h4⟩ := setCells_same g vs o w
  exact ⟨h1, h2, h3, Nat.le_of_eq h4.symm, fun k _ hn => setCells_far vs o k hn⟩
theorem flCells_set (fs : List Fl) (i : Nat) (f : Fl) (hi : i < fs.length) : flCells (fs.set i f) = (flCells fs).take (i * 5) ++ Fl.cells f ++ (flCells fs).drop (i * 5 + 5) := by
  induction fs generalizing i with
  | nil => simp at hi
  | cons x fs ih =>
    have e : ∀ y ys, flCells (y :: ys) = Fl.cells y ++ flCells ys := fun _ _ => rfl
    have hl : ∀ y, (Fl.cells y).length = 5 := fun _ => rfl
    cases i with
    | zero =>
      rw [List.set_cons_zero, e, e, Nat.zero_mul, Nat.zero_add, List.take_zero, List.nil_append, List.drop_append_of_le_length (by rw [hl]; omega), List.drop_of_length_le (by rw [hl]; omega), List.nil_append]
    | succ i =>
      rw [List.set_cons_succ, e, e, ih i (by simpa using hi)]
      rw [show (i + 1) * 5 = (Fl.cells x).length + i * 5 by rw [hl]; omega, List.take_length_add_append, show (Fl.cells x).length + i * 5 + 5 = (Fl.cells x).length + (i * 5 + 5) by omega, List.drop_length_add_append]
      simp only [List.append_assoc]
theorem split_set (L P X R vs : List Value) (p q : Nat) (hL : L = P ++ (X ++ R)) (hp : P.length = p) (hq : q + 5 ≤ X.length) (hv : vs.length = 5) :
    ((L.take (p + q) ++ vs ++ L.drop (p + q + 5)).drop p).take X.length = X.take q ++ vs ++ X.drop (q + 5) := by
  subst hL
  subst hp
  have e1 : (P ++ (X ++ R)).take (P.length + q) = P ++ X.take q := by rw [List.take_length_add_append, List.take_append_of_le_length (by omega)]
  have e2 : (P ++ (X ++ R)).drop (P.length + q + 5) = X.drop (q + 5) ++ R := by rw [Nat.add_assoc, List.drop_length_add_append, List.drop_append_of_le_length (by omega)]
  rw [e1, e2, List.append_assoc, List.append_assoc, List.drop_left]
  have e : X.take q ++ (vs ++ (X.drop (q + 5) ++ R)) = (X.take q ++ vs ++ X.drop (q + 5)) ++ R := by simp only [List.append_assoc]
  rw [e]
  refine List.take_left' ?_
  simp only [List.length_append, List.length_take, List.length_drop, hv]
  omega
theorem row_set {w : World} {base gr off n c : Nat} {e : TypeId} {xs : List Value} (hq : QRow w base e 5 (.slice (some ⟨gr, off, none⟩) n c) n xs) (i : Nat) (hi : i < n) (vs : List Value) (hv : vs.length = 5) :
    QRow (w.setCells gr (off + i * 5) vs) base e 5 (.slice (some ⟨gr, off, none⟩) n c) n (xs.take (i * 5) ++ vs ++ xs.drop (i * 5 + 5)) := by
  obtain ⟨hl, h⟩ := hq
  refine ⟨by simp only [List.length_append, List.length_take, List.length_drop, hv]; omega, ?_⟩
  rcases h with ⟨h0, _⟩ | ⟨g, o, cap, cur, he, hg, hh, hnc, hm, hcs, ht⟩
  · omega
  · injection he with ha _ hc
    injection ha with ha
    injection ha with ha1 ha2 _
    subst ha1
    subst ha2
    subst hc
    obtain ⟨cur', h1, h2, h3⟩ := setCells_row vs (o * 5 + i * 5) w cur hh (by rw [hcs, hv]; omega)
    refine .inr ⟨gr, o, c, cur', rfl, hg, h1, hnc, hm, by rw [h2, hcs], ?_⟩
    rw [h3, hv, ← hl]
    refine split_set cur.toList (cur.toList.take (o * 5)) xs ((cur.toList.drop (o * 5)).drop (n * 5)) vs (o * 5) (i * 5) ?_ ?_ (by omega) hv
    · rw [← ht, List.take_append_drop, List.take_append_drop]
    · rw [List.length_take, Array.length_toList, hcs]; omega
end Go.Proofs.Ytaciokdgoogpiaa.NetT

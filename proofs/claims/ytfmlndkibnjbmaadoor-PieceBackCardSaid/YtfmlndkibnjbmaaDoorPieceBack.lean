/- Proved: the law PieceBack as a statement about numbers and lists; conditions: the bytes are in their range. -/
import Derived.Test.YtfmlndkibnjbmaaDoorPieceRW
import Derived.Test.YtfmlndkibnjbmaaDoorYPiecex11
namespace Go.Proofs.YtfmlndkibnjbmaaDoor.PiecePure
open Go.RowKit Go.Proofs.YtfmlndkibnjbmaaDoor.YPiece Go.Proofs.YtfmlndkibnjbmaaDoorW.PrintWords Go.Proofs.YtfmlndkibnjbmaaDoorW.PrintLast Go.Proofs.YtfmlndkibnjbmaaDoorW.PrintMore
set_option linter.unusedVariables false

/-! ### PieceBack -/
theorem back (a n : Int) (last : Bool) (d b : List Int) (hd : Bytes d) (hb : Bytes b) : ∃ k, shutterlaw22_PieceBack.f k a n last d b = some true := by
  refine Ev.rounds (g := fun k => shutterlaw22_PieceBack.f k a n last d b) ?_
  unfold shutterlaw22_PieceBack.f
  refine Ev.bind awake ?_
  simp only [if_true]
  have asleep : Ev (fun k => shutterlaw22_PieceBack.j0 k b true a n last d) true := by
    refine Ev.step (f := fun k => (shutterlaw22_awake.f k).bind fun t => some t) (fun k => by simp only [shutterlaw22_PieceBack.j0, if_true]) ?_
    exact Ev.bind awake (Ev.now _)
  by_cases c1 : (d.length : Int) > 300
  · simp only [if_pos c1]; exact asleep
  · simp only [if_neg c1]
    by_cases c2 : (b.length : Int) > 300
    · simp only [decide_eq_true c2]; exact asleep
    · simp only [decide_eq_false c2]
      -- the second half
      obtain ⟨qa, qn, ql, qd, qe, hq⟩ : ∃ qa qn ql qd qe, readB b = (qa, qn, ql, qd, qe) := ⟨_, _, _, _, _, rfl⟩
      have hr := read_ev b hb (by omega)
      rw [hq] at hr
      have half : Ev (fun k => (piece_Read.f k b).bind fun bt363 => (if bt363.2.2.2.2.isNone = true then ((piece_Write.f k bt363.1 bt363.2.1 bt363.2.2.1 bt363.2.2.2.1).bind fun bt372 => (if bt372.2.isNone = true then ((shutterref01_Same.f k bt372.1 b).bind fun t377 => (some t377)) else (none))) else ((shutterref22_Same.f k bt363.1 bt363.2.1 bt363.2.2.1 bt363.2.2.2.1 0 0 false ([] : List Int)).bind fun t378 => (some t378)))) true := by
        refine Ev.bind hr ?_
        cases qe with
        | none =>
          obtain ⟨w1, w2⟩ := write_read hb hq rfl
          simp only [Option.isNone_none, if_true]
          have hw := write_ev qa qn ql qd
          rw [if_pos w1, w2] at hw
          refine Ev.bind hw ?_
          simp only [Option.isNone_none, if_true]
          have hs := rsame_ev b b (by omega)
          rw [decide_eq_true rfl] at hs
          exact Ev.bind hs (Ev.now _)
        | some e =>
          simp only [Option.isNone_some, Bool.false_eq_true, if_false]
          have hz : qa = 0 ∧ qn = 0 ∧ ql = false ∧ qd = [] := by
            unfold readB at hq
            split at hq
            · simp only [Prod.mk.injEq] at hq; exact ⟨hq.1.symm, hq.2.1.symm, hq.2.2.1.symm, hq.2.2.2.1.symm⟩
            · split at hq
              · simp only [Prod.mk.injEq] at hq; exact ⟨hq.1.symm, hq.2.1.symm, hq.2.2.1.symm, hq.2.2.2.1.symm⟩
              · split at hq
                · simp at hq
                · simp only [Prod.mk.injEq] at hq; exact ⟨hq.1.symm, hq.2.1.symm, hq.2.2.1.symm, hq.2.2.2.1.symm⟩
          obtain ⟨rfl, rfl, rfl, rfl⟩ := hz
          have hs := prsame_self 0 0 false [] (by simp)
          exact Ev.bind hs (Ev.now _)
      refine Ev.step (fun k => by simp only [shutterlaw22_PieceBack.j0, Bool.false_eq_true, if_false]; rfl) (Ev.bind (write_ev a n last d) ?_)
      rcases hm : mayB a n last d with _ | _
      · simp only [Bool.false_eq_true, if_false, Option.isNone_some]
        exact half
      · simp only [if_true, Option.isNone_none]
        have h1 := read_ev (bytesOf a n last d) (bytesOf_bytes hd) (by rw [bytesOf_length]; omega)
        rw [read_write hm] at h1
        refine Ev.bind h1 ?_
        simp only [Option.isNone_none, if_true]
        have hs := prsame_self a n last d (by omega)
        refine Ev.bind hs ?_
        simp only [if_true]
        exact half

end Go.Proofs.YtfmlndkibnjbmaaDoor.PiecePure

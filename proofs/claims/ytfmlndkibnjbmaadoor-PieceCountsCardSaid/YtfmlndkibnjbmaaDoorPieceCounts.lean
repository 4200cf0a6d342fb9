/- Proved: the law PieceCounts as a statement about numbers and lists; conditions: the bytes are in their range. -/
import Derived.Test.YtfmlndkibnjbmaaDoorPieceCom
import Derived.Test.YtfmlndkibnjbmaaDoorYPiecex11
namespace Go.Proofs.YtfmlndkibnjbmaaDoor.PiecePure
open Go.RowKit Go.Proofs.YtfmlndkibnjbmaaDoor.YPiece Go.Proofs.YtfmlndkibnjbmaaDoorW.PrintWords Go.Proofs.YtfmlndkibnjbmaaDoorW.PrintLast Go.Proofs.YtfmlndkibnjbmaaDoorW.PrintMore
set_option linter.unusedVariables false

/-! ### PieceCounts -/
theorem counts_loop (l : List Int) (h1 : 1 ≤ l.length) (h2 : l.length ≤ 8192) : ∀ d i, i + d = pieces l → Ev (fun k => shutterlaw22_PieceCounts.l0 k l (Chunk.cutL l) (i : Int)) true
  | 0, i, hi => by
    refine Ev.step (f := fun _ => some true) (fun k => ?_) (Ev.now _)
    have hp : pieces l = (l.length + 63) / 64 := rfl
    simp only [shutterlaw22_PieceCounts.l0, cutL_length]
    rw [if_neg (by omega), wrap_in (x := ((pieces l : Nat) : Int) - 1) (by omega) (by omega), wrap_in (x := 64 * (((pieces l : Nat) : Int) - 1)) (by omega) (by omega), if_pos (by omega), wrap_in (x := 64 * ((pieces l : Nat) : Int)) (by omega) (by omega), decide_eq_true (by omega)]
  | d + 1, i, hi => by
    have hp : pieces l = (l.length + 63) / 64 := rfl
    have e3 : wrap64 ((i : Int) + 1) = ((i + 1 : Nat) : Int) := by rw [wrap_in (by omega) (by omega)]; omega
    have hs := chunk_some l (i := i) (by omega)
    refine Ev.step (fun k => ?_) (counts_loop l h1 h2 d (i + 1) (by omega))
    simp only [shutterlaw22_PieceCounts.l0, cutL_length]
    rw [if_pos (by omega), e3, cutL_at l (by omega)]
    by_cases c : i + 1 < pieces l
    · have hf := chunk_full l c
      rw [if_pos (by omega), if_pos (by omega), if_pos (show (((Chunk.chunk l i).length : Nat) : Int) = 64 by omega), if_neg (show ¬ (((Chunk.chunk l i).length : Nat) : Int) < 1 by omega), if_neg (show ¬ (((Chunk.chunk l i).length : Nat) : Int) > 64 by omega)]
    · rw [if_neg (by omega), if_pos (by omega), if_neg (show ¬ (((Chunk.chunk l i).length : Nat) : Int) < 1 by omega), if_neg (show ¬ (((Chunk.chunk l i).length : Nat) : Int) > 64 by omega)]
theorem counts (l : List Int) : ∃ k, shutterlaw22_PieceCounts.f k l = some true := by
  refine Ev.rounds (g := fun k => shutterlaw22_PieceCounts.f k l) ?_
  unfold shutterlaw22_PieceCounts.f
  refine Ev.bind awake ?_
  simp only [if_true]
  by_cases c : (l.length : Int) > 9000
  · simp only [decide_eq_true c]
    refine Ev.step (f := fun k => (shutterlaw22_awake.f k).bind fun t => some t) (fun k => by simp only [shutterlaw22_PieceCounts.j0, if_true]) ?_
    exact Ev.bind awake (Ev.now _)
  · simp only [decide_eq_false c]
    by_cases h0 : l.length = 0
    · refine Ev.step (f := fun _ => some true) (fun k => ?_) (Ev.now _)
      simp only [shutterlaw22_PieceCounts.j0, Bool.false_eq_true, if_false, cut_0 l h0, Option.bind_some, Option.isNone_some]
      rw [if_pos (by omega)]
    · by_cases h8 : l.length ≤ 8192
      · refine Ev.step (f := fun k => shutterlaw22_PieceCounts.l0 k l (Chunk.cutL l) ((0 : Nat) : Int)) (fun k => ?_) (counts_loop l (by omega) h8 (pieces l) 0 (by omega))
        simp only [shutterlaw22_PieceCounts.j0, Bool.false_eq_true, if_false, cut_ok l h0 h8, Option.bind_some, Option.isNone_none, if_true]
        rfl
      · refine Ev.step (f := fun _ => some true) (fun k => ?_) (Ev.now _)
        simp only [shutterlaw22_PieceCounts.j0, Bool.false_eq_true, if_false, cut_long l h8, Option.bind_some, Option.isNone_some]
        rw [if_neg (by omega), decide_eq_true (by omega)]

end Go.Proofs.YtfmlndkibnjbmaaDoor.PiecePure

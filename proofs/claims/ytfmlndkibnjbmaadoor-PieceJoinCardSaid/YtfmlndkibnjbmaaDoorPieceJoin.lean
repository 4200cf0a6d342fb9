/- Proved: the law PieceJoin as a statement about numbers and lists; conditions: the bytes are in their range. -/
import Derived.Test.YtfmlndkibnjbmaaDoorPieceRW
import Derived.Test.YtfmlndkibnjbmaaDoorYPiecex10
namespace Go.Proofs.YtfmlndkibnjbmaaDoor.PiecePure
open Go.RowKit Go.Proofs.YtfmlndkibnjbmaaDoor.YPiece Go.Proofs.YtfmlndkibnjbmaaDoorW.PrintWords Go.Proofs.YtfmlndkibnjbmaaDoorW.PrintLast Go.Proofs.YtfmlndkibnjbmaaDoorW.PrintMore
set_option linter.unusedVariables false

/-! ### PieceJoin -/
theorem chunk_bytes {l : List Int} (h : Bytes l) (i : Nat) : Bytes (Chunk.chunk l i) := fun x hx => h x (List.mem_of_mem_drop (List.mem_of_mem_take hx))
theorem join_loop (l : List Int) (hb : Bytes l) (h1 : 1 ≤ l.length) (h2 : l.length ≤ 8192) : ∀ d i, i + d = pieces l → Ev (fun k => shutterlaw22_PieceJoin.l0 k l (Chunk.cutL l) (l.take (64 * i)) (i : Int)) true
  | 0, i, hi => by
    have hp : pieces l = (l.length + 63) / 64 := rfl
    have hs := rsame_ev l l (by omega)
    rw [decide_eq_true rfl] at hs
    refine Ev.step (f := fun k => (shutterref01_Same.f k l l).bind fun t => some t) (fun k => ?_) (Ev.bind hs (Ev.now _))
    simp only [shutterlaw22_PieceJoin.l0, cutL_length]
    rw [if_neg (by omega), List.take_of_length_le (by omega)]
  | d + 1, i, hi => by
    have hp : pieces l = (l.length + 63) / 64 := rfl
    have e3 : wrap64 ((i : Int) + 1) = ((i + 1 : Nat) : Int) := by rw [wrap_in (by omega) (by omega)]; omega
    have hs := chunk_some l (i := i) (by omega)
    have hm : mayB 0 ((i : Int) + 1) (decide (i + 1 = pieces l)) (Chunk.chunk l i) = true := by
      unfold mayB
      rw [decide_eq_true (by omega), decide_eq_true (by omega), decide_eq_true (by omega), decide_eq_true (by omega), if_neg (by omega)]
      by_cases c : i + 1 = pieces l
      · rw [decide_eq_true c, decide_eq_true hs.1, decide_eq_true hs.2]; simp
      · rw [decide_eq_true (chunk_full l (by omega))]; simp
    have hw := write_ev 0 ((i : Int) + 1) (decide (i + 1 = pieces l)) (Chunk.chunk l i)
    rw [if_pos hm] at hw
    have hr := read_ev (bytesOf 0 ((i : Int) + 1) (decide (i + 1 = pieces l)) (Chunk.chunk l i)) (bytesOf_bytes (chunk_bytes hb i)) (by rw [bytesOf_length]; omega)
    rw [read_write hm] at hr
    have hsm := psame_self 0 ((i : Int) + 1) (decide (i + 1 = pieces l)) (Chunk.chunk l i) (by omega)
    have htk : l.take (64 * i) ++ Chunk.chunk l i = l.take (64 * (i + 1)) := by
      unfold Chunk.chunk
      rw [show 64 * (i + 1) = 64 * i + 64 by omega, List.take_add]
    have next := join_loop l hb h1 h2 d (i + 1) (by omega)
    have step2 : Ev (fun k => shutterlaw22_PieceJoin.j2 k l (Chunk.cutL l) (l.take (64 * i)) (i : Int) false) true := by
      refine Ev.step (f := fun k => (piece_Write.f k 0 ((i : Int) + 1) (decide (i + 1 = pieces l)) (Chunk.chunk l i)).bind fun bt326 => ((piece_Read.f k bt326.1).bind fun bt330 => (if bt326.2.isNone = true then (if bt330.2.2.2.2.isNone = true then ((piece_Same.f k bt330.1 bt330.2.1 bt330.2.2.1 bt330.2.2.2.1 0 ((i : Int) + 1) (decide (i + 1 = pieces l)) (Chunk.chunk l i)).bind fun t341 => (if t341 = true then (if (wrap64 ((bt326.1.length : Int) + 26)) > 512 then (none) else (if (l.take (64 * i)).length + bt330.2.2.2.1.length < 140737488355328 then (shutterlaw22_PieceJoin.l0 k l (Chunk.cutL l) ((l.take (64 * i)) ++ bt330.2.2.2.1) (wrap64 ((i : Int) + 1))) else (none))) else (none))) else (none)) else (none)))) (fun k => ?_) ?_
      · simp only [shutterlaw22_PieceJoin.j2, Bool.false_eq_true, if_false, cutL_length]
        rw [if_pos (by omega), if_pos (by omega), cutL_at l (by omega)]
      · refine Ev.bind hw (Ev.bind hr ?_)
        simp only [Option.isNone_none, if_true]
        refine Ev.bind hsm ?_
        simp only [if_true, bytesOf_length, htk, e3]
        rw [wrap_in (x := ((9 + (Chunk.chunk l i).length : Nat) : Int) + 26) (by omega) (by omega)]
        simp only [if_neg (show ¬ ((9 + (Chunk.chunk l i).length : Nat) : Int) + 26 > 512 by omega), if_pos (show (l.take (64 * i)).length + (Chunk.chunk l i).length < 140737488355328 by rw [List.length_take]; omega)]
        exact next
    refine Ev.step (fun k => ?_) step2
    simp only [shutterlaw22_PieceJoin.l0, cutL_length]
    rw [if_pos (by omega), if_pos (by omega), cutL_at l (by omega), e3]
    have hl : (((i + 1 : Nat) : Int) == ((pieces l : Nat) : Int)) = decide (i + 1 = pieces l) := by
      by_cases c : i + 1 = pieces l
      · rw [decide_eq_true c, c]; simp
      · rw [decide_eq_false c, beq_eq_false_iff_ne]; omega
    rw [hl, if_neg (by simp), if_pos (by simp)]
    rfl
theorem joins (l : List Int) (hb : Bytes l) : ∃ k, shutterlaw22_PieceJoin.f k l = some true := by
  refine Ev.rounds (g := fun k => shutterlaw22_PieceJoin.f k l) ?_
  unfold shutterlaw22_PieceJoin.f
  refine Ev.bind awake ?_
  simp only [if_true]
  by_cases c : (l.length : Int) > 9000
  · simp only [decide_eq_true c]
    refine Ev.step (f := fun k => (shutterlaw22_awake.f k).bind fun t => some t) (fun k => by simp only [shutterlaw22_PieceJoin.j0, if_true]) ?_
    exact Ev.bind awake (Ev.now _)
  · simp only [decide_eq_false c]
    by_cases h0 : l.length = 0
    · refine Ev.step (f := fun _ => some true) (fun k => ?_) (Ev.now _)
      simp only [shutterlaw22_PieceJoin.j0, Bool.false_eq_true, if_false, cut_0 l h0, Option.bind_some, Option.isNone_some]
      rfl
    · by_cases h8 : l.length ≤ 8192
      · refine Ev.step (f := fun k => shutterlaw22_PieceJoin.l0 k l (Chunk.cutL l) (l.take (64 * 0)) ((0 : Nat) : Int)) (fun k => ?_) (join_loop l hb (by omega) h8 (pieces l) 0 (by omega))
        simp only [shutterlaw22_PieceJoin.j0, Bool.false_eq_true, if_false, cut_ok l h0 h8, Option.bind_some, Option.isNone_none, if_true]
        rfl
      · refine Ev.step (f := fun _ => some true) (fun k => ?_) (Ev.now _)
        simp only [shutterlaw22_PieceJoin.j0, Bool.false_eq_true, if_false, cut_long l h8, Option.bind_some, Option.isNone_some]
        rfl
end Go.Proofs.YtfmlndkibnjbmaaDoor.PiecePure

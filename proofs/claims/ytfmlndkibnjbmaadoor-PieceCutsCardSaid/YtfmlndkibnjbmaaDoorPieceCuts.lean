/- Proved: the law PieceCuts as a statement about numbers and lists; conditions: the bytes are in their range. -/
import Derived.Test.YtfmlndkibnjbmaaDoorPieceCom
import Derived.Test.YtfmlndkibnjbmaaDoorYPiecex6
namespace Go.Proofs.YtfmlndkibnjbmaaDoor.PiecePure
open Go.RowKit Go.Proofs.YtfmlndkibnjbmaaDoor.YPiece Go.Proofs.YtfmlndkibnjbmaaDoorW.PrintWords Go.Proofs.YtfmlndkibnjbmaaDoorW.PrintLast Go.Proofs.YtfmlndkibnjbmaaDoorW.PrintMore
set_option linter.unusedVariables false

/-! ### PieceCuts -/
def front (l : List Int) (i : Nat) : List S34 := (List.range i).map fun (j : Nat) => (⟨0, (j : Int) + 1, decide (j + 1 = pieces l), Chunk.chunk l j⟩ : S34)
theorem front_length (l : List Int) (i : Nat) : (front l i).length = i := by unfold front; rw [List.length_map, List.length_range]
theorem front_succ (l : List Int) (i : Nat) : front l (i + 1) = front l i ++ [⟨0, (i : Int) + 1, decide (i + 1 = pieces l), Chunk.chunk l i⟩] := by unfold front; rw [List.range_succ, List.map_append]; rfl
theorem chunk_eq (l : List Int) (i m : Nat) (h : m = min 64 (l.length - 64 * i)) : (l.take (64 * i + m)).drop (64 * i) = Chunk.chunk l i := by
  unfold Chunk.chunk
  rw [List.drop_take, show 64 * i + m - 64 * i = m by omega]
  by_cases c : m = 64
  · rw [c]
  · rw [List.take_of_length_le (by rw [List.length_drop]; omega), List.take_of_length_le (by rw [List.length_drop]; omega)]
theorem rcut_loop (l : List Int) (h1 : 1 ≤ l.length) (h2 : l.length ≤ 8192) : ∀ d i, i + d = pieces l → Ev (fun k => shutterref22_Cut.l0 k l (front l i) ((min (64 * i) l.length : Nat) : Int)) (front l (pieces l))
  | 0, i, hi => by
    have hp : pieces l = (l.length + 63) / 64 := rfl
    refine Ev.step (f := fun _ => some (front l i)) (fun k => ?_) (by rw [show i = pieces l by omega]; exact Ev.now _)
    simp only [shutterref22_Cut.l0]
    rw [if_neg (by omega)]
  | d + 1, i, hi => by
    have hp : pieces l = (l.length + 63) / 64 := rfl
    have hat : min (64 * i) l.length = 64 * i := by omega
    refine Ev.step (fun k => ?_) (rcut_loop l h1 h2 d (i + 1) (by omega))
    have hfl := front_length l i
    simp only [shutterref22_Cut.l0]
    rw [hat, if_pos (by omega), wrap_in (x := (l.length : Int) - ((64 * i : Nat) : Int)) (by omega) (by omega)]
    by_cases c : (l.length : Int) - ((64 * i : Nat) : Int) < 64
    · have hw : wrap64 (((64 * i : Nat) : Int) + ((l.length : Int) - ((64 * i : Nat) : Int))) = (l.length : Int) := by rw [wrap_in (by omega) (by omega)]; omega
      have hc : (l.take (l.length : Int).toNat).drop (((64 * i : Nat) : Int)).toNat = Chunk.chunk l i := by
        rw [Int.toNat_natCast, Int.toNat_natCast]
        have := chunk_eq l i (l.length - 64 * i) (by omega)
        rw [show 64 * i + (l.length - 64 * i) = l.length by omega] at this
        exact this
      rw [if_pos c, hw]
      simp only [Option.bind_some, hc, List.length_nil, List.nil_append]
      have hs := chunk_some l (i := i) (by omega)
      rw [if_pos (by omega), if_pos (by omega), if_pos (by omega), if_pos (by omega), if_pos (by omega), hfl, wrap_in (x := (i : Int) + 1) (by omega) (by omega), front_succ, show min (64 * (i + 1)) l.length = l.length by omega]
      have hb : ((l.length : Int) == (l.length : Int)) = decide (i + 1 = pieces l) := by rw [beq_self_eq_true, decide_eq_true (by omega)]
      rw [hb]
    · have hw : wrap64 (((64 * i : Nat) : Int) + 64) = ((64 * i + 64 : Nat) : Int) := by rw [wrap_in (by omega) (by omega)]; omega
      have hc : (l.take (((64 * i + 64 : Nat) : Int)).toNat).drop (((64 * i : Nat) : Int)).toNat = Chunk.chunk l i := by
        rw [Int.toNat_natCast, Int.toNat_natCast]
        exact chunk_eq l i 64 (by omega)
      rw [if_neg c, hw]
      simp only [Option.bind_some, hc, List.length_nil, List.nil_append]
      have hs := chunk_some l (i := i) (by omega)
      rw [if_pos (by omega), if_pos (by omega), if_pos (by omega), if_pos (by omega), if_pos (by omega), hfl, wrap_in (x := (i : Int) + 1) (by omega) (by omega), front_succ, show min (64 * (i + 1)) l.length = 64 * i + 64 by omega]
      have hb : (((64 * i + 64 : Nat) : Int) == (l.length : Int)) = decide (i + 1 = pieces l) := by
        by_cases h : i + 1 = pieces l
        · rw [decide_eq_true h, beq_iff_eq]; omega
        · rw [decide_eq_false h, beq_eq_false_iff_ne]; omega
      rw [hb]
theorem rcut_ev (l : List Int) (h1 : 1 ≤ l.length) (h2 : l.length ≤ 8192) : Ev (fun k => shutterref22_Cut.f k l) (Chunk.cutL l) := by
  unfold shutterref22_Cut.f
  have := rcut_loop l h1 h2 (pieces l) 0 (by omega)
  rw [show ((min (64 * 0) l.length : Nat) : Int) = 0 by simp] at this
  exact this
theorem all_loop (l : List Int) (h2 : l.length ≤ 8192) : ∀ d i, i + d = pieces l → Ev (fun k => shutterref22_SameAll.l0 k (Chunk.cutL l) (Chunk.cutL l) (i : Int)) true
  | 0, i, hi => by
    refine Ev.step (f := fun _ => some true) (fun k => ?_) (Ev.now _)
    simp only [shutterref22_SameAll.l0, cutL_length]
    rw [if_neg (by omega)]
  | d + 1, i, hi => by
    have hp : pieces l = (l.length + 63) / 64 := rfl
    have e3 : wrap64 ((i : Int) + 1) = ((i + 1 : Nat) : Int) := by rw [wrap_in (by omega) (by omega)]; omega
    have hs := chunk_some l (i := i) (by omega)
    have hsm := prsame_self 0 ((i : Int) + 1) (decide (i + 1 = pieces l)) (Chunk.chunk l i) (by omega)
    refine Ev.step (fun k => ?_) (Ev.bind hsm (f := fun k t => if t = true then shutterref22_SameAll.l0 k (Chunk.cutL l) (Chunk.cutL l) ((i + 1 : Nat) : Int) else some false) (by simpa using all_loop l h2 d (i + 1) (by omega)))
    simp only [shutterref22_SameAll.l0, cutL_length]
    rw [if_pos (by omega), if_pos (by omega), if_pos (by omega), cutL_at l (by omega), e3]
theorem all_ev (l : List Int) (h2 : l.length ≤ 8192) : Ev (fun k => shutterref22_SameAll.f k (Chunk.cutL l) (Chunk.cutL l)) true := by
  unfold shutterref22_SameAll.f
  simp only [if_true]
  exact all_loop l h2 (pieces l) 0 (by omega)
theorem cuts (l : List Int) : ∃ k, shutterlaw22_PieceCuts.f k l = some true := by
  refine Ev.rounds (g := fun k => shutterlaw22_PieceCuts.f k l) ?_
  unfold shutterlaw22_PieceCuts.f
  refine Ev.bind awake ?_
  simp only [if_true]
  by_cases c : (l.length : Int) > 9000
  · simp only [decide_eq_true c]
    refine Ev.step (f := fun k => (shutterlaw22_awake.f k).bind fun t => some t) (fun k => by simp only [shutterlaw22_PieceCuts.j0, if_true]) ?_
    exact Ev.bind awake (Ev.now _)
  · simp only [decide_eq_false c]
    by_cases h0 : l.length = 0
    · refine Ev.step (f := fun _ => some true) (fun k => ?_) (Ev.now _)
      simp only [shutterlaw22_PieceCuts.j0, Bool.false_eq_true, if_false, cut_0 l h0, Option.bind_some, show api_Code.f (some 2) = some 2 from rfl, if_true]
      rw [if_pos (by omega)]; rfl
    · by_cases h8 : l.length ≤ 8192
      · refine Ev.step (f := fun k => (shutterref22_Cut.f k l).bind fun t241 => ((shutterref22_SameAll.f k (Chunk.cutL l) t241).bind fun t244 => (some t244))) (fun k => ?_) (Ev.bind (rcut_ev l (by omega) h8) (Ev.bind (all_ev l h8) (Ev.now _)))
        simp only [shutterlaw22_PieceCuts.j0, Bool.false_eq_true, if_false, cut_ok l h0 h8, Option.bind_some, Option.isNone_none, if_true]
        rw [if_neg (by omega), if_neg (by omega)]
      · refine Ev.step (f := fun _ => some true) (fun k => ?_) (Ev.now _)
        simp only [shutterlaw22_PieceCuts.j0, Bool.false_eq_true, if_false, cut_long l h8, Option.bind_some, show api_Code.f (some 6) = some 6 from rfl, if_true]
        rw [if_neg (by omega), if_pos (by omega)]; rfl

end Go.Proofs.YtfmlndkibnjbmaaDoor.PiecePure

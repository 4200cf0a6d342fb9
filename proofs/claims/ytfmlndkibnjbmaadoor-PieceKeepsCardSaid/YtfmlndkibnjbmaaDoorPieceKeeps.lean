/- Proved: the law PieceKeeps as a statement about numbers and lists; conditions: the bytes are in their range. -/
import Derived.Test.YtfmlndkibnjbmaaDoorPieceKCom
import Derived.Test.YtfmlndkibnjbmaaDoorYPieceKx7
namespace Go.Proofs.YtfmlndkibnjbmaaDoor.PieceKPure
open Go.RowKit Go.Proofs.YtfmlndkibnjbmaaDoor.YPieceK Go.Proofs.YtfmlndkibnjbmaaDoorW.PrintWords Go.Proofs.YtfmlndkibnjbmaaDoorW.PrintLast Go.Proofs.YtfmlndkibnjbmaaDoorW.PrintMore
set_option linter.unusedVariables false

/-! ### PieceKeeps -/
def front (l : List Int) (i : Nat) : List S34 := (List.range i).map fun (j : Nat) => (⟨0, (j : Int) + 1, decide (j + 1 = pieces l), Chunk.chunk l j⟩ : S34)
theorem front_length (l : List Int) (i : Nat) : (front l i).length = i := by unfold front; rw [List.length_map, List.length_range]
theorem front_succ (l : List Int) (i : Nat) : front l (i + 1) = front l i ++ [⟨0, (i : Int) + 1, decide (i + 1 = pieces l), Chunk.chunk l i⟩] := by unfold front; rw [List.range_succ, List.map_append]; rfl
theorem chunk_eq (l : List Int) (i m : Nat) (h : m = min 64 (l.length - 64 * i)) : (l.take (64 * i + m)).drop (64 * i) = Chunk.chunk l i := by
  unfold Chunk.chunk
  rw [List.drop_take, show 64 * i + m - 64 * i = m by omega]
  by_cases c : m = 64
  · rw [c]
  · rw [List.take_of_length_le (by rw [List.length_drop]; omega), List.take_of_length_le (by rw [List.length_drop]; omega)]
theorem rcut_loop (l : List Int) (h1 : 1 ≤ l.length) (h2 : l.length ≤ 8192) : ∀ d i, i + d = pieces l → Ev (fun k => shutterref22_Cut.l0 k l (front l i) ((min (64 * i) l.length : Nat) : Int)) (front l (pieces l))
  | 0, i, hi => by
    have hp : pieces l = (l.length + 63) / 64 := rfl
    refine Ev.step (f := fun _ => some (front l i)) (fun k => ?_) (by rw [show i = pieces l by omega]; exact Ev.now _)
    simp only [shutterref22_Cut.l0]
    rw [if_neg (by omega)]
  | d + 1, i, hi => by
    have hp : pieces l = (l.length + 63) / 64 := rfl
    have hat : min (64 * i) l.length = 64 * i := by omega
    refine Ev.step (fun k => ?_) (rcut_loop l h1 h2 d (i + 1) (by omega))
    have hfl := front_length l i
    simp only [shutterref22_Cut.l0]
    rw [hat, if_pos (by omega), wrap_in (x := (l.length : Int) - ((64 * i : Nat) : Int)) (by omega) (by omega)]
    by_cases c : (l.length : Int) - ((64 * i : Nat) : Int) < 64
    · have hw : wrap64 (((64 * i : Nat) : Int) + ((l.length : Int) - ((64 * i : Nat) : Int))) = (l.length : Int) := by rw [wrap_in (by omega) (by omega)]; omega
      have hc : (l.take (l.length : Int).toNat).drop (((64 * i : Nat) : Int)).toNat = Chunk.chunk l i := by
        rw [Int.toNat_natCast, Int.toNat_natCast]
        have := chunk_eq l i (l.length - 64 * i) (by omega)
        rw [show 64 * i + (l.length - 64 * i) = l.length by omega] at this
        exact this
      rw [if_pos c, hw]
      simp only [Option.bind_some, hc, List.length_nil, List.nil_append]
      have hs := chunk_some l (i := i) (by omega)
      rw [if_pos (by omega), if_pos (by omega), if_pos (by omega), if_pos (by omega), if_pos (by omega), hfl, wrap_in (x := (i : Int) + 1) (by omega) (by omega), front_succ, show min (64 * (i + 1)) l.length = l.length by omega]
      have hb : ((l.length : Int) == (l.length : Int)) = decide (i + 1 = pieces l) := by rw [beq_self_eq_true, decide_eq_true (by omega)]
      rw [hb]
    · have hw : wrap64 (((64 * i : Nat) : Int) + 64) = ((64 * i + 64 : Nat) : Int) := by rw [wrap_in (by omega) (by omega)]; omega
      have hc : (l.take (((64 * i + 64 : Nat) : Int)).toNat).drop (((64 * i : Nat) : Int)).toNat = Chunk.chunk l i := by
        rw [Int.toNat_natCast, Int.toNat_natCast]
        exact chunk_eq l i 64 (by omega)
      rw [if_neg c, hw]
      simp only [Option.bind_some, hc, List.length_nil, List.nil_append]
      have hs := chunk_some l (i := i) (by omega)
      rw [if_pos (by omega), if_pos (by omega), if_pos (by omega), if_pos (by omega), if_pos (by omega), hfl, wrap_in (x := (i : Int) + 1) (by omega) (by omega), front_succ, show min (64 * (i + 1)) l.length = 64 * i + 64 by omega]
      have hb : (((64 * i + 64 : Nat) : Int) == (l.length : Int)) = decide (i + 1 = pieces l) := by
        by_cases h : i + 1 = pieces l
        · rw [decide_eq_true h, beq_iff_eq]; omega
        · rw [decide_eq_false h, beq_eq_false_iff_ne]; omega
      rw [hb]
theorem rcut_ev (l : List Int) (h1 : 1 ≤ l.length) (h2 : l.length ≤ 8192) : Ev (fun k => shutterref22_Cut.f k l) (Chunk.cutL l) := by
  unfold shutterref22_Cut.f
  have := rcut_loop l h1 h2 (pieces l) 0 (by omega)
  rw [show ((min (64 * 0) l.length : Nat) : Int) = 0 by simp] at this
  exact this
theorem all_loop (l : List Int) (h2 : l.length ≤ 8192) : ∀ d i, i + d = pieces l → Ev (fun k => shutterref22_SameAll.l0 k (Chunk.cutL l) (Chunk.cutL l) (i : Int)) true
  | 0, i, hi => by
    refine Ev.step (f := fun _ => some true) (fun k => ?_) (Ev.now _)
    simp only [shutterref22_SameAll.l0, cutL_length]
    rw [if_neg (by omega)]
  | d + 1, i, hi => by
    have hp : pieces l = (l.length + 63) / 64 := rfl
    have e3 : wrap64 ((i : Int) + 1) = ((i + 1 : Nat) : Int) := by rw [wrap_in (by omega) (by omega)]; omega
    have hs := chunk_some l (i := i) (by omega)
    have hsm := prsame_self 0 ((i : Int) + 1) (decide (i + 1 = pieces l)) (Chunk.chunk l i) (by omega)
    refine Ev.step (fun k => ?_) (Ev.bind hsm (f := fun k t => if t = true then shutterref22_SameAll.l0 k (Chunk.cutL l) (Chunk.cutL l) ((i + 1 : Nat) : Int) else some false) (by simpa using all_loop l h2 d (i + 1) (by omega)))
    simp only [shutterref22_SameAll.l0, cutL_length]
    rw [if_pos (by omega), if_pos (by omega), if_pos (by omega), cutL_at l (by omega), e3]
theorem all_ev (l : List Int) (h2 : l.length ≤ 8192) : Ev (fun k => shutterref22_SameAll.f k (Chunk.cutL l) (Chunk.cutL l)) true := by
  unfold shutterref22_SameAll.f
  simp only [if_true]
  exact all_loop l h2 (pieces l) 0 (by omega)
/-! ### the storing loop -/
def Small (m : List S34) : Prop := ∀ i : Nat, ((rd_T34 m (i : Int)).f3).length ≤ 64
theorem rd_nat (m : List S34) (i : Nat) : rd_T34 m (i : Int) = m.getD i z34 := by unfold rd_T34; rw [Int.toNat_natCast]
theorem rd_set (m : List S34) (i j : Nat) (x : S34) (h : i < m.length) : rd_T34 (m.set i x) (j : Int) = if i = j then x else rd_T34 m (j : Int) := by
  rw [rd_nat, rd_nat, List.getD_eq_getElem?_getD, List.getD_eq_getElem?_getD, List.getElem?_set]
  by_cases e : i = j
  · subst e; rw [if_pos rfl, if_pos h, if_pos rfl]; rfl
  · rw [if_neg e, if_neg e]
theorem small_set {m : List S34} (hm : Small m) (i : Nat) (h : i < m.length) (x : S34) (hx : x.f3.length ≤ 64) : Small (m.set i x) := by
  intro j
  rw [rd_set m i j x h]
  by_cases e : i = j
  · rw [if_pos e]; exact hx
  · rw [if_neg e]; exact hm j
theorem inner {x0 : List Int} {x4 : List S34} {i n : Nat} {r : Bool} (hn : n ≤ 8192) (hi : i < n) (hnext : ∀ m : List S34, m.length = n → Small m → Ev (fun k => shutterlaw22_PieceKeeps.l1 k x0 x4 m ((i + 1 : Nat) : Int)) r) : ∀ d j (m : List S34), m.length = n → Small m → j + d = ((rd_T34 m (i : Int)).f3).length → Ev (fun k => shutterlaw22_PieceKeeps.l2 k x0 x4 m (i : Int) (j : Int)) r
  | 0, j, m, hl, hm, hj => by
    refine Ev.step (fun k => ?_) (hnext m hl hm)
    simp only [shutterlaw22_PieceKeeps.l2]
    rw [if_pos (by omega), if_pos (by omega), if_neg (by omega), wrap_in (x := (i : Int) + 1) (by omega) (by omega)]
    rfl
  | d + 1, j, m, hl, hm, hj => by
    have h64 := hm i
    refine Ev.step (fun k => ?_) (inner hn hi hnext d (j + 1) (m.set i ⟨(rd_T34 m (i : Int)).f0, (rd_T34 m (i : Int)).f1, (rd_T34 m (i : Int)).f2, ((rd_T34 m (i : Int)).f3).set j 7⟩) (by rw [List.length_set]; exact hl) (small_set hm i (by omega) _ (by rw [List.length_set]; exact h64)) (by rw [rd_set m i i _ (by omega), if_pos rfl, List.length_set]; omega))
    simp only [shutterlaw22_PieceKeeps.l2]
    rw [if_pos (by omega), if_pos (by omega), if_pos (by omega), if_pos (by omega), wrap_in (x := (j : Int) + 1) (by omega) (by omega)]
    simp only [Int.toNat_natCast]
    rfl
theorem outer {x0 : List Int} {x4 : List S34} {n : Nat} {r : Bool} (hn : n ≤ 8192) (hend : Ev (fun k => (shutterref22_Cut.f k x0).bind fun t => (shutterref22_SameAll.f k x4 t).bind fun t2 => some t2) r) : ∀ d i (m : List S34), m.length = n → Small m → i + d = n → Ev (fun k => shutterlaw22_PieceKeeps.l1 k x0 x4 m (i : Int)) r
  | 0, i, m, hl, hm, hi => by
    refine Ev.step (fun k => ?_) hend
    simp only [shutterlaw22_PieceKeeps.l1]
    rw [if_neg (by omega)]
  | d + 1, i, m, hl, hm, hi => by
    refine Ev.step (fun k => ?_) (inner hn (show i < n by omega) (fun m' hl' hm' => outer hn hend d (i + 1) m' hl' hm' (by omega)) ((rd_T34 m (i : Int)).f3).length 0 m hl hm (by omega))
    simp only [shutterlaw22_PieceKeeps.l1]
    rw [if_pos (by omega)]
    rfl
theorem flips {x0 : List Int} {p : List S34} {r : Bool} (h3 : x0.length ≤ 300) (hend : Ev (fun k => (piece_Cut.f x0).bind fun bt => (if (none : Option Int).isNone = true then (if bt.2.isNone = true then ((shutterref22_SameAll.f k p bt.1).bind fun t252 => (shutterlaw22_PieceKeeps.j2 k x0 p bt.1 (!t252))) else (shutterlaw22_PieceKeeps.j2 k x0 p bt.1 true)) else (shutterlaw22_PieceKeeps.j2 k x0 p bt.1 true))) r) : ∀ d i (m : List Int), m.length = x0.length → i + d = x0.length → Ev (fun k => shutterlaw22_PieceKeeps.l0 k x0 m p none (i : Int)) r
  | 0, i, m, hl, hi => by
    refine Ev.step (fun k => ?_) hend
    simp only [shutterlaw22_PieceKeeps.l0]
    rw [if_neg (by omega)]
  | d + 1, i, m, hl, hi => by
    refine Ev.step (fun k => ?_) (flips h3 hend d (i + 1) (m.set i (Go.bits .xor .u8 (rd m (i : Int)) 255)) (by rw [List.length_set]; exact hl) (by omega))
    simp only [shutterlaw22_PieceKeeps.l0]
    rw [if_pos (by omega), if_pos (by omega), wrap_in (x := (i : Int) + 1) (by omega) (by omega)]
    simp only [Int.toNat_natCast]
    rfl
theorem small_cut (l : List Int) : Small (Chunk.cutL l) := by
  intro i
  by_cases h : i < pieces l
  · rw [cutL_at l h]; exact (chunk_some l h).2
  · rw [rd_nat, List.getD_eq_getElem?_getD, List.getElem?_eq_none (by rw [cutL_length]; omega)]
    exact Nat.zero_le _
theorem keeps (l : List Int) : ∃ k, shutterlaw22_PieceKeeps.f k l = some true := by
  refine Ev.rounds (g := fun k => shutterlaw22_PieceKeeps.f k l) ?_
  unfold shutterlaw22_PieceKeeps.f
  refine Ev.bind awake ?_
  simp only [if_true]
  have hout : Ev (fun k => shutterlaw22_PieceKeeps.j0 k l true) true := by
    refine Ev.step (f := fun k => (shutterlaw22_awake.f k).bind fun t => some t) (fun k => by simp only [shutterlaw22_PieceKeeps.j0, if_true]) ?_
    exact Ev.bind awake (Ev.now _)
  by_cases h0 : (l.length : Int) < 1
  · simp only [if_pos h0]; exact hout
  · simp only [if_neg h0]
    by_cases c : (l.length : Int) > 300
    · simp only [decide_eq_true c]; exact hout
    · simp only [decide_eq_false c]
      have hp : pieces l = (l.length + 63) / 64 := rfl
      have hcut := cut_ok l (by omega) (by omega)
      refine Ev.step (f := fun k => shutterlaw22_PieceKeeps.l0 k l l (Chunk.cutL l) none 0) (fun k => ?_) ?_
      · simp only [shutterlaw22_PieceKeeps.j0, Bool.false_eq_true, if_false, Option.bind_some, List.length_nil, List.nil_append, hcut]
        rw [if_pos (by omega)]
      refine flips (by omega) ?_ l.length 0 l rfl (by omega)
      simp only [hcut, Option.bind_some, Option.isNone_none, if_true]
      refine Ev.bind (all_ev l (by omega)) ?_
      refine Ev.step (f := fun k => shutterlaw22_PieceKeeps.l1 k l (Chunk.cutL l) (Chunk.cutL l) 0) (fun k => ?_) ?_
      · simp only [shutterlaw22_PieceKeeps.j2, Bool.not_true, Bool.false_eq_true, if_false]
      exact outer (n := pieces l) (by omega) (Ev.bind (rcut_ev l (by omega) (by omega)) (Ev.bind (all_ev l (by omega)) (Ev.now _))) (pieces l) 0 _ (cutL_length l) (small_cut l) (by omega)

end Go.Proofs.YtfmlndkibnjbmaaDoor.PieceKPure

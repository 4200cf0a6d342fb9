-- Own text, made by this session out of the translation by wip/tools/xprint.sh: Lean functions with the answers of Go functions, and their walks.
import Derived.Test.YtfmlndkibnjbmaaDoorYPiecex0
import Derived.Test.YtfmlndkibnjbmaaDoorYPiecex1
import Derived.Test.YtfmlndkibnjbmaaDoorYPiecex3
import Derived.Test.YtfmlndkibnjbmaaDoorYPiecex4
import Derived.Test.YtfmlndkibnjbmaaDoorYPiecex5
namespace Go.Proofs.YtfmlndkibnjbmaaDoor.YPiece
open Go.RowKit Go.Proofs.YtfmlndkibnjbmaaDoorW.PrintWords Go.Proofs.YtfmlndkibnjbmaaDoorW.PrintLast Go.Proofs.YtfmlndkibnjbmaaDoorW.PrintMore
attribute [local go_sem] max2_int min2_int max_two min_two max_three min_three max_four min_four   -- for this text's walks alone
set_option linter.unusedVariables false
set_option linter.unusedSimpArgs false

/-! ### shutterlaw22_PieceBack: function 6 -/
def shutterlaw22_PieceBack.j0 : Nat → List Int → Bool → Int → Int → Bool → List Int → Option (Bool)
 | 0, _, _, _, _, _, _ => none
 | k + 1, x1, x25, x346000, x346001, x346002, x346003 => if x25 = true then ((shutterlaw22_awake.f k).bind fun t347 => (some t347)) else ((piece_Write.f k x346000 x346001 x346002 x346003).bind fun bt348 => (if bt348.2.isNone = true then ((piece_Read.f k bt348.1).bind fun bt353 => (if bt353.2.2.2.2.isNone = true then ((shutterref22_Same.f k bt353.1 bt353.2.1 bt353.2.2.1 bt353.2.2.2.1 x346000 x346001 x346002 x346003).bind fun t362 => (if t362 = true then ((piece_Read.f k x1).bind fun bt363 => (if bt363.2.2.2.2.isNone = true then ((piece_Write.f k bt363.1 bt363.2.1 bt363.2.2.1 bt363.2.2.2.1).bind fun bt372 => (if bt372.2.isNone = true then ((shutterref01_Same.f k bt372.1 x1).bind fun t377 => (some t377)) else (none))) else ((shutterref22_Same.f k bt363.1 bt363.2.1 bt363.2.2.1 bt363.2.2.2.1 0 0 false ([] : List Int)).bind fun t378 => (some t378)))) else (none))) else (none))) else ((piece_Read.f k x1).bind fun bt379 => (if bt379.2.2.2.2.isNone = true then ((piece_Write.f k bt379.1 bt379.2.1 bt379.2.2.1 bt379.2.2.2.1).bind fun bt388 => (if bt388.2.isNone = true then ((shutterref01_Same.f k bt388.1 x1).bind fun t393 => (some t393)) else (none))) else ((shutterref22_Same.f k bt379.1 bt379.2.1 bt379.2.2.1 bt379.2.2.2.1 0 0 false ([] : List Int)).bind fun t394 => (some t394))))))
def shutterlaw22_PieceBack.f (k : Nat) (a0_0 : Int) (a0_1 : Int) (a0_2 : Bool) (l0_3 : List Int) (l1 : List Int) : Option (Bool) := (shutterlaw22_awake.f k).bind fun t346 => (if t346 = true then (if (l0_3.length : Int) > 300 then (shutterlaw22_PieceBack.j0 k l1 true a0_0 a0_1 a0_2 l0_3) else (shutterlaw22_PieceBack.j0 k l1 (decide ((l1.length : Int) > 300)) a0_0 a0_1 a0_2 l0_3)) else (shutterlaw22_PieceBack.j0 k l1 true a0_0 a0_1 a0_2 l0_3))
theorem shutterlaw22_PieceBack.mono_l : ∀ k, (∀ y0 y1 y2 y3 y4 y5, LeO (shutterlaw22_PieceBack.j0 k y0 y1 y2 y3 y4 y5) (shutterlaw22_PieceBack.j0 (k + 1) y0 y1 y2 y3 y4 y5))
 | 0 => fun _ _ _ _ _ _ r h => by simp [shutterlaw22_PieceBack.j0] at h
 | k + 1 => by
  have ih0 := shutterlaw22_PieceBack.mono_l k
  ·intro y0 y1 y2 y3 y4 y5
   unfold shutterlaw22_PieceBack.j0
   repeat' first
   | (with_reducible exact ih0 _ _ _ _ _ _)
   | (with_reducible exact piece_Read.mono _ _)
   | (with_reducible exact piece_Write.mono _ _ _ _ _)
   | (with_reducible exact shutterlaw22_awake.mono _)
   | (with_reducible exact shutterref01_Same.mono _ _ _)
   | (with_reducible exact shutterref22_Same.mono _ _ _ _ _ _ _ _ _)
   | (with_reducible exact LeO.refl _)
   | (with_reducible exact LeO.none _)
   | (with_reducible refine LeO.ite ?_ ?_)
   | (with_reducible refine LeO.bind ?_ (fun _ => ?_))
   | exact ih0 _ _ _ _ _ _
   | exact piece_Read.mono _ _
   | exact piece_Write.mono _ _ _ _ _
   | exact shutterlaw22_awake.mono _
   | exact shutterref01_Same.mono _ _ _
   | exact shutterref22_Same.mono _ _ _ _ _ _ _ _ _
   | exact LeO.none _
   | refine LeO.ite ?_ ?_
   | refine LeO.bind ?_ (fun _ => ?_)
theorem shutterlaw22_PieceBack.mono : ∀ a0 a1 a2 a3 a4 k, LeO (shutterlaw22_PieceBack.f k a0 a1 a2 a3 a4) (shutterlaw22_PieceBack.f (k + 1) a0 a1 a2 a3 a4) := by
 intro a0 a1 a2 a3 a4 k
 have ih0 := shutterlaw22_PieceBack.mono_l k
 unfold shutterlaw22_PieceBack.f
 repeat' first
   | (with_reducible exact ih0 _ _ _ _ _ _)
   | (with_reducible exact piece_Read.mono _ _)
   | (with_reducible exact piece_Write.mono _ _ _ _ _)
   | (with_reducible exact shutterlaw22_awake.mono _)
   | (with_reducible exact shutterref01_Same.mono _ _ _)
   | (with_reducible exact shutterref22_Same.mono _ _ _ _ _ _ _ _ _)
   | (with_reducible exact LeO.refl _)
   | (with_reducible exact LeO.none _)
   | (with_reducible refine LeO.ite ?_ ?_)
   | (with_reducible refine LeO.bind ?_ (fun _ => ?_))
   | exact ih0 _ _ _ _ _ _
   | exact piece_Read.mono _ _
   | exact piece_Write.mono _ _ _ _ _
   | exact shutterlaw22_awake.mono _
   | exact shutterref01_Same.mono _ _ _
   | exact shutterref22_Same.mono _ _ _ _ _ _ _ _ _
   | exact LeO.none _
   | refine LeO.ite ?_ ?_
   | refine LeO.bind ?_ (fun _ => ?_)
set_option maxHeartbeats 8000000 in
set_option maxRecDepth 100000 in
theorem shutterlaw22_PieceBack.calls (k : Nat) (a0_0 : Int) (a0_1 : Int) (a0_2 : Bool) (A0_3 : Option Addr) (c0_3 : Nat) (l0_3 : List Int) (A1 : Option Addr) (c1 : Nat) (l1 : List Int) (r : Bool) (w : World) (hGl : Aside0 (Code.Gl w)) (hr0_3 : Kd.C (Kd.int .u8) w A0_3 l0_3.length l0_3) (hc0_3 : l0_3.length ≤ c0_3) (hr1 : Kd.C (Kd.int .u8) w A1 l1.length l1) (hc1 : l1.length ≤ c1) (h : shutterlaw22_PieceBack.f k a0_0 a0_1 a0_2 l0_3 l1 = some r) :
  Calls Tryd.prog 6 #[.agg #[.int .i64 a0_0, .int .i64 a0_1, .bool a0_2, .slice A0_3 l0_3.length c0_3], .slice A1 l1.length c1] w fun e w' => e = .returned (.bool r) ∧ Below w.heap.size w w' := by
 have hu34 := Tryd.underlying34
 have hu26 := Tryd.underlying26
 have hu46 := Tryd.underlying46
 have HR0_3 := Aside0.mk hr0_3
 have HC0_3 := Aside0.mk hc0_3
 clear hr0_3 hc0_3
 have HR1 := Aside0.mk hr1
 have HC1 := Aside0.mk hc1
 clear hr1 hc1
 have HB := Aside0.mk (Below.refl w.heap.size w)
 have H : ((shutterlaw22_awake.f k).bind fun t346 => (if t346 = true then (if (l0_3.length : Int) > 300 then (shutterlaw22_PieceBack.j0 k l1 true a0_0 a0_1 a0_2 l0_3) else (shutterlaw22_PieceBack.j0 k l1 (decide ((l1.length : Int) > 300)) a0_0 a0_1 a0_2 l0_3)) else (shutterlaw22_PieceBack.j0 k l1 true a0_0 a0_1 a0_2 l0_3))) = some r := h
 clear h
 have HC3 := Aside0.mk H
 clear H
 go_enter Tryd.func6, Tryd.ntmps6
 go_upto_region 1 with (first | ((with_reducible refine gate_dst (N := 2) rfl ?_); (try (refine gate_guard (by rfl) ?_; dsimp only)); refine box_event ?hg (N := 2) ?hd (cs := #[.int .i64 a0_0, .int .i64 a0_1, .bool a0_2, .slice A0_3 l0_3.length c0_3]) (t := 34) ?hr ?_; (case hd => rfl); (case hg => rfl); (case hr => first | (go_simp; done) | (go_simp; rfl)); intro gb345 hg w4 hbox hb; have n0_ := Aside0.mk (below_step (by repeat (first | (with_reducible first | exact HB.out | apply below_alloc | apply pw_below_drewN | apply below_drew1) | exact HB.out)) hb); have n1_ := Aside0.mk (hbox); have n2_ := Aside0.mk ((by rw [hg]; exact (below_size (by repeat (first | (with_reducible first | exact HB.out | apply below_alloc | apply pw_below_drewN | apply below_drew1) | exact HB.out))) : w.heap.size ≤ gb345)); have n3_ := Aside0.mk ((by rw [hg]; exact (below_size (by repeat (first | (with_reducible first | exact HB.out | apply below_alloc | apply pw_below_drewN | apply below_drew1) | exact HB.out))) : w.heap.size ≤ gb345)); clear HB; have HB := n0_; have BK345 := n1_; have GW345 := n2_; have GE345 := n3_; clear n0_ n1_ n2_ n3_; clear hb hbox hg))
 (try simp only [Act.put, List.setIfInBounds_toArray, List.set_cons_zero, List.set_cons_succ])
 go_cut [25] (fun v25 wc => ∃ (kq : Nat) (x25_2 : Bool), v25 = .bool x25_2 ∧ Aside0 (shutterlaw22_PieceBack.j0 kq l1 x25_2 a0_0 a0_1 a0_2 l0_3 = some r) ∧ Aside0 (kq ≤ k) ∧ Aside0 (wc.heap[gb345]? = some (.cells #[.int .i64 a0_0, .int .i64 a0_1, .bool a0_2, (.slice A0_3 l0_3.length c0_3)] 34 (0, 0))) ∧ Aside0 (Below w.heap.size w wc))
 case first =>
  have H := HC3.out
  clear HC3
  replace H := Option.bind_eq_some_iff.mp H
  obtain ⟨t346, A50, H⟩ := H
  replace H : (if t346 = true then (if (l0_3.length : Int) > 300 then (shutterlaw22_PieceBack.j0 k l1 true a0_0 a0_1 a0_2 l0_3) else (shutterlaw22_PieceBack.j0 k l1 (decide ((l1.length : Int) > 300)) a0_0 a0_1 a0_2 l0_3)) else (shutterlaw22_PieceBack.j0 k l1 true a0_0 a0_1 a0_2 l0_3)) = some r := H
  have A5 := Aside0.mk A50
  clear A50
  by_cases c6 : t346 = true
  ·subst c6
   have H1 : (if (l0_3.length : Int) > 300 then (shutterlaw22_PieceBack.j0 k l1 true a0_0 a0_1 a0_2 l0_3) else (shutterlaw22_PieceBack.j0 k l1 (decide ((l1.length : Int) > 300)) a0_0 a0_1 a0_2 l0_3)) = some r := by rw [if_pos rfl] at H; exact H
   clear H
   have H := H1
   clear H1
   by_cases c7 : (l0_3.length : Int) > 300
   ·rw [if_pos c7] at H
    have c7b0 : decide (300 < (l0_3.length : Int)) = true := decide_eq_true c7
    have c7b1 : decide (300 < l0_3.length) = true := decide_eq_true (by omega)
    clear c7
    (first | rw [c7b0] | (simp only [i64_w, i32_w]; rw [c7b0]) | skip)
    have H' := Aside0.mk H
    clear H
    go_wp2_with (first | ((with_reducible refine gate_callee (f := 9) rfl ?_); refine goesL_ (some 13) rfl rfl Tryd.func9 (by kernel_rfl) rfl #[] rfl (by (try simp only [List.map_toArray, List.map_cons, List.map_nil]); first | done | rfl | (simp only [List.length_drop, List.length_take]; rfl)) ?_; (with_reducible refine (shutterlaw22_awake.calls k  true _ (by exact Aside0.mk (Code.Gl.below hGl.out (by repeat (first | (with_reducible first | exact HB.out | apply below_alloc | apply pw_below_drewN | apply below_drew1 | refine below_set ?_ (Aside0.out (by assumption))) | exact HB.out)) (Code.Gl.lt hGl.out))) A5.out).mono ?_); rintro e w8 ⟨rfl, hb⟩; refine ⟨_, rfl, ?_⟩; have n0_ := Aside0.mk (blk_below (g := gb345) (o := .cells #[.int .i64 a0_0, .int .i64 a0_1, .bool a0_2, .slice A0_3 l0_3.length c0_3] 34 (0, 0)) (by (with_reducible repeat (first | refine blk_drewN ?_ _ | refine blk_drew ?_ | refine blk_alloc ?_ _)); exact BK345.out) hb); have n1_ := Aside0.mk (below_step (by repeat (first | (with_reducible first | exact HB.out | apply below_alloc | apply pw_below_drewN | apply below_drew1 | refine below_set ?_ GE345.out) | exact HB.out)) hb); clear BK345; clear HB; have BK345 := n0_; have HB := n1_; clear n0_ n1_; (try clear hb); (try clear hb2); (try clear hk); (try clear hi); have hcz9_0 : w8.cell? ⟨gb345, 0, none⟩ = some (.int .i64 a0_0) := (blk_cell BK345.out 0).trans rfl; have hcz9_1 : w8.cell? ⟨gb345, 1, none⟩ = some (.int .i64 a0_1) := (blk_cell BK345.out 1).trans rfl; have hcz9_2 : w8.cell? ⟨gb345, 2, none⟩ = some (.bool a0_2) := (blk_cell BK345.out 2).trans rfl; have hcz9_3 : w8.cell? ⟨gb345, 3, none⟩ = some (.slice A0_3 l0_3.length c0_3) := (blk_cell BK345.out 3).trans rfl; have hfz9_0 := blk_frozen BK345.out 0; have hfz9_1 := blk_frozen BK345.out 1; have hfz9_2 := blk_frozen BK345.out 2; have hfz9_3 := blk_frozen BK345.out 3))
    go_meet
    case rel => exact ⟨_, (true), (by first | rfl | (simp; done) | (simp [*]; done)), H', ⟨by first | omega | exact Nat.le_refl _⟩, ⟨by (with_reducible repeat (first | refine blk_drewN ?_ _ | refine blk_drew ?_ | refine blk_alloc ?_ _)); exact BK345.out⟩, ⟨by repeat (first | (with_reducible first | exact HB.out | apply below_alloc | apply pw_below_drewN | apply below_drew1 | refine below_set ?_ GE345.out) | exact HB.out)⟩⟩
   ·rw [if_neg c7] at H
    have c7b0 : decide (300 < (l0_3.length : Int)) = false := decide_eq_false c7
    have c7b1 : decide (300 < l0_3.length) = false := decide_eq_false (by omega)
    clear c7
    (first | rw [c7b0] | (simp only [i64_w, i32_w]; rw [c7b0]) | skip)
    have H' := Aside0.mk H
    clear H
    go_wp2_with (first | ((with_reducible refine gate_callee (f := 9) rfl ?_); refine goesL_ (some 13) rfl rfl Tryd.func9 (by kernel_rfl) rfl #[] rfl (by (try simp only [List.map_toArray, List.map_cons, List.map_nil]); first | done | rfl | (simp only [List.length_drop, List.length_take]; rfl)) ?_; (with_reducible refine (shutterlaw22_awake.calls k  true _ (by exact Aside0.mk (Code.Gl.below hGl.out (by repeat (first | (with_reducible first | exact HB.out | apply below_alloc | apply pw_below_drewN | apply below_drew1 | refine below_set ?_ (Aside0.out (by assumption))) | exact HB.out)) (Code.Gl.lt hGl.out))) A5.out).mono ?_); rintro e w10 ⟨rfl, hb⟩; refine ⟨_, rfl, ?_⟩; have n0_ := Aside0.mk (blk_below (g := gb345) (o := .cells #[.int .i64 a0_0, .int .i64 a0_1, .bool a0_2, .slice A0_3 l0_3.length c0_3] 34 (0, 0)) (by (with_reducible repeat (first | refine blk_drewN ?_ _ | refine blk_drew ?_ | refine blk_alloc ?_ _)); exact BK345.out) hb); have n1_ := Aside0.mk (below_step (by repeat (first | (with_reducible first | exact HB.out | apply below_alloc | apply pw_below_drewN | apply below_drew1 | refine below_set ?_ GE345.out) | exact HB.out)) hb); clear BK345; clear HB; have BK345 := n0_; have HB := n1_; clear n0_ n1_; (try clear hb); (try clear hb2); (try clear hk); (try clear hi); have hcz11_0 : w10.cell? ⟨gb345, 0, none⟩ = some (.int .i64 a0_0) := (blk_cell BK345.out 0).trans rfl; have hcz11_1 : w10.cell? ⟨gb345, 1, none⟩ = some (.int .i64 a0_1) := (blk_cell BK345.out 1).trans rfl; have hcz11_2 : w10.cell? ⟨gb345, 2, none⟩ = some (.bool a0_2) := (blk_cell BK345.out 2).trans rfl; have hcz11_3 : w10.cell? ⟨gb345, 3, none⟩ = some (.slice A0_3 l0_3.length c0_3) := (blk_cell BK345.out 3).trans rfl; have hfz11_0 := blk_frozen BK345.out 0; have hfz11_1 := blk_frozen BK345.out 1; have hfz11_2 := blk_frozen BK345.out 2; have hfz11_3 := blk_frozen BK345.out 3))
    go_meet
    case rel => exact ⟨_, (decide ((l1.length : Int) > 300)), (by first | rfl | (simp; done) | (simp [*]; done)), H', ⟨by first | omega | exact Nat.le_refl _⟩, ⟨by (with_reducible repeat (first | refine blk_drewN ?_ _ | refine blk_drew ?_ | refine blk_alloc ?_ _)); exact BK345.out⟩, ⟨by repeat (first | (with_reducible first | exact HB.out | apply below_alloc | apply pw_below_drewN | apply below_drew1 | refine below_set ?_ GE345.out) | exact HB.out)⟩⟩
  ·replace c6 := Bool.eq_false_iff.mpr c6
   subst c6
   have H1 : (shutterlaw22_PieceBack.j0 k l1 true a0_0 a0_1 a0_2 l0_3) = some r := by rw [if_neg (show ¬ (false = true) by decide)] at H; exact H
   clear H
   have H := H1
   clear H1
   have H' := Aside0.mk H
   clear H
   go_wp2_with (first | ((with_reducible refine gate_callee (f := 9) rfl ?_); refine goesL_ (some 13) rfl rfl Tryd.func9 (by kernel_rfl) rfl #[] rfl (by (try simp only [List.map_toArray, List.map_cons, List.map_nil]); first | done | rfl | (simp only [List.length_drop, List.length_take]; rfl)) ?_; (with_reducible refine (shutterlaw22_awake.calls k  false _ (by exact Aside0.mk (Code.Gl.below hGl.out (by repeat (first | (with_reducible first | exact HB.out | apply below_alloc | apply pw_below_drewN | apply below_drew1 | refine below_set ?_ (Aside0.out (by assumption))) | exact HB.out)) (Code.Gl.lt hGl.out))) A5.out).mono ?_); rintro e w12 ⟨rfl, hb⟩; refine ⟨_, rfl, ?_⟩; have n0_ := Aside0.mk (blk_below (g := gb345) (o := .cells #[.int .i64 a0_0, .int .i64 a0_1, .bool a0_2, .slice A0_3 l0_3.length c0_3] 34 (0, 0)) (by (with_reducible repeat (first | refine blk_drewN ?_ _ | refine blk_drew ?_ | refine blk_alloc ?_ _)); exact BK345.out) hb); have n1_ := Aside0.mk (below_step (by repeat (first | (with_reducible first | exact HB.out | apply below_alloc | apply pw_below_drewN | apply below_drew1 | refine below_set ?_ GE345.out) | exact HB.out)) hb); clear BK345; clear HB; have BK345 := n0_; have HB := n1_; clear n0_ n1_; (try clear hb); (try clear hb2); (try clear hk); (try clear hi)))
   go_meet
   case rel => exact ⟨_, (true), (by first | rfl | (simp; done) | (simp [*]; done)), H', ⟨by first | omega | exact Nat.le_refl _⟩, ⟨by (with_reducible repeat (first | refine blk_drewN ?_ _ | refine blk_drew ?_ | refine blk_alloc ?_ _)); exact BK345.out⟩, ⟨by repeat (first | (with_reducible first | exact HB.out | apply below_alloc | apply pw_below_drewN | apply below_drew1 | refine below_set ?_ GE345.out) | exact HB.out)⟩⟩
 case rest =>
  clear HC3
  try clear c1
  try clear p2
  try clear c6
  try clear c7
  try clear c7b0
  try clear c7b1
  try clear c9
  try clear hcz11_0
  try clear hcz11_1
  try clear hcz11_2
  try clear hcz11_3
  try clear hcz9_0
  try clear hcz9_1
  try clear hcz9_2
  try clear hcz9_3
  try clear hfz11_0
  try clear hfz11_1
  try clear hfz11_2
  try clear hfz11_3
  try clear hfz9_0
  try clear hfz9_1
  try clear hfz9_2
  try clear hfz9_3
  obtain ⟨kq, x25_2, rfl, HA, HJ2, BK345, HB⟩ := hcut
  cases kq with
  | zero => exact absurd HA.out (by simp [shutterlaw22_PieceBack.j0])
  | succ kj2 =>
   have H := HA.out
   clear HA
   simp only [shutterlaw22_PieceBack.j0] at H
   by_cases c13 : x25_2 = true
   ·subst c13
    have H1 : ((shutterlaw22_awake.f kj2).bind fun t347 => (some t347)) = some r := by rw [if_pos rfl] at H; exact H
    clear H
    have H := H1
    clear H1
    replace H := Option.bind_eq_some_iff.mp H
    obtain ⟨t347, A140, H⟩ := H
    replace H : (some t347) = some r := H
    have A14 := Aside0.mk A140
    clear A140
    obtain rfl := Option.some.inj H
    go_wp2_with (first | ((with_reducible refine gate_callee (f := 9) rfl ?_); refine goesL_ (some 26) rfl rfl Tryd.func9 (by kernel_rfl) rfl #[] rfl (by (try simp only [List.map_toArray, List.map_cons, List.map_nil]); first | done | rfl | (simp only [List.length_drop, List.length_take]; rfl)) ?_; (with_reducible refine (shutterlaw22_awake.calls kj2  t347 _ (by exact Aside0.mk (Code.Gl.below hGl.out (by repeat (first | (with_reducible first | exact HB.out | apply below_alloc | apply pw_below_drewN | apply below_drew1 | refine below_set ?_ (Aside0.out (by assumption))) | exact HB.out)) (Code.Gl.lt hGl.out))) A14.out).mono ?_); rintro e w15 ⟨rfl, hb⟩; refine ⟨_, rfl, ?_⟩; have n0_ := Aside0.mk (blk_below (g := gb345) (o := .cells #[.int .i64 a0_0, .int .i64 a0_1, .bool a0_2, .slice A0_3 l0_3.length c0_3] 34 (0, 0)) (by (with_reducible repeat (first | refine blk_drewN ?_ _ | refine blk_drew ?_ | refine blk_alloc ?_ _)); exact BK345.out) hb); have n1_ := Aside0.mk (below_step (by repeat (first | (with_reducible first | exact HB.out | apply below_alloc | apply pw_below_drewN | apply below_drew1 | refine below_set ?_ GE345.out) | exact HB.out)) hb); clear BK345; clear HB; have BK345 := n0_; have HB := n1_; clear n0_ n1_; (try clear hb); (try clear hb2); (try clear hk); (try clear hi)))
    go_ret
    exact ⟨by first | rfl | (simp [errW_none, errW_some] <;> rfl) | (simp [*, errW_none, errW_some] <;> rfl), by repeat (first | (with_reducible first | exact HB.out | apply below_alloc | apply pw_below_drewN | apply below_drew1 | refine below_set ?_ GE345.out) | exact HB.out)⟩
   ·replace c13 := Bool.eq_false_iff.mpr c13
    subst c13
    have H1 : ((piece_Write.f kj2 a0_0 a0_1 a0_2 l0_3).bind fun bt348 => (if bt348.2.isNone = true then ((piece_Read.f kj2 bt348.1).bind fun bt353 => (if bt353.2.2.2.2.isNone = true then ((shutterref22_Same.f kj2 bt353.1 bt353.2.1 bt353.2.2.1 bt353.2.2.2.1 a0_0 a0_1 a0_2 l0_3).bind fun t362 => (if t362 = true then ((piece_Read.f kj2 l1).bind fun bt363 => (if bt363.2.2.2.2.isNone = true then ((piece_Write.f kj2 bt363.1 bt363.2.1 bt363.2.2.1 bt363.2.2.2.1).bind fun bt372 => (if bt372.2.isNone = true then ((shutterref01_Same.f kj2 bt372.1 l1).bind fun t377 => (some t377)) else (none))) else ((shutterref22_Same.f kj2 bt363.1 bt363.2.1 bt363.2.2.1 bt363.2.2.2.1 0 0 false ([] : List Int)).bind fun t378 => (some t378)))) else (none))) else (none))) else ((piece_Read.f kj2 l1).bind fun bt379 => (if bt379.2.2.2.2.isNone = true then ((piece_Write.f kj2 bt379.1 bt379.2.1 bt379.2.2.1 bt379.2.2.2.1).bind fun bt388 => (if bt388.2.isNone = true then ((shutterref01_Same.f kj2 bt388.1 l1).bind fun t393 => (some t393)) else (none))) else ((shutterref22_Same.f kj2 bt379.1 bt379.2.1 bt379.2.2.1 bt379.2.2.2.1 0 0 false ([] : List Int)).bind fun t394 => (some t394)))))) = some r := by rw [if_neg (show ¬ (false = true) by decide)] at H; exact H
    clear H
    have H := H1
    clear H1
    replace H := Option.bind_eq_some_iff.mp H
    obtain ⟨⟨t348, t351⟩, A160, H⟩ := H
    replace H : (if t351.isNone = true then ((piece_Read.f kj2 t348).bind fun bt353 => (if bt353.2.2.2.2.isNone = true then ((shutterref22_Same.f kj2 bt353.1 bt353.2.1 bt353.2.2.1 bt353.2.2.2.1 a0_0 a0_1 a0_2 l0_3).bind fun t362 => (if t362 = true then ((piece_Read.f kj2 l1).bind fun bt363 => (if bt363.2.2.2.2.isNone = true then ((piece_Write.f kj2 bt363.1 bt363.2.1 bt363.2.2.1 bt363.2.2.2.1).bind fun bt372 => (if bt372.2.isNone = true then ((shutterref01_Same.f kj2 bt372.1 l1).bind fun t377 => (some t377)) else (none))) else ((shutterref22_Same.f kj2 bt363.1 bt363.2.1 bt363.2.2.1 bt363.2.2.2.1 0 0 false ([] : List Int)).bind fun t378 => (some t378)))) else (none))) else (none))) else ((piece_Read.f kj2 l1).bind fun bt379 => (if bt379.2.2.2.2.isNone = true then ((piece_Write.f kj2 bt379.1 bt379.2.1 bt379.2.2.1 bt379.2.2.2.1).bind fun bt388 => (if bt388.2.isNone = true then ((shutterref01_Same.f kj2 bt388.1 l1).bind fun t393 => (some t393)) else (none))) else ((shutterref22_Same.f kj2 bt379.1 bt379.2.1 bt379.2.2.1 bt379.2.2.2.1 0 0 false ([] : List Int)).bind fun t394 => (some t394))))) = some r := H
    have A16 := Aside0.mk A160
    clear A160
    rcases t351 with _ | q352
    ·have H1 : ((piece_Read.f kj2 t348).bind fun bt353 => (if bt353.2.2.2.2.isNone = true then ((shutterref22_Same.f kj2 bt353.1 bt353.2.1 bt353.2.2.1 bt353.2.2.2.1 a0_0 a0_1 a0_2 l0_3).bind fun t362 => (if t362 = true then ((piece_Read.f kj2 l1).bind fun bt363 => (if bt363.2.2.2.2.isNone = true then ((piece_Write.f kj2 bt363.1 bt363.2.1 bt363.2.2.1 bt363.2.2.2.1).bind fun bt372 => (if bt372.2.isNone = true then ((shutterref01_Same.f kj2 bt372.1 l1).bind fun t377 => (some t377)) else (none))) else ((shutterref22_Same.f kj2 bt363.1 bt363.2.1 bt363.2.2.1 bt363.2.2.2.1 0 0 false ([] : List Int)).bind fun t378 => (some t378)))) else (none))) else (none))) = some r := by rw [if_pos (show (none : Option Int).isNone = true by rfl)] at H; exact H
     clear H
     have H := H1
     clear H1
     try simp only [errW_none, errW_some]
     replace H := Option.bind_eq_some_iff.mp H
     obtain ⟨⟨t353, t354, t355, t356, t359⟩, A170, H⟩ := H
     replace H : (if t359.isNone = true then ((shutterref22_Same.f kj2 t353 t354 t355 t356 a0_0 a0_1 a0_2 l0_3).bind fun t362 => (if t362 = true then ((piece_Read.f kj2 l1).bind fun bt363 => (if bt363.2.2.2.2.isNone = true then ((piece_Write.f kj2 bt363.1 bt363.2.1 bt363.2.2.1 bt363.2.2.2.1).bind fun bt372 => (if bt372.2.isNone = true then ((shutterref01_Same.f kj2 bt372.1 l1).bind fun t377 => (some t377)) else (none))) else ((shutterref22_Same.f kj2 bt363.1 bt363.2.1 bt363.2.2.1 bt363.2.2.2.1 0 0 false ([] : List Int)).bind fun t378 => (some t378)))) else (none))) else (none)) = some r := H
     have A17 := Aside0.mk A170
     clear A170
     rcases t359 with _ | q361
     ·have H1 : ((shutterref22_Same.f kj2 t353 t354 t355 t356 a0_0 a0_1 a0_2 l0_3).bind fun t362 => (if t362 = true then ((piece_Read.f kj2 l1).bind fun bt363 => (if bt363.2.2.2.2.isNone = true then ((piece_Write.f kj2 bt363.1 bt363.2.1 bt363.2.2.1 bt363.2.2.2.1).bind fun bt372 => (if bt372.2.isNone = true then ((shutterref01_Same.f kj2 bt372.1 l1).bind fun t377 => (some t377)) else (none))) else ((shutterref22_Same.f kj2 bt363.1 bt363.2.1 bt363.2.2.1 bt363.2.2.2.1 0 0 false ([] : List Int)).bind fun t378 => (some t378)))) else (none))) = some r := by rw [if_pos (show (none : Option Int).isNone = true by rfl)] at H; exact H
      clear H
      have H := H1
      clear H1
      try simp only [errW_none, errW_some]
      replace H := Option.bind_eq_some_iff.mp H
      obtain ⟨t362, A180, H⟩ := H
      replace H : (if t362 = true then ((piece_Read.f kj2 l1).bind fun bt363 => (if bt363.2.2.2.2.isNone = true then ((piece_Write.f kj2 bt363.1 bt363.2.1 bt363.2.2.1 bt363.2.2.2.1).bind fun bt372 => (if bt372.2.isNone = true then ((shutterref01_Same.f kj2 bt372.1 l1).bind fun t377 => (some t377)) else (none))) else ((shutterref22_Same.f kj2 bt363.1 bt363.2.1 bt363.2.2.1 bt363.2.2.2.1 0 0 false ([] : List Int)).bind fun t378 => (some t378)))) else (none)) = some r := H
      have A18 := Aside0.mk A180
      clear A180
      by_cases c19 : t362 = true
      ·subst c19
       have H1 : ((piece_Read.f kj2 l1).bind fun bt363 => (if bt363.2.2.2.2.isNone = true then ((piece_Write.f kj2 bt363.1 bt363.2.1 bt363.2.2.1 bt363.2.2.2.1).bind fun bt372 => (if bt372.2.isNone = true then ((shutterref01_Same.f kj2 bt372.1 l1).bind fun t377 => (some t377)) else (none))) else ((shutterref22_Same.f kj2 bt363.1 bt363.2.1 bt363.2.2.1 bt363.2.2.2.1 0 0 false ([] : List Int)).bind fun t378 => (some t378)))) = some r := by rw [if_pos rfl] at H; exact H
       clear H
       have H := H1
       clear H1
       replace H := Option.bind_eq_some_iff.mp H
       obtain ⟨⟨t363, t364, t365, t366, t369⟩, A200, H⟩ := H
       replace H : (if t369.isNone = true then ((piece_Write.f kj2 t363 t364 t365 t366).bind fun bt372 => (if bt372.2.isNone = true then ((shutterref01_Same.f kj2 bt372.1 l1).bind fun t377 => (some t377)) else (none))) else ((shutterref22_Same.f kj2 t363 t364 t365 t366 0 0 false ([] : List Int)).bind fun t378 => (some t378))) = some r := H
       have A20 := Aside0.mk A200
       clear A200
       rcases t369 with _ | q371
       ·have H1 : ((piece_Write.f kj2 t363 t364 t365 t366).bind fun bt372 => (if bt372.2.isNone = true then ((shutterref01_Same.f kj2 bt372.1 l1).bind fun t377 => (some t377)) else (none))) = some r := by rw [if_pos (show (none : Option Int).isNone = true by rfl)] at H; exact H
        clear H
        have H := H1
        clear H1
        try simp only [errW_none, errW_some]
        replace H := Option.bind_eq_some_iff.mp H
        obtain ⟨⟨t372, t375⟩, A210, H⟩ := H
        replace H : (if t375.isNone = true then ((shutterref01_Same.f kj2 t372 l1).bind fun t377 => (some t377)) else (none)) = some r := H
        have A21 := Aside0.mk A210
        clear A210
        rcases t375 with _ | q376
        ·have H1 : ((shutterref01_Same.f kj2 t372 l1).bind fun t377 => (some t377)) = some r := by rw [if_pos (show (none : Option Int).isNone = true by rfl)] at H; exact H
         clear H
         have H := H1
         clear H1
         try simp only [errW_none, errW_some]
         replace H := Option.bind_eq_some_iff.mp H
         obtain ⟨t377, A220, H⟩ := H
         replace H : (some t377) = some r := H
         have A22 := Aside0.mk A220
         clear A220
         obtain rfl := Option.some.inj H
         have hcz23_0 : wc.cell? ⟨gb345, 0, none⟩ = some (.int .i64 a0_0) := (blk_cell BK345.out 0).trans rfl
         have hcz23_1 : wc.cell? ⟨gb345, 1, none⟩ = some (.int .i64 a0_1) := (blk_cell BK345.out 1).trans rfl
         have hcz23_2 : wc.cell? ⟨gb345, 2, none⟩ = some (.bool a0_2) := (blk_cell BK345.out 2).trans rfl
         have hcz23_3 : wc.cell? ⟨gb345, 3, none⟩ = some (.slice A0_3 l0_3.length c0_3) := (blk_cell BK345.out 3).trans rfl
         have hfz23_0 := blk_frozen BK345.out 0
         have hfz23_1 := blk_frozen BK345.out 1
         have hfz23_2 := blk_frozen BK345.out 2
         have hfz23_3 := blk_frozen BK345.out 3
         go_wp2_with (first | ((with_reducible refine gate_callee (f := 14) rfl ?_); refine goesL_ (some 29) rfl rfl Tryd.func14 (by kernel_rfl) rfl #[.agg #[.int .i64 a0_0, .int .i64 a0_1, .bool a0_2, .slice A0_3 l0_3.length c0_3]] rfl (by (try simp only [List.map_toArray, List.map_cons, List.map_nil]); first | done | rfl | (simp only [List.length_drop, List.length_take]; rfl)) ?_; (with_reducible refine (piece_Write.calls kj2 a0_0 a0_1 a0_2 (fun k_ => k_ < w.heap.size) _ _ l0_3 t348 none _ ?side1 A16.out).mono ?_); (case side1 => exact Kd.V_mk HC0_3.out (Kd.F_below (Kd.C_F (Kd.heap_int .u8) HR0_3.out) (by repeat (first | (with_reducible first | exact HB.out | apply below_alloc | apply pw_below_drewN | apply below_drew1 | refine below_set ?_ GE345.out) | exact HB.out)))); rintro e w24 ⟨v349, rfl, ho0, hb⟩; refine ⟨_, rfl, ?_⟩; have n0_ := Aside0.mk (Kd.R_lower (Kd.R_mono (ok' := fun k_ => True) ho0 (fun _ hk_ => trivial)) (below_size (by repeat (first | (with_reducible first | exact HB.out | apply below_alloc | apply pw_below_drewN | apply below_drew1 | refine below_set ?_ GE345.out) | exact HB.out)))); have n1_ := Aside0.mk (blk_below (g := gb345) (o := .cells #[.int .i64 a0_0, .int .i64 a0_1, .bool a0_2, .slice A0_3 l0_3.length c0_3] 34 (0, 0)) (by (with_reducible repeat (first | refine blk_drewN ?_ _ | refine blk_drew ?_ | refine blk_alloc ?_ _)); exact BK345.out) hb); have n2_ := Aside0.mk (below_step (by repeat (first | (with_reducible first | exact HB.out | apply below_alloc | apply pw_below_drewN | apply below_drew1 | refine below_set ?_ GE345.out) | exact HB.out)) hb); clear BK345; clear HB; have HO350 := n0_; have BK345 := n1_; have HB := n2_; clear n0_ n1_ n2_; (try clear hb); (try clear hb2); (try clear hk); (try clear hi); (try clear ho0); (try simp only [errW_none, errW_some]); obtain ⟨Ao25, co25, eo25⟩ := Kd.R_slice HO350.out; subst eo25) | ((with_reducible refine gate_callee (f := 18) rfl ?_); refine goesL_ (some 36) rfl rfl Tryd.func18 (by kernel_rfl) rfl #[.slice Ao25 t348.length co25] rfl (by (try simp only [List.map_toArray, List.map_cons, List.map_nil]); first | done | rfl | (simp only [List.length_drop, List.length_take]; rfl)) ?_; (with_reducible refine (piece_Read.calls kj2 _ _ t348 t353 t354 t355 t356 none _ ?side1 ?side2 A17.out).mono ?_); (case side1 => repeat (first | exact (Kd.R_reads' HO350.out).2.2 | (with_reducible refine Kd.C_alloc ?_ _) | (with_reducible refine Kd.C_drewN ?_ _) | (with_reducible refine Kd.C_drew ?_))); (case side2 => exact (Kd.R_reads' HO350.out).2.1); rintro e w26 ⟨v357, rfl, ho0, hb⟩; refine ⟨_, rfl, ?_⟩; have n0_ := Aside0.mk (Kd.R_elder' (by (with_reducible repeat (first | apply Kd.R_alloc | apply Kd.R_drewN | apply Kd.R_drew)); exact HO350.out) (Kd.R_base ho0) hb); have n1_ := Aside0.mk (Kd.R_lower (Kd.R_new' ho0 (Kd.R_lt (by (with_reducible repeat (first | apply Kd.R_alloc | apply Kd.R_drewN | apply Kd.R_drew)); exact HO350.out))) (below_size (by repeat (first | (with_reducible first | exact HB.out | apply below_alloc | apply pw_below_drewN | apply below_drew1 | refine below_set ?_ GE345.out) | exact HB.out)))); have n2_ := Aside0.mk (blk_below (g := gb345) (o := .cells #[.int .i64 a0_0, .int .i64 a0_1, .bool a0_2, .slice A0_3 l0_3.length c0_3] 34 (0, 0)) (by (with_reducible repeat (first | refine blk_drewN ?_ _ | refine blk_drew ?_ | refine blk_alloc ?_ _)); exact BK345.out) hb); have n3_ := Aside0.mk (below_step (by repeat (first | (with_reducible first | exact HB.out | apply below_alloc | apply pw_below_drewN | apply below_drew1 | refine below_set ?_ GE345.out) | exact HB.out)) hb); clear HO350; clear BK345; clear HB; have HO350 := n0_; have HO358 := n1_; have BK345 := n2_; have HB := n3_; clear n0_ n1_ n2_ n3_; (try clear hb); (try clear hb2); (try clear hk); (try clear hi); (try clear ho0); (try simp only [errW_none, errW_some])) | ((with_reducible refine gate_dst (N := 7) rfl ?_); (try (refine gate_guard (by rfl) ?_; dsimp only)); refine box_event ?hg (N := 7) ?hd (cs := #[.int .i64 0, .int .i64 0, .bool false, .slice none 0 0]) (t := 34) ?hr ?_; (case hd => rfl); (case hg => rfl); (case hr => first | (go_simp; done) | (go_simp; rfl)); intro gb360 hg w27 hbox hb; have n0_ := Aside0.mk (Kd.R_below (by (with_reducible repeat (first | apply Kd.R_alloc | apply Kd.R_drewN | apply Kd.R_drew)); exact HO350.out) hb); have n1_ := Aside0.mk (Kd.R_below (by (with_reducible repeat (first | apply Kd.R_alloc | apply Kd.R_drewN | apply Kd.R_drew)); exact HO358.out) hb); have n2_ := Aside0.mk (blk_below (g := gb345) (o := .cells #[.int .i64 a0_0, .int .i64 a0_1, .bool a0_2, .slice A0_3 l0_3.length c0_3] 34 (0, 0)) (by (with_reducible repeat (first | refine blk_drewN ?_ _ | refine blk_drew ?_ | refine blk_alloc ?_ _)); exact BK345.out) hb); have n3_ := Aside0.mk (below_step (by repeat (first | (with_reducible first | exact HB.out | apply below_alloc | apply pw_below_drewN | apply below_drew1 | refine below_set ?_ GE345.out) | exact HB.out)) hb); have n4_ := Aside0.mk (hbox); have n5_ := Aside0.mk ((by rw [hg]; exact (below_size (by repeat (first | (with_reducible first | exact HB.out | apply below_alloc | apply pw_below_drewN | apply below_drew1 | refine below_set ?_ GE345.out) | exact HB.out))) : w.heap.size ≤ gb360)); have n6_ := Aside0.mk ((by rw [hg]; exact (below_size (by repeat (first | (with_reducible first | exact HB.out | apply below_alloc | apply pw_below_drewN | apply below_drew1 | refine below_set ?_ GE345.out) | exact HB.out))) : w.heap.size ≤ gb360)); have n7_ := Aside0.mk ((by rw [hg]; exact Nat.ne_of_lt (blk_lt (g := gb345) (o := .cells #[.int .i64 a0_0, .int .i64 a0_1, .bool a0_2, .slice A0_3 l0_3.length c0_3] 34 (0, 0)) (by (with_reducible repeat (first | refine blk_drewN ?_ _ | refine blk_drew ?_ | refine blk_alloc ?_ _)); exact BK345.out)) : gb345 ≠ gb360)); have n8_ := Aside0.mk ((by rw [hg]; exact Nat.ne_of_gt (blk_lt (g := gb345) (o := .cells #[.int .i64 a0_0, .int .i64 a0_1, .bool a0_2, .slice A0_3 l0_3.length c0_3] 34 (0, 0)) (by (with_reducible repeat (first | refine blk_drewN ?_ _ | refine blk_drew ?_ | refine blk_alloc ?_ _)); exact BK345.out)) : gb360 ≠ gb345)); clear HO350; clear HO358; clear BK345; clear HB; have HO350 := n0_; have HO358 := n1_; have BK345 := n2_; have HB := n3_; have BK360 := n4_; have GW360 := n5_; have GE360 := n6_; have NB345_360 := n7_; have NB360_345 := n8_; clear n0_ n1_ n2_ n3_ n4_ n5_ n6_ n7_ n8_; clear hb hbox hg; have hnb28 := NB360_345.out; have hnc28 := NB345_360.out; have hcz29_0 : w27.cell? ⟨gb360, 0, none⟩ = some (.int .i64 0) := (blk_cell BK360.out 0).trans rfl; have hcz29_1 : w27.cell? ⟨gb360, 1, none⟩ = some (.int .i64 0) := (blk_cell BK360.out 1).trans rfl; have hcz29_2 : w27.cell? ⟨gb360, 2, none⟩ = some (.bool false) := (blk_cell BK360.out 2).trans rfl; have hcz29_3 : w27.cell? ⟨gb360, 3, none⟩ = some (.slice none 0 0) := (blk_cell BK360.out 3).trans rfl; have hfz29_0 := blk_frozen BK360.out 0; have hfz29_1 := blk_frozen BK360.out 1; have hfz29_2 := blk_frozen BK360.out 2; have hfz29_3 := blk_frozen BK360.out 3; obtain ⟨Ao30, co30, eo30⟩ := Kd.R_slice HO358.out; subst eo30; have hcz31_0 : w27.cell? ⟨gb345, 0, none⟩ = some (.int .i64 a0_0) := (blk_cell BK345.out 0).trans rfl; have hcz31_1 : w27.cell? ⟨gb345, 1, none⟩ = some (.int .i64 a0_1) := (blk_cell BK345.out 1).trans rfl; have hcz31_2 : w27.cell? ⟨gb345, 2, none⟩ = some (.bool a0_2) := (blk_cell BK345.out 2).trans rfl; have hcz31_3 : w27.cell? ⟨gb345, 3, none⟩ = some (.slice A0_3 l0_3.length c0_3) := (blk_cell BK345.out 3).trans rfl; have hfz31_0 := blk_frozen BK345.out 0; have hfz31_1 := blk_frozen BK345.out 1; have hfz31_2 := blk_frozen BK345.out 2; have hfz31_3 := blk_frozen BK345.out 3) | (go_at_call 20; (with_reducible refine (shutterref22_Same.calls kj2 t353 t354 t355 _ _ t356 a0_0 a0_1 a0_2 _ _ l0_3 true _ ?side1 ?side2 ?side3 ?side4 A18.out).mono ?_); (case side1 => refine (Kd.R_reads' (e := 5) (base := w.heap.size) (ok := fun k_ => (True ∧ some k_ ≠ (.slice Ao25 t348.length co25 : Value).ownBlock)) (n := t356.length) (c := co30) ?_).2.2; exact (by (with_reducible repeat (first | apply Kd.R_alloc | apply Kd.R_drewN | apply Kd.R_drew)); exact (Kd.R_mono (Kd.R_far (p := ⟨gb360, 3, none⟩) (Kd.R_far (p := ⟨gb360, 2, none⟩) (Kd.R_far (p := ⟨gb360, 1, none⟩) (Kd.R_far (p := ⟨gb360, 0, none⟩) (Kd.R_types HO358.out BK360.out (by decide)) (fun _ hk => hk.2) (.int .i64 t353)) (fun _ hk => hk.2) (.int .i64 t354)) (fun _ hk => hk.2) (.bool t355)) (fun _ hk => hk.2) (.slice Ao30 t356.length co30)) (fun _ h_ => h_.1)))); (case side2 => exact (Kd.R_reads' HO358.out).2.1); (case side3 => exact Kd.C_below HR0_3.out (by repeat (first | (with_reducible first | exact HB.out | apply below_alloc | apply pw_below_drewN | apply below_drew1 | refine below_set ?_ GE345.out | refine below_set ?_ GE360.out) | exact HB.out))); (case side4 => exact HC0_3.out); rintro e w32 ⟨rfl, hb⟩; have n0_ := Aside0.mk (Kd.R_below (by (with_reducible repeat (first | apply Kd.R_alloc | apply Kd.R_drewN | apply Kd.R_drew)); exact (Kd.R_mono (Kd.R_far (p := ⟨gb360, 3, none⟩) (Kd.R_far (p := ⟨gb360, 2, none⟩) (Kd.R_far (p := ⟨gb360, 1, none⟩) (Kd.R_far (p := ⟨gb360, 0, none⟩) (Kd.R_types HO350.out BK360.out (by decide)) (fun _ hk => hk.2) (.int .i64 t353)) (fun _ hk => hk.2) (.int .i64 t354)) (fun _ hk => hk.2) (.bool t355)) (fun _ hk => hk.2) (.slice Ao30 t356.length co30)) (fun _ h_ => h_.1))) hb); have n1_ := Aside0.mk (Kd.R_below (by (with_reducible repeat (first | apply Kd.R_alloc | apply Kd.R_drewN | apply Kd.R_drew)); exact (Kd.R_mono (Kd.R_far (p := ⟨gb360, 3, none⟩) (Kd.R_far (p := ⟨gb360, 2, none⟩) (Kd.R_far (p := ⟨gb360, 1, none⟩) (Kd.R_far (p := ⟨gb360, 0, none⟩) (Kd.R_types HO358.out BK360.out (by decide)) (fun _ hk => hk.2) (.int .i64 t353)) (fun _ hk => hk.2) (.int .i64 t354)) (fun _ hk => hk.2) (.bool t355)) (fun _ hk => hk.2) (.slice Ao30 t356.length co30)) (fun _ h_ => h_.1))) hb); have n2_ := Aside0.mk (blk_below (g := gb345) (o := .cells #[.int .i64 a0_0, .int .i64 a0_1, .bool a0_2, .slice A0_3 l0_3.length c0_3] 34 (0, 0)) (by (with_reducible repeat (first | refine blk_drewN ?_ _ | refine blk_drew ?_ | refine blk_alloc ?_ _)); refine blk_far ?_ NB345_360.out _; (with_reducible repeat (first | refine blk_drewN ?_ _ | refine blk_drew ?_ | refine blk_alloc ?_ _)); refine blk_far ?_ NB345_360.out _; (with_reducible repeat (first | refine blk_drewN ?_ _ | refine blk_drew ?_ | refine blk_alloc ?_ _)); refine blk_far ?_ NB345_360.out _; (with_reducible repeat (first | refine blk_drewN ?_ _ | refine blk_drew ?_ | refine blk_alloc ?_ _)); refine blk_far ?_ NB345_360.out _; (with_reducible repeat (first | refine blk_drewN ?_ _ | refine blk_drew ?_ | refine blk_alloc ?_ _)); exact BK345.out) hb); have n3_ := Aside0.mk (blk_below (g := gb360) (o := .cells #[.int .i64 t353, .int .i64 t354, .bool t355, .slice Ao30 t356.length co30] 34 (0, 0)) (by (with_reducible repeat (first | refine blk_drewN ?_ _ | refine blk_drew ?_ | refine blk_alloc ?_ _)); refine blk_put (cs := #[.int .i64 t353, .int .i64 t354, .bool t355, .slice none 0 0]) ?_ 3 _ rfl; (with_reducible repeat (first | refine blk_drewN ?_ _ | refine blk_drew ?_ | refine blk_alloc ?_ _)); refine blk_put (cs := #[.int .i64 t353, .int .i64 t354, .bool false, .slice none 0 0]) ?_ 2 _ rfl; (with_reducible repeat (first | refine blk_drewN ?_ _ | refine blk_drew ?_ | refine blk_alloc ?_ _)); refine blk_put (cs := #[.int .i64 t353, .int .i64 0, .bool false, .slice none 0 0]) ?_ 1 _ rfl; (with_reducible repeat (first | refine blk_drewN ?_ _ | refine blk_drew ?_ | refine blk_alloc ?_ _)); refine blk_put (cs := #[.int .i64 0, .int .i64 0, .bool false, .slice none 0 0]) ?_ 0 _ rfl; (with_reducible repeat (first | refine blk_drewN ?_ _ | refine blk_drew ?_ | refine blk_alloc ?_ _)); exact BK360.out) hb); have n4_ := Aside0.mk (below_step (by repeat (first | (with_reducible first | exact HB.out | apply below_alloc | apply pw_below_drewN | apply below_drew1 | refine below_set ?_ GE345.out | refine below_set ?_ GE360.out) | exact HB.out)) hb); clear HO350; clear HO358; clear BK345; clear BK360; clear HB; have HO350 := n0_; have HO358 := n1_; have BK345 := n2_; have BK360 := n3_; have HB := n4_; clear n0_ n1_ n2_ n3_ n4_; (try clear hb); (try clear hb2); (try clear hk); (try clear hi)) | ((with_reducible refine gate_callee (f := 18) rfl ?_); refine goesL_ (some 49) rfl rfl Tryd.func18 (by kernel_rfl) rfl #[.slice A1 l1.length c1] rfl (by (try simp only [List.map_toArray, List.map_cons, List.map_nil]); first | done | rfl | (simp only [List.length_drop, List.length_take]; rfl)) ?_; (with_reducible refine (piece_Read.calls kj2 _ _ l1 t363 t364 t365 t366 none _ ?side1 ?side2 A20.out).mono ?_); (case side1 => repeat (first | exact (Kd.C_below HR1.out HB.out) | (with_reducible refine Kd.C_alloc ?_ _) | (with_reducible refine Kd.C_drewN ?_ _) | (with_reducible refine Kd.C_drew ?_))); (case side2 => exact HC1.out); rintro e w33 ⟨v367, rfl, ho0, hb⟩; refine ⟨_, rfl, ?_⟩; have n0_ := Aside0.mk (Kd.R_elder' (by (with_reducible repeat (first | apply Kd.R_alloc | apply Kd.R_drewN | apply Kd.R_drew)); exact HO350.out) (Kd.R_base ho0) hb); have n1_ := Aside0.mk (Kd.R_elder' (by (with_reducible repeat (first | apply Kd.R_alloc | apply Kd.R_drewN | apply Kd.R_drew)); exact HO358.out) (Kd.R_base ho0) hb); have n2_ := Aside0.mk (Kd.R_lower (Kd.R_new' (Kd.R_new' ho0 (Kd.R_lt (by (with_reducible repeat (first | apply Kd.R_alloc | apply Kd.R_drewN | apply Kd.R_drew)); exact HO350.out))) (Kd.R_lt (by (with_reducible repeat (first | apply Kd.R_alloc | apply Kd.R_drewN | apply Kd.R_drew)); exact HO358.out))) (below_size (by repeat (first | (with_reducible first | exact HB.out | apply below_alloc | apply pw_below_drewN | apply below_drew1 | refine below_set ?_ GE345.out | refine below_set ?_ GE360.out) | exact HB.out)))); have n3_ := Aside0.mk (blk_below (g := gb345) (o := .cells #[.int .i64 a0_0, .int .i64 a0_1, .bool a0_2, .slice A0_3 l0_3.length c0_3] 34 (0, 0)) (by (with_reducible repeat (first | refine blk_drewN ?_ _ | refine blk_drew ?_ | refine blk_alloc ?_ _)); exact BK345.out) hb); have n4_ := Aside0.mk (blk_below (g := gb360) (o := .cells #[.int .i64 t353, .int .i64 t354, .bool t355, .slice Ao30 t356.length co30] 34 (0, 0)) (by (with_reducible repeat (first | refine blk_drewN ?_ _ | refine blk_drew ?_ | refine blk_alloc ?_ _)); exact BK360.out) hb); have n5_ := Aside0.mk (below_step (by repeat (first | (with_reducible first | exact HB.out | apply below_alloc | apply pw_below_drewN | apply below_drew1 | refine below_set ?_ GE345.out | refine below_set ?_ GE360.out) | exact HB.out)) hb); clear HO350; clear HO358; clear BK345; clear BK360; clear HB; have HO350 := n0_; have HO358 := n1_; have HO368 := n2_; have BK345 := n3_; have BK360 := n4_; have HB := n5_; clear n0_ n1_ n2_ n3_ n4_ n5_; (try clear hb); (try clear hb2); (try clear hk); (try clear hi); (try clear ho0); (try simp only [errW_none, errW_some])) | ((with_reducible refine gate_dst (N := 9) rfl ?_); (try (refine gate_guard (by rfl) ?_; dsimp only)); refine box_event ?hg (N := 9) ?hd (cs := #[.int .i64 0, .int .i64 0, .bool false, .slice none 0 0]) (t := 34) ?hr ?_; (case hd => rfl); (case hg => rfl); (case hr => first | (go_simp; done) | (go_simp; rfl)); intro gb370 hg w34 hbox hb; have n0_ := Aside0.mk (Kd.R_below (by (with_reducible repeat (first | apply Kd.R_alloc | apply Kd.R_drewN | apply Kd.R_drew)); exact HO350.out) hb); have n1_ := Aside0.mk (Kd.R_below (by (with_reducible repeat (first | apply Kd.R_alloc | apply Kd.R_drewN | apply Kd.R_drew)); exact HO358.out) hb); have n2_ := Aside0.mk (Kd.R_below (by (with_reducible repeat (first | apply Kd.R_alloc | apply Kd.R_drewN | apply Kd.R_drew)); exact HO368.out) hb); have n3_ := Aside0.mk (blk_below (g := gb345) (o := .cells #[.int .i64 a0_0, .int .i64 a0_1, .bool a0_2, .slice A0_3 l0_3.length c0_3] 34 (0, 0)) (by (with_reducible repeat (first | refine blk_drewN ?_ _ | refine blk_drew ?_ | refine blk_alloc ?_ _)); exact BK345.out) hb); have n4_ := Aside0.mk (blk_below (g := gb360) (o := .cells #[.int .i64 t353, .int .i64 t354, .bool t355, .slice Ao30 t356.length co30] 34 (0, 0)) (by (with_reducible repeat (first | refine blk_drewN ?_ _ | refine blk_drew ?_ | refine blk_alloc ?_ _)); exact BK360.out) hb); have n5_ := Aside0.mk (below_step (by repeat (first | (with_reducible first | exact HB.out | apply below_alloc | apply pw_below_drewN | apply below_drew1 | refine below_set ?_ GE345.out | refine below_set ?_ GE360.out) | exact HB.out)) hb); have n6_ := Aside0.mk (hbox); have n7_ := Aside0.mk ((by rw [hg]; exact (below_size (by repeat (first | (with_reducible first | exact HB.out | apply below_alloc | apply pw_below_drewN | apply below_drew1 | refine below_set ?_ GE345.out | refine below_set ?_ GE360.out) | exact HB.out))) : w.heap.size ≤ gb370)); have n8_ := Aside0.mk ((by rw [hg]; exact (below_size (by repeat (first | (with_reducible first | exact HB.out | apply below_alloc | apply pw_below_drewN | apply below_drew1 | refine below_set ?_ GE345.out | refine below_set ?_ GE360.out) | exact HB.out))) : w.heap.size ≤ gb370)); have n9_ := Aside0.mk ((by rw [hg]; exact Nat.ne_of_lt (blk_lt (g := gb345) (o := .cells #[.int .i64 a0_0, .int .i64 a0_1, .bool a0_2, .slice A0_3 l0_3.length c0_3] 34 (0, 0)) (by (with_reducible repeat (first | refine blk_drewN ?_ _ | refine blk_drew ?_ | refine blk_alloc ?_ _)); exact BK345.out)) : gb345 ≠ gb370)); have n10_ := Aside0.mk ((by rw [hg]; exact Nat.ne_of_gt (blk_lt (g := gb345) (o := .cells #[.int .i64 a0_0, .int .i64 a0_1, .bool a0_2, .slice A0_3 l0_3.length c0_3] 34 (0, 0)) (by (with_reducible repeat (first | refine blk_drewN ?_ _ | refine blk_drew ?_ | refine blk_alloc ?_ _)); exact BK345.out)) : gb370 ≠ gb345)); have n11_ := Aside0.mk ((by rw [hg]; exact Nat.ne_of_lt (blk_lt (g := gb360) (o := .cells #[.int .i64 t353, .int .i64 t354, .bool t355, .slice Ao30 t356.length co30] 34 (0, 0)) (by (with_reducible repeat (first | refine blk_drewN ?_ _ | refine blk_drew ?_ | refine blk_alloc ?_ _)); exact BK360.out)) : gb360 ≠ gb370)); have n12_ := Aside0.mk ((by rw [hg]; exact Nat.ne_of_gt (blk_lt (g := gb360) (o := .cells #[.int .i64 t353, .int .i64 t354, .bool t355, .slice Ao30 t356.length co30] 34 (0, 0)) (by (with_reducible repeat (first | refine blk_drewN ?_ _ | refine blk_drew ?_ | refine blk_alloc ?_ _)); exact BK360.out)) : gb370 ≠ gb360)); clear HO350; clear HO358; clear HO368; clear BK345; clear BK360; clear HB; have HO350 := n0_; have HO358 := n1_; have HO368 := n2_; have BK345 := n3_; have BK360 := n4_; have HB := n5_; have BK370 := n6_; have GW370 := n7_; have GE370 := n8_; have NB345_370 := n9_; have NB370_345 := n10_; have NB360_370 := n11_; have NB370_360 := n12_; clear n0_ n1_ n2_ n3_ n4_ n5_ n6_ n7_ n8_ n9_ n10_ n11_ n12_; clear hb hbox hg; have hnb35 := NB370_345.out; have hnc35 := NB345_370.out; have hnb36 := NB370_360.out; have hnc36 := NB360_370.out; have hcz37_0 : w34.cell? ⟨gb370, 0, none⟩ = some (.int .i64 0) := (blk_cell BK370.out 0).trans rfl; have hcz37_1 : w34.cell? ⟨gb370, 1, none⟩ = some (.int .i64 0) := (blk_cell BK370.out 1).trans rfl; have hcz37_2 : w34.cell? ⟨gb370, 2, none⟩ = some (.bool false) := (blk_cell BK370.out 2).trans rfl; have hcz37_3 : w34.cell? ⟨gb370, 3, none⟩ = some (.slice none 0 0) := (blk_cell BK370.out 3).trans rfl; have hfz37_0 := blk_frozen BK370.out 0; have hfz37_1 := blk_frozen BK370.out 1; have hfz37_2 := blk_frozen BK370.out 2; have hfz37_3 := blk_frozen BK370.out 3; obtain ⟨Ao38, co38, eo38⟩ := Kd.R_slice HO368.out; subst eo38) | ((with_reducible refine gate_store (t := 34) (p := 9) rfl ?_); refine store_event (t := 34) (p := 9) (v := ?vo_w39) (w1 := ((((w34.setCell ⟨gb370, 0, none⟩ (.int .i64 t363)).setCell ⟨gb370, 1, none⟩ (.int .i64 t364)).setCell ⟨gb370, 2, none⟩ (.bool t365)).setCell ⟨gb370, 3, none⟩ (.slice Ao38 t366.length co38))) ?hg ?ho ?hn ?hr ?_; (case ho => rfl); (case hg => rfl); (case hn => rfl); (case hr => first | (go_simp; done) | (go_simp; rfl)); intro w39 hw; have n0_ : Aside0 (Kd.R (Kd.int .u8) 5 w39 w.heap.size (fun k_ => some k_ ≠ (.slice Ao30 t356.length co30 : Value).ownBlock ∧ some k_ ≠ (.slice Ao38 t366.length co38 : Value).ownBlock) (.slice Ao25 t348.length co25) t348) := ⟨(by rw [hw]; exact (by (with_reducible repeat (first | apply Kd.R_alloc | apply Kd.R_drewN | apply Kd.R_drew)); exact Kd.R_mono (Kd.R_far (p := ⟨gb370, 3, none⟩) (Kd.R_far (p := ⟨gb370, 2, none⟩) (Kd.R_far (p := ⟨gb370, 1, none⟩) (Kd.R_far (p := ⟨gb370, 0, none⟩) (Kd.R_types HO350.out BK370.out (by decide)) (fun _ hk => hk.2) (.int .i64 t363)) (fun _ hk => hk.2) (.int .i64 t364)) (fun _ hk => hk.2) (.bool t365)) (fun _ hk => hk.2) (.slice Ao38 t366.length co38)) (fun _ hk => ⟨hk.1.1.2, hk.1.2⟩)))⟩; have n1_ : Aside0 (Kd.R (Kd.int .u8) 5 w39 w.heap.size (fun k_ => some k_ ≠ (.slice Ao25 t348.length co25 : Value).ownBlock ∧ some k_ ≠ (.slice Ao38 t366.length co38 : Value).ownBlock) (.slice Ao30 t356.length co30) t356) := ⟨(by rw [hw]; exact (by (with_reducible repeat (first | apply Kd.R_alloc | apply Kd.R_drewN | apply Kd.R_drew)); exact Kd.R_mono (Kd.R_far (p := ⟨gb370, 3, none⟩) (Kd.R_far (p := ⟨gb370, 2, none⟩) (Kd.R_far (p := ⟨gb370, 1, none⟩) (Kd.R_far (p := ⟨gb370, 0, none⟩) (Kd.R_types HO358.out BK370.out (by decide)) (fun _ hk => hk.2) (.int .i64 t363)) (fun _ hk => hk.2) (.int .i64 t364)) (fun _ hk => hk.2) (.bool t365)) (fun _ hk => hk.2) (.slice Ao38 t366.length co38)) (fun _ hk => ⟨hk.1.1.2, hk.1.2⟩)))⟩; have n2_ : Aside0 (Kd.R (Kd.int .u8) 5 w39 w.heap.size (fun k_ => some k_ ≠ (.slice Ao25 t348.length co25 : Value).ownBlock ∧ some k_ ≠ (.slice Ao30 t356.length co30 : Value).ownBlock) (.slice Ao38 t366.length co38) t366) := ⟨(by rw [hw]; exact (by (with_reducible repeat (first | apply Kd.R_alloc | apply Kd.R_drewN | apply Kd.R_drew)); exact Kd.R_mono (Kd.R_far (p := ⟨gb370, 3, none⟩) (Kd.R_far (p := ⟨gb370, 2, none⟩) (Kd.R_far (p := ⟨gb370, 1, none⟩) (Kd.R_far (p := ⟨gb370, 0, none⟩) (Kd.R_types HO368.out BK370.out (by decide)) (fun _ hk => hk.2) (.int .i64 t363)) (fun _ hk => hk.2) (.int .i64 t364)) (fun _ hk => hk.2) (.bool t365)) (fun _ hk => hk.2) (.slice Ao38 t366.length co38)) (fun _ hk => ⟨hk.1.1.2, hk.1.2⟩)))⟩; have n3_ : Aside0 (w39.heap[gb345]? = some (.cells #[.int .i64 a0_0, .int .i64 a0_1, .bool a0_2, .slice A0_3 l0_3.length c0_3] 34 (0, 0))) := ⟨(by rw [hw]; exact (by (with_reducible repeat (first | refine blk_drewN ?_ _ | refine blk_drew ?_ | refine blk_alloc ?_ _)); refine blk_far ?_ NB345_370.out _; (with_reducible repeat (first | refine blk_drewN ?_ _ | refine blk_drew ?_ | refine blk_alloc ?_ _)); refine blk_far ?_ NB345_370.out _; (with_reducible repeat (first | refine blk_drewN ?_ _ | refine blk_drew ?_ | refine blk_alloc ?_ _)); refine blk_far ?_ NB345_370.out _; (with_reducible repeat (first | refine blk_drewN ?_ _ | refine blk_drew ?_ | refine blk_alloc ?_ _)); refine blk_far ?_ NB345_370.out _; (with_reducible repeat (first | refine blk_drewN ?_ _ | refine blk_drew ?_ | refine blk_alloc ?_ _)); exact BK345.out))⟩; have n4_ : Aside0 (w39.heap[gb360]? = some (.cells #[.int .i64 t353, .int .i64 t354, .bool t355, .slice Ao30 t356.length co30] 34 (0, 0))) := ⟨(by rw [hw]; exact (by (with_reducible repeat (first | refine blk_drewN ?_ _ | refine blk_drew ?_ | refine blk_alloc ?_ _)); refine blk_far ?_ NB360_370.out _; (with_reducible repeat (first | refine blk_drewN ?_ _ | refine blk_drew ?_ | refine blk_alloc ?_ _)); refine blk_far ?_ NB360_370.out _; (with_reducible repeat (first | refine blk_drewN ?_ _ | refine blk_drew ?_ | refine blk_alloc ?_ _)); refine blk_far ?_ NB360_370.out _; (with_reducible repeat (first | refine blk_drewN ?_ _ | refine blk_drew ?_ | refine blk_alloc ?_ _)); refine blk_far ?_ NB360_370.out _; (with_reducible repeat (first | refine blk_drewN ?_ _ | refine blk_drew ?_ | refine blk_alloc ?_ _)); exact BK360.out))⟩; have n5_ : Aside0 (w39.heap[gb370]? = some (.cells #[.int .i64 t363, .int .i64 t364, .bool t365, .slice Ao38 t366.length co38] 34 (0, 0))) := ⟨(by rw [hw]; exact (by (with_reducible repeat (first | refine blk_drewN ?_ _ | refine blk_drew ?_ | refine blk_alloc ?_ _)); refine blk_put (cs := #[.int .i64 t363, .int .i64 t364, .bool t365, .slice none 0 0]) ?_ 3 _ rfl; (with_reducible repeat (first | refine blk_drewN ?_ _ | refine blk_drew ?_ | refine blk_alloc ?_ _)); refine blk_put (cs := #[.int .i64 t363, .int .i64 t364, .bool false, .slice none 0 0]) ?_ 2 _ rfl; (with_reducible repeat (first | refine blk_drewN ?_ _ | refine blk_drew ?_ | refine blk_alloc ?_ _)); refine blk_put (cs := #[.int .i64 t363, .int .i64 0, .bool false, .slice none 0 0]) ?_ 1 _ rfl; (with_reducible repeat (first | refine blk_drewN ?_ _ | refine blk_drew ?_ | refine blk_alloc ?_ _)); refine blk_put (cs := #[.int .i64 0, .int .i64 0, .bool false, .slice none 0 0]) ?_ 0 _ rfl; (with_reducible repeat (first | refine blk_drewN ?_ _ | refine blk_drew ?_ | refine blk_alloc ?_ _)); exact BK370.out))⟩; have n6_ : Aside0 (Below w.heap.size w w39) := ⟨(by rw [hw]; exact (by repeat (first | (with_reducible first | exact HB.out | apply below_alloc | apply pw_below_drewN | apply below_drew1 | refine below_set ?_ GE345.out | refine below_set ?_ GE360.out | refine below_set ?_ GE370.out) | exact HB.out)))⟩; clear hw; clear HO350; clear HO358; clear HO368; clear BK345; clear BK360; clear BK370; clear HB; have HO350 := n0_; have HO358 := n1_; have HO368 := n2_; have BK345 := n3_; have BK360 := n4_; have BK370 := n5_; have HB := n6_; clear n0_ n1_ n2_ n3_ n4_ n5_ n6_; have hcz40_0 : w39.cell? ⟨gb370, 0, none⟩ = some (.int .i64 t363) := (blk_cell BK370.out 0).trans rfl; have hcz40_1 : w39.cell? ⟨gb370, 1, none⟩ = some (.int .i64 t364) := (blk_cell BK370.out 1).trans rfl; have hcz40_2 : w39.cell? ⟨gb370, 2, none⟩ = some (.bool t365) := (blk_cell BK370.out 2).trans rfl; have hcz40_3 : w39.cell? ⟨gb370, 3, none⟩ = some (.slice Ao38 t366.length co38) := (blk_cell BK370.out 3).trans rfl; have hfz40_0 := blk_frozen BK370.out 0; have hfz40_1 := blk_frozen BK370.out 1; have hfz40_2 := blk_frozen BK370.out 2; have hfz40_3 := blk_frozen BK370.out 3) | ((with_reducible refine gate_callee (f := 14) rfl ?_); refine goesL_ (some 59) rfl rfl Tryd.func14 (by kernel_rfl) rfl #[.agg #[.int .i64 t363, .int .i64 t364, .bool t365, .slice Ao38 t366.length co38]] rfl (by (try simp only [List.map_toArray, List.map_cons, List.map_nil]); first | done | rfl | (simp only [List.length_drop, List.length_take]; rfl)) ?_; (with_reducible refine (piece_Write.calls kj2 t363 t364 t365 (fun k_ => some k_ = (.slice Ao38 t366.length co38 : Value).ownBlock) _ _ t366 t372 none _ ?side1 A21.out).mono ?_); (case side1 => exact Kd.R_V (Kd.R_tight rfl (Kd.R_types (Kd.R_types (Kd.R_types (HO368.out) BK345.out (by decide)) BK360.out (by decide)) BK370.out (by decide)))); rintro e w41 ⟨v373, rfl, ho0, hb⟩; refine ⟨_, rfl, ?_⟩; have n0_ := Aside0.mk (Kd.R_elder' (by (with_reducible repeat (first | apply Kd.R_alloc | apply Kd.R_drewN | apply Kd.R_drew)); exact HO350.out) (Kd.R_base ho0) hb); have n1_ := Aside0.mk (Kd.R_elder' (by (with_reducible repeat (first | apply Kd.R_alloc | apply Kd.R_drewN | apply Kd.R_drew)); exact HO358.out) (Kd.R_base ho0) hb); have n2_ := Aside0.mk (Kd.R_elder' (by (with_reducible repeat (first | apply Kd.R_alloc | apply Kd.R_drewN | apply Kd.R_drew)); exact HO368.out) (Kd.R_base ho0) hb); have n3_ := Aside0.mk (Kd.R_lower (Kd.R_new' (Kd.R_new' (Kd.R_new' (Kd.R_mono (ok' := fun k_ => True) ho0 (fun _ hk_ => trivial)) (Kd.R_lt (by (with_reducible repeat (first | apply Kd.R_alloc | apply Kd.R_drewN | apply Kd.R_drew)); exact HO350.out))) (Kd.R_lt (by (with_reducible repeat (first | apply Kd.R_alloc | apply Kd.R_drewN | apply Kd.R_drew)); exact HO358.out))) (Kd.R_lt (by (with_reducible repeat (first | apply Kd.R_alloc | apply Kd.R_drewN | apply Kd.R_drew)); exact HO368.out))) (below_size (by repeat (first | (with_reducible first | exact HB.out | apply below_alloc | apply pw_below_drewN | apply below_drew1 | refine below_set ?_ GE345.out | refine below_set ?_ GE360.out | refine below_set ?_ GE370.out) | exact HB.out)))); have n4_ := Aside0.mk (blk_below (g := gb345) (o := .cells #[.int .i64 a0_0, .int .i64 a0_1, .bool a0_2, .slice A0_3 l0_3.length c0_3] 34 (0, 0)) (by (with_reducible repeat (first | refine blk_drewN ?_ _ | refine blk_drew ?_ | refine blk_alloc ?_ _)); exact BK345.out) hb); have n5_ := Aside0.mk (blk_below (g := gb360) (o := .cells #[.int .i64 t353, .int .i64 t354, .bool t355, .slice Ao30 t356.length co30] 34 (0, 0)) (by (with_reducible repeat (first | refine blk_drewN ?_ _ | refine blk_drew ?_ | refine blk_alloc ?_ _)); exact BK360.out) hb); have n6_ := Aside0.mk (blk_below (g := gb370) (o := .cells #[.int .i64 t363, .int .i64 t364, .bool t365, .slice Ao38 t366.length co38] 34 (0, 0)) (by (with_reducible repeat (first | refine blk_drewN ?_ _ | refine blk_drew ?_ | refine blk_alloc ?_ _)); exact BK370.out) hb); have n7_ := Aside0.mk (below_step (by repeat (first | (with_reducible first | exact HB.out | apply below_alloc | apply pw_below_drewN | apply below_drew1 | refine below_set ?_ GE345.out | refine below_set ?_ GE360.out | refine below_set ?_ GE370.out) | exact HB.out)) hb); clear HO350; clear HO358; clear HO368; clear BK345; clear BK360; clear BK370; clear HB; have HO350 := n0_; have HO358 := n1_; have HO368 := n2_; have HO374 := n3_; have BK345 := n4_; have BK360 := n5_; have BK370 := n6_; have HB := n7_; clear n0_ n1_ n2_ n3_ n4_ n5_ n6_ n7_; (try clear hb); (try clear hb2); (try clear hk); (try clear hi); (try clear ho0); (try simp only [errW_none, errW_some]); obtain ⟨Ao42, co42, eo42⟩ := Kd.R_slice HO374.out; subst eo42) | (go_at_call 16; (with_reducible refine (shutterref01_Same.calls kj2 _ _ t372 _ _ l1 t377 _ ?side1 ?side2 ?side3 ?side4 A22.out).mono ?_); (case side1 => repeat (first | exact (Kd.R_reads' HO374.out).2.2 | (with_reducible refine Kd.C_alloc ?_ _) | (with_reducible refine Kd.C_drewN ?_ _) | (with_reducible refine Kd.C_drew ?_))); (case side2 => exact (Kd.R_reads' HO374.out).2.1); (case side3 => repeat (first | exact (Kd.C_below HR1.out HB.out) | (with_reducible refine Kd.C_alloc ?_ _) | (with_reducible refine Kd.C_drewN ?_ _) | (with_reducible refine Kd.C_drew ?_))); (case side4 => exact HC1.out); rintro e w' ⟨rfl, ⟨nd, rfl⟩⟩))
         go_ret
         exact ⟨by first | rfl | (simp [errW_none, errW_some] <;> rfl) | (simp [*, errW_none, errW_some] <;> rfl), by repeat (first | (with_reducible first | exact HB.out | apply below_alloc | apply pw_below_drewN | apply below_drew1 | refine below_set ?_ GE345.out | refine below_set ?_ GE360.out | refine below_set ?_ GE370.out) | exact HB.out)⟩
        ·have H1 : (none) = some r := by rw [if_neg (show ¬ (some q376).isNone = true by simp)] at H; exact H
         clear H
         have H := H1
         clear H1
         try simp only [errW_none, errW_some]
         exact absurd H (by simp)
       ·have H1 : ((shutterref22_Same.f kj2 t363 t364 t365 t366 0 0 false ([] : List Int)).bind fun t378 => (some t378)) = some r := by rw [if_neg (show ¬ (some q371).isNone = true by simp)] at H; exact H
        clear H
        have H := H1
        clear H1
        try simp only [errW_none, errW_some]
        replace H := Option.bind_eq_some_iff.mp H
        obtain ⟨t378, A430, H⟩ := H
        replace H : (some t378) = some r := H
        have A43 := Aside0.mk A430
        clear A430
        obtain rfl := Option.some.inj H
        have hcz44_0 : wc.cell? ⟨gb345, 0, none⟩ = some (.int .i64 a0_0) := (blk_cell BK345.out 0).trans rfl
        have hcz44_1 : wc.cell? ⟨gb345, 1, none⟩ = some (.int .i64 a0_1) := (blk_cell BK345.out 1).trans rfl
        have hcz44_2 : wc.cell? ⟨gb345, 2, none⟩ = some (.bool a0_2) := (blk_cell BK345.out 2).trans rfl
        have hcz44_3 : wc.cell? ⟨gb345, 3, none⟩ = some (.slice A0_3 l0_3.length c0_3) := (blk_cell BK345.out 3).trans rfl
        have hfz44_0 := blk_frozen BK345.out 0
        have hfz44_1 := blk_frozen BK345.out 1
        have hfz44_2 := blk_frozen BK345.out 2
        have hfz44_3 := blk_frozen BK345.out 3
        go_wp2_with (first | ((with_reducible refine gate_callee (f := 14) rfl ?_); refine goesL_ (some 29) rfl rfl Tryd.func14 (by kernel_rfl) rfl #[.agg #[.int .i64 a0_0, .int .i64 a0_1, .bool a0_2, .slice A0_3 l0_3.length c0_3]] rfl (by (try simp only [List.map_toArray, List.map_cons, List.map_nil]); first | done | rfl | (simp only [List.length_drop, List.length_take]; rfl)) ?_; (with_reducible refine (piece_Write.calls kj2 a0_0 a0_1 a0_2 (fun k_ => k_ < w.heap.size) _ _ l0_3 t348 none _ ?side1 A16.out).mono ?_); (case side1 => exact Kd.V_mk HC0_3.out (Kd.F_below (Kd.C_F (Kd.heap_int .u8) HR0_3.out) (by repeat (first | (with_reducible first | exact HB.out | apply below_alloc | apply pw_below_drewN | apply below_drew1 | refine below_set ?_ GE345.out) | exact HB.out)))); rintro e w45 ⟨v349, rfl, ho0, hb⟩; refine ⟨_, rfl, ?_⟩; have n0_ := Aside0.mk (Kd.R_lower (Kd.R_mono (ok' := fun k_ => True) ho0 (fun _ hk_ => trivial)) (below_size (by repeat (first | (with_reducible first | exact HB.out | apply below_alloc | apply pw_below_drewN | apply below_drew1 | refine below_set ?_ GE345.out) | exact HB.out)))); have n1_ := Aside0.mk (blk_below (g := gb345) (o := .cells #[.int .i64 a0_0, .int .i64 a0_1, .bool a0_2, .slice A0_3 l0_3.length c0_3] 34 (0, 0)) (by (with_reducible repeat (first | refine blk_drewN ?_ _ | refine blk_drew ?_ | refine blk_alloc ?_ _)); exact BK345.out) hb); have n2_ := Aside0.mk (below_step (by repeat (first | (with_reducible first | exact HB.out | apply below_alloc | apply pw_below_drewN | apply below_drew1 | refine below_set ?_ GE345.out) | exact HB.out)) hb); clear BK345; clear HB; have HO350 := n0_; have BK345 := n1_; have HB := n2_; clear n0_ n1_ n2_; (try clear hb); (try clear hb2); (try clear hk); (try clear hi); (try clear ho0); (try simp only [errW_none, errW_some]); obtain ⟨Ao46, co46, eo46⟩ := Kd.R_slice HO350.out; subst eo46) | ((with_reducible refine gate_callee (f := 18) rfl ?_); refine goesL_ (some 36) rfl rfl Tryd.func18 (by kernel_rfl) rfl #[.slice Ao46 t348.length co46] rfl (by (try simp only [List.map_toArray, List.map_cons, List.map_nil]); first | done | rfl | (simp only [List.length_drop, List.length_take]; rfl)) ?_; (with_reducible refine (piece_Read.calls kj2 _ _ t348 t353 t354 t355 t356 none _ ?side1 ?side2 A17.out).mono ?_); (case side1 => repeat (first | exact (Kd.R_reads' HO350.out).2.2 | (with_reducible refine Kd.C_alloc ?_ _) | (with_reducible refine Kd.C_drewN ?_ _) | (with_reducible refine Kd.C_drew ?_))); (case side2 => exact (Kd.R_reads' HO350.out).2.1); rintro e w47 ⟨v357, rfl, ho0, hb⟩; refine ⟨_, rfl, ?_⟩; have n0_ := Aside0.mk (Kd.R_elder' (by (with_reducible repeat (first | apply Kd.R_alloc | apply Kd.R_drewN | apply Kd.R_drew)); exact HO350.out) (Kd.R_base ho0) hb); have n1_ := Aside0.mk (Kd.R_lower (Kd.R_new' ho0 (Kd.R_lt (by (with_reducible repeat (first | apply Kd.R_alloc | apply Kd.R_drewN | apply Kd.R_drew)); exact HO350.out))) (below_size (by repeat (first | (with_reducible first | exact HB.out | apply below_alloc | apply pw_below_drewN | apply below_drew1 | refine below_set ?_ GE345.out) | exact HB.out)))); have n2_ := Aside0.mk (blk_below (g := gb345) (o := .cells #[.int .i64 a0_0, .int .i64 a0_1, .bool a0_2, .slice A0_3 l0_3.length c0_3] 34 (0, 0)) (by (with_reducible repeat (first | refine blk_drewN ?_ _ | refine blk_drew ?_ | refine blk_alloc ?_ _)); exact BK345.out) hb); have n3_ := Aside0.mk (below_step (by repeat (first | (with_reducible first | exact HB.out | apply below_alloc | apply pw_below_drewN | apply below_drew1 | refine below_set ?_ GE345.out) | exact HB.out)) hb); clear HO350; clear BK345; clear HB; have HO350 := n0_; have HO358 := n1_; have BK345 := n2_; have HB := n3_; clear n0_ n1_ n2_ n3_; (try clear hb); (try clear hb2); (try clear hk); (try clear hi); (try clear ho0); (try simp only [errW_none, errW_some])) | ((with_reducible refine gate_dst (N := 7) rfl ?_); (try (refine gate_guard (by rfl) ?_; dsimp only)); refine box_event ?hg (N := 7) ?hd (cs := #[.int .i64 0, .int .i64 0, .bool false, .slice none 0 0]) (t := 34) ?hr ?_; (case hd => rfl); (case hg => rfl); (case hr => first | (go_simp; done) | (go_simp; rfl)); intro gb360 hg w48 hbox hb; have n0_ := Aside0.mk (Kd.R_below (by (with_reducible repeat (first | apply Kd.R_alloc | apply Kd.R_drewN | apply Kd.R_drew)); exact HO350.out) hb); have n1_ := Aside0.mk (Kd.R_below (by (with_reducible repeat (first | apply Kd.R_alloc | apply Kd.R_drewN | apply Kd.R_drew)); exact HO358.out) hb); have n2_ := Aside0.mk (blk_below (g := gb345) (o := .cells #[.int .i64 a0_0, .int .i64 a0_1, .bool a0_2, .slice A0_3 l0_3.length c0_3] 34 (0, 0)) (by (with_reducible repeat (first | refine blk_drewN ?_ _ | refine blk_drew ?_ | refine blk_alloc ?_ _)); exact BK345.out) hb); have n3_ := Aside0.mk (below_step (by repeat (first | (with_reducible first | exact HB.out | apply below_alloc | apply pw_below_drewN | apply below_drew1 | refine below_set ?_ GE345.out) | exact HB.out)) hb); have n4_ := Aside0.mk (hbox); have n5_ := Aside0.mk ((by rw [hg]; exact (below_size (by repeat (first | (with_reducible first | exact HB.out | apply below_alloc | apply pw_below_drewN | apply below_drew1 | refine below_set ?_ GE345.out) | exact HB.out))) : w.heap.size ≤ gb360)); have n6_ := Aside0.mk ((by rw [hg]; exact (below_size (by repeat (first | (with_reducible first | exact HB.out | apply below_alloc | apply pw_below_drewN | apply below_drew1 | refine below_set ?_ GE345.out) | exact HB.out))) : w.heap.size ≤ gb360)); have n7_ := Aside0.mk ((by rw [hg]; exact Nat.ne_of_lt (blk_lt (g := gb345) (o := .cells #[.int .i64 a0_0, .int .i64 a0_1, .bool a0_2, .slice A0_3 l0_3.length c0_3] 34 (0, 0)) (by (with_reducible repeat (first | refine blk_drewN ?_ _ | refine blk_drew ?_ | refine blk_alloc ?_ _)); exact BK345.out)) : gb345 ≠ gb360)); have n8_ := Aside0.mk ((by rw [hg]; exact Nat.ne_of_gt (blk_lt (g := gb345) (o := .cells #[.int .i64 a0_0, .int .i64 a0_1, .bool a0_2, .slice A0_3 l0_3.length c0_3] 34 (0, 0)) (by (with_reducible repeat (first | refine blk_drewN ?_ _ | refine blk_drew ?_ | refine blk_alloc ?_ _)); exact BK345.out)) : gb360 ≠ gb345)); clear HO350; clear HO358; clear BK345; clear HB; have HO350 := n0_; have HO358 := n1_; have BK345 := n2_; have HB := n3_; have BK360 := n4_; have GW360 := n5_; have GE360 := n6_; have NB345_360 := n7_; have NB360_345 := n8_; clear n0_ n1_ n2_ n3_ n4_ n5_ n6_ n7_ n8_; clear hb hbox hg; have hnb49 := NB360_345.out; have hnc49 := NB345_360.out; have hcz50_0 : w48.cell? ⟨gb360, 0, none⟩ = some (.int .i64 0) := (blk_cell BK360.out 0).trans rfl; have hcz50_1 : w48.cell? ⟨gb360, 1, none⟩ = some (.int .i64 0) := (blk_cell BK360.out 1).trans rfl; have hcz50_2 : w48.cell? ⟨gb360, 2, none⟩ = some (.bool false) := (blk_cell BK360.out 2).trans rfl; have hcz50_3 : w48.cell? ⟨gb360, 3, none⟩ = some (.slice none 0 0) := (blk_cell BK360.out 3).trans rfl; have hfz50_0 := blk_frozen BK360.out 0; have hfz50_1 := blk_frozen BK360.out 1; have hfz50_2 := blk_frozen BK360.out 2; have hfz50_3 := blk_frozen BK360.out 3; obtain ⟨Ao51, co51, eo51⟩ := Kd.R_slice HO358.out; subst eo51; have hcz52_0 : w48.cell? ⟨gb345, 0, none⟩ = some (.int .i64 a0_0) := (blk_cell BK345.out 0).trans rfl; have hcz52_1 : w48.cell? ⟨gb345, 1, none⟩ = some (.int .i64 a0_1) := (blk_cell BK345.out 1).trans rfl; have hcz52_2 : w48.cell? ⟨gb345, 2, none⟩ = some (.bool a0_2) := (blk_cell BK345.out 2).trans rfl; have hcz52_3 : w48.cell? ⟨gb345, 3, none⟩ = some (.slice A0_3 l0_3.length c0_3) := (blk_cell BK345.out 3).trans rfl; have hfz52_0 := blk_frozen BK345.out 0; have hfz52_1 := blk_frozen BK345.out 1; have hfz52_2 := blk_frozen BK345.out 2; have hfz52_3 := blk_frozen BK345.out 3) | (go_at_call 20; (with_reducible refine (shutterref22_Same.calls kj2 t353 t354 t355 _ _ t356 a0_0 a0_1 a0_2 _ _ l0_3 true _ ?side1 ?side2 ?side3 ?side4 A18.out).mono ?_); (case side1 => refine (Kd.R_reads' (e := 5) (base := w.heap.size) (ok := fun k_ => (True ∧ some k_ ≠ (.slice Ao46 t348.length co46 : Value).ownBlock)) (n := t356.length) (c := co51) ?_).2.2; exact (by (with_reducible repeat (first | apply Kd.R_alloc | apply Kd.R_drewN | apply Kd.R_drew)); exact (Kd.R_mono (Kd.R_far (p := ⟨gb360, 3, none⟩) (Kd.R_far (p := ⟨gb360, 2, none⟩) (Kd.R_far (p := ⟨gb360, 1, none⟩) (Kd.R_far (p := ⟨gb360, 0, none⟩) (Kd.R_types HO358.out BK360.out (by decide)) (fun _ hk => hk.2) (.int .i64 t353)) (fun _ hk => hk.2) (.int .i64 t354)) (fun _ hk => hk.2) (.bool t355)) (fun _ hk => hk.2) (.slice Ao51 t356.length co51)) (fun _ h_ => h_.1)))); (case side2 => exact (Kd.R_reads' HO358.out).2.1); (case side3 => exact Kd.C_below HR0_3.out (by repeat (first | (with_reducible first | exact HB.out | apply below_alloc | apply pw_below_drewN | apply below_drew1 | refine below_set ?_ GE345.out | refine below_set ?_ GE360.out) | exact HB.out))); (case side4 => exact HC0_3.out); rintro e w53 ⟨rfl, hb⟩; have n0_ := Aside0.mk (Kd.R_below (by (with_reducible repeat (first | apply Kd.R_alloc | apply Kd.R_drewN | apply Kd.R_drew)); exact (Kd.R_mono (Kd.R_far (p := ⟨gb360, 3, none⟩) (Kd.R_far (p := ⟨gb360, 2, none⟩) (Kd.R_far (p := ⟨gb360, 1, none⟩) (Kd.R_far (p := ⟨gb360, 0, none⟩) (Kd.R_types HO350.out BK360.out (by decide)) (fun _ hk => hk.2) (.int .i64 t353)) (fun _ hk => hk.2) (.int .i64 t354)) (fun _ hk => hk.2) (.bool t355)) (fun _ hk => hk.2) (.slice Ao51 t356.length co51)) (fun _ h_ => h_.1))) hb); have n1_ := Aside0.mk (Kd.R_below (by (with_reducible repeat (first | apply Kd.R_alloc | apply Kd.R_drewN | apply Kd.R_drew)); exact (Kd.R_mono (Kd.R_far (p := ⟨gb360, 3, none⟩) (Kd.R_far (p := ⟨gb360, 2, none⟩) (Kd.R_far (p := ⟨gb360, 1, none⟩) (Kd.R_far (p := ⟨gb360, 0, none⟩) (Kd.R_types HO358.out BK360.out (by decide)) (fun _ hk => hk.2) (.int .i64 t353)) (fun _ hk => hk.2) (.int .i64 t354)) (fun _ hk => hk.2) (.bool t355)) (fun _ hk => hk.2) (.slice Ao51 t356.length co51)) (fun _ h_ => h_.1))) hb); have n2_ := Aside0.mk (blk_below (g := gb345) (o := .cells #[.int .i64 a0_0, .int .i64 a0_1, .bool a0_2, .slice A0_3 l0_3.length c0_3] 34 (0, 0)) (by (with_reducible repeat (first | refine blk_drewN ?_ _ | refine blk_drew ?_ | refine blk_alloc ?_ _)); refine blk_far ?_ NB345_360.out _; (with_reducible repeat (first | refine blk_drewN ?_ _ | refine blk_drew ?_ | refine blk_alloc ?_ _)); refine blk_far ?_ NB345_360.out _; (with_reducible repeat (first | refine blk_drewN ?_ _ | refine blk_drew ?_ | refine blk_alloc ?_ _)); refine blk_far ?_ NB345_360.out _; (with_reducible repeat (first | refine blk_drewN ?_ _ | refine blk_drew ?_ | refine blk_alloc ?_ _)); refine blk_far ?_ NB345_360.out _; (with_reducible repeat (first | refine blk_drewN ?_ _ | refine blk_drew ?_ | refine blk_alloc ?_ _)); exact BK345.out) hb); have n3_ := Aside0.mk (blk_below (g := gb360) (o := .cells #[.int .i64 t353, .int .i64 t354, .bool t355, .slice Ao51 t356.length co51] 34 (0, 0)) (by (with_reducible repeat (first | refine blk_drewN ?_ _ | refine blk_drew ?_ | refine blk_alloc ?_ _)); refine blk_put (cs := #[.int .i64 t353, .int .i64 t354, .bool t355, .slice none 0 0]) ?_ 3 _ rfl; (with_reducible repeat (first | refine blk_drewN ?_ _ | refine blk_drew ?_ | refine blk_alloc ?_ _)); refine blk_put (cs := #[.int .i64 t353, .int .i64 t354, .bool false, .slice none 0 0]) ?_ 2 _ rfl; (with_reducible repeat (first | refine blk_drewN ?_ _ | refine blk_drew ?_ | refine blk_alloc ?_ _)); refine blk_put (cs := #[.int .i64 t353, .int .i64 0, .bool false, .slice none 0 0]) ?_ 1 _ rfl; (with_reducible repeat (first | refine blk_drewN ?_ _ | refine blk_drew ?_ | refine blk_alloc ?_ _)); refine blk_put (cs := #[.int .i64 0, .int .i64 0, .bool false, .slice none 0 0]) ?_ 0 _ rfl; (with_reducible repeat (first | refine blk_drewN ?_ _ | refine blk_drew ?_ | refine blk_alloc ?_ _)); exact BK360.out) hb); have n4_ := Aside0.mk (below_step (by repeat (first | (with_reducible first | exact HB.out | apply below_alloc | apply pw_below_drewN | apply below_drew1 | refine below_set ?_ GE345.out | refine below_set ?_ GE360.out) | exact HB.out)) hb); clear HO350; clear HO358; clear BK345; clear BK360; clear HB; have HO350 := n0_; have HO358 := n1_; have BK345 := n2_; have BK360 := n3_; have HB := n4_; clear n0_ n1_ n2_ n3_ n4_; (try clear hb); (try clear hb2); (try clear hk); (try clear hi)) | ((with_reducible refine gate_callee (f := 18) rfl ?_); refine goesL_ (some 49) rfl rfl Tryd.func18 (by kernel_rfl) rfl #[.slice A1 l1.length c1] rfl (by (try simp only [List.map_toArray, List.map_cons, List.map_nil]); first | done | rfl | (simp only [List.length_drop, List.length_take]; rfl)) ?_; (with_reducible refine (piece_Read.calls kj2 _ _ l1 t363 t364 t365 t366 (some q371) _ ?side1 ?side2 A20.out).mono ?_); (case side1 => repeat (first | exact (Kd.C_below HR1.out HB.out) | (with_reducible refine Kd.C_alloc ?_ _) | (with_reducible refine Kd.C_drewN ?_ _) | (with_reducible refine Kd.C_drew ?_))); (case side2 => exact HC1.out); rintro e w54 ⟨v367, rfl, ho0, hb⟩; refine ⟨_, rfl, ?_⟩; have n0_ := Aside0.mk (Kd.R_elder' (by (with_reducible repeat (first | apply Kd.R_alloc | apply Kd.R_drewN | apply Kd.R_drew)); exact HO350.out) (Kd.R_base ho0) hb); have n1_ := Aside0.mk (Kd.R_elder' (by (with_reducible repeat (first | apply Kd.R_alloc | apply Kd.R_drewN | apply Kd.R_drew)); exact HO358.out) (Kd.R_base ho0) hb); have n2_ := Aside0.mk (Kd.R_lower (Kd.R_new' (Kd.R_new' ho0 (Kd.R_lt (by (with_reducible repeat (first | apply Kd.R_alloc | apply Kd.R_drewN | apply Kd.R_drew)); exact HO350.out))) (Kd.R_lt (by (with_reducible repeat (first | apply Kd.R_alloc | apply Kd.R_drewN | apply Kd.R_drew)); exact HO358.out))) (below_size (by repeat (first | (with_reducible first | exact HB.out | apply below_alloc | apply pw_below_drewN | apply below_drew1 | refine below_set ?_ GE345.out | refine below_set ?_ GE360.out) | exact HB.out)))); have n3_ := Aside0.mk (blk_below (g := gb345) (o := .cells #[.int .i64 a0_0, .int .i64 a0_1, .bool a0_2, .slice A0_3 l0_3.length c0_3] 34 (0, 0)) (by (with_reducible repeat (first | refine blk_drewN ?_ _ | refine blk_drew ?_ | refine blk_alloc ?_ _)); exact BK345.out) hb); have n4_ := Aside0.mk (blk_below (g := gb360) (o := .cells #[.int .i64 t353, .int .i64 t354, .bool t355, .slice Ao51 t356.length co51] 34 (0, 0)) (by (with_reducible repeat (first | refine blk_drewN ?_ _ | refine blk_drew ?_ | refine blk_alloc ?_ _)); exact BK360.out) hb); have n5_ := Aside0.mk (below_step (by repeat (first | (with_reducible first | exact HB.out | apply below_alloc | apply pw_below_drewN | apply below_drew1 | refine below_set ?_ GE345.out | refine below_set ?_ GE360.out) | exact HB.out)) hb); clear HO350; clear HO358; clear BK345; clear BK360; clear HB; have HO350 := n0_; have HO358 := n1_; have HO368 := n2_; have BK345 := n3_; have BK360 := n4_; have HB := n5_; clear n0_ n1_ n2_ n3_ n4_ n5_; (try clear hb); (try clear hb2); (try clear hk); (try clear hi); (try clear ho0); (try simp only [errW_none, errW_some])) | ((with_reducible refine gate_dst (N := 9) rfl ?_); (try (refine gate_guard (by rfl) ?_; dsimp only)); refine box_event ?hg (N := 9) ?hd (cs := #[.int .i64 0, .int .i64 0, .bool false, .slice none 0 0]) (t := 34) ?hr ?_; (case hd => rfl); (case hg => rfl); (case hr => first | (go_simp; done) | (go_simp; rfl)); intro gb370 hg w55 hbox hb; have n0_ := Aside0.mk (Kd.R_below (by (with_reducible repeat (first | apply Kd.R_alloc | apply Kd.R_drewN | apply Kd.R_drew)); exact HO350.out) hb); have n1_ := Aside0.mk (Kd.R_below (by (with_reducible repeat (first | apply Kd.R_alloc | apply Kd.R_drewN | apply Kd.R_drew)); exact HO358.out) hb); have n2_ := Aside0.mk (Kd.R_below (by (with_reducible repeat (first | apply Kd.R_alloc | apply Kd.R_drewN | apply Kd.R_drew)); exact HO368.out) hb); have n3_ := Aside0.mk (blk_below (g := gb345) (o := .cells #[.int .i64 a0_0, .int .i64 a0_1, .bool a0_2, .slice A0_3 l0_3.length c0_3] 34 (0, 0)) (by (with_reducible repeat (first | refine blk_drewN ?_ _ | refine blk_drew ?_ | refine blk_alloc ?_ _)); exact BK345.out) hb); have n4_ := Aside0.mk (blk_below (g := gb360) (o := .cells #[.int .i64 t353, .int .i64 t354, .bool t355, .slice Ao51 t356.length co51] 34 (0, 0)) (by (with_reducible repeat (first | refine blk_drewN ?_ _ | refine blk_drew ?_ | refine blk_alloc ?_ _)); exact BK360.out) hb); have n5_ := Aside0.mk (below_step (by repeat (first | (with_reducible first | exact HB.out | apply below_alloc | apply pw_below_drewN | apply below_drew1 | refine below_set ?_ GE345.out | refine below_set ?_ GE360.out) | exact HB.out)) hb); have n6_ := Aside0.mk (hbox); have n7_ := Aside0.mk ((by rw [hg]; exact (below_size (by repeat (first | (with_reducible first | exact HB.out | apply below_alloc | apply pw_below_drewN | apply below_drew1 | refine below_set ?_ GE345.out | refine below_set ?_ GE360.out) | exact HB.out))) : w.heap.size ≤ gb370)); have n8_ := Aside0.mk ((by rw [hg]; exact (below_size (by repeat (first | (with_reducible first | exact HB.out | apply below_alloc | apply pw_below_drewN | apply below_drew1 | refine below_set ?_ GE345.out | refine below_set ?_ GE360.out) | exact HB.out))) : w.heap.size ≤ gb370)); have n9_ := Aside0.mk ((by rw [hg]; exact Nat.ne_of_lt (blk_lt (g := gb345) (o := .cells #[.int .i64 a0_0, .int .i64 a0_1, .bool a0_2, .slice A0_3 l0_3.length c0_3] 34 (0, 0)) (by (with_reducible repeat (first | refine blk_drewN ?_ _ | refine blk_drew ?_ | refine blk_alloc ?_ _)); exact BK345.out)) : gb345 ≠ gb370)); have n10_ := Aside0.mk ((by rw [hg]; exact Nat.ne_of_gt (blk_lt (g := gb345) (o := .cells #[.int .i64 a0_0, .int .i64 a0_1, .bool a0_2, .slice A0_3 l0_3.length c0_3] 34 (0, 0)) (by (with_reducible repeat (first | refine blk_drewN ?_ _ | refine blk_drew ?_ | refine blk_alloc ?_ _)); exact BK345.out)) : gb370 ≠ gb345)); have n11_ := Aside0.mk ((by rw [hg]; exact Nat.ne_of_lt (blk_lt (g := gb360) (o := .cells #[.int .i64 t353, .int .i64 t354, .bool t355, .slice Ao51 t356.length co51] 34 (0, 0)) (by (with_reducible repeat (first | refine blk_drewN ?_ _ | refine blk_drew ?_ | refine blk_alloc ?_ _)); exact BK360.out)) : gb360 ≠ gb370)); have n12_ := Aside0.mk ((by rw [hg]; exact Nat.ne_of_gt (blk_lt (g := gb360) (o := .cells #[.int .i64 t353, .int .i64 t354, .bool t355, .slice Ao51 t356.length co51] 34 (0, 0)) (by (with_reducible repeat (first | refine blk_drewN ?_ _ | refine blk_drew ?_ | refine blk_alloc ?_ _)); exact BK360.out)) : gb370 ≠ gb360)); clear HO350; clear HO358; clear HO368; clear BK345; clear BK360; clear HB; have HO350 := n0_; have HO358 := n1_; have HO368 := n2_; have BK345 := n3_; have BK360 := n4_; have HB := n5_; have BK370 := n6_; have GW370 := n7_; have GE370 := n8_; have NB345_370 := n9_; have NB370_345 := n10_; have NB360_370 := n11_; have NB370_360 := n12_; clear n0_ n1_ n2_ n3_ n4_ n5_ n6_ n7_ n8_ n9_ n10_ n11_ n12_; clear hb hbox hg; have hnb56 := NB370_345.out; have hnc56 := NB345_370.out; have hnb57 := NB370_360.out; have hnc57 := NB360_370.out; have hcz58_0 : w55.cell? ⟨gb370, 0, none⟩ = some (.int .i64 0) := (blk_cell BK370.out 0).trans rfl; have hcz58_1 : w55.cell? ⟨gb370, 1, none⟩ = some (.int .i64 0) := (blk_cell BK370.out 1).trans rfl; have hcz58_2 : w55.cell? ⟨gb370, 2, none⟩ = some (.bool false) := (blk_cell BK370.out 2).trans rfl; have hcz58_3 : w55.cell? ⟨gb370, 3, none⟩ = some (.slice none 0 0) := (blk_cell BK370.out 3).trans rfl; have hfz58_0 := blk_frozen BK370.out 0; have hfz58_1 := blk_frozen BK370.out 1; have hfz58_2 := blk_frozen BK370.out 2; have hfz58_3 := blk_frozen BK370.out 3; obtain ⟨Ao59, co59, eo59⟩ := Kd.R_slice HO368.out; subst eo59) | ((with_reducible refine gate_callee (f := 20) rfl ?_); refine goesL_ (some 56) rfl rfl Tryd.func20 (by kernel_rfl) rfl #[.agg #[.int .i64 t363, .int .i64 t364, .bool t365, .slice Ao59 t366.length co59], .agg #[.int .i64 0, .int .i64 0, .bool false, .slice none 0 0]] rfl (by (try simp only [List.map_toArray, List.map_cons, List.map_nil]); first | done | rfl | (simp only [List.length_drop, List.length_take]; rfl)) ?_; (refine (shutterref22_Same.calls kj2 t363 t364 t365 _ _ t366 0 0 false _ _ ([] : List Int) t378 _ ?side1 ?side2 ?side3 ?side4 A43.out).mono ?_); (case side1 => refine (Kd.R_reads' (e := 5) (base := w.heap.size) (ok := fun k_ => ((True ∧ some k_ ≠ (.slice Ao46 t348.length co46 : Value).ownBlock) ∧ some k_ ≠ (.slice Ao51 t356.length co51 : Value).ownBlock)) (n := t366.length) (c := co59) ?_).2.2; exact (by (with_reducible repeat (first | apply Kd.R_alloc | apply Kd.R_drewN | apply Kd.R_drew)); exact (Kd.R_mono (Kd.R_far (p := ⟨gb370, 3, none⟩) (Kd.R_far (p := ⟨gb370, 2, none⟩) (Kd.R_far (p := ⟨gb370, 1, none⟩) (Kd.R_far (p := ⟨gb370, 0, none⟩) (Kd.R_types HO368.out BK370.out (by decide)) (fun _ hk => hk.2) (.int .i64 t363)) (fun _ hk => hk.2) (.int .i64 t364)) (fun _ hk => hk.2) (.bool t365)) (fun _ hk => hk.2) (.slice Ao59 t366.length co59)) (fun _ h_ => h_.1)))); (case side2 => exact (Kd.R_reads' HO368.out).2.1); (case side3 => exact Kd.C_nil _ _); (case side4 => exact Nat.le_refl _); rintro e w60 ⟨rfl, hb⟩; refine ⟨_, rfl, ?_⟩; have n0_ := Aside0.mk (Kd.R_below (by (with_reducible repeat (first | apply Kd.R_alloc | apply Kd.R_drewN | apply Kd.R_drew)); exact (Kd.R_mono (Kd.R_far (p := ⟨gb370, 3, none⟩) (Kd.R_far (p := ⟨gb370, 2, none⟩) (Kd.R_far (p := ⟨gb370, 1, none⟩) (Kd.R_far (p := ⟨gb370, 0, none⟩) (Kd.R_types HO350.out BK370.out (by decide)) (fun _ hk => hk.2) (.int .i64 t363)) (fun _ hk => hk.2) (.int .i64 t364)) (fun _ hk => hk.2) (.bool t365)) (fun _ hk => hk.2) (.slice Ao59 t366.length co59)) (fun _ h_ => h_.1))) hb); have n1_ := Aside0.mk (Kd.R_below (by (with_reducible repeat (first | apply Kd.R_alloc | apply Kd.R_drewN | apply Kd.R_drew)); exact (Kd.R_mono (Kd.R_far (p := ⟨gb370, 3, none⟩) (Kd.R_far (p := ⟨gb370, 2, none⟩) (Kd.R_far (p := ⟨gb370, 1, none⟩) (Kd.R_far (p := ⟨gb370, 0, none⟩) (Kd.R_types HO358.out BK370.out (by decide)) (fun _ hk => hk.2) (.int .i64 t363)) (fun _ hk => hk.2) (.int .i64 t364)) (fun _ hk => hk.2) (.bool t365)) (fun _ hk => hk.2) (.slice Ao59 t366.length co59)) (fun _ h_ => h_.1))) hb); have n2_ := Aside0.mk (Kd.R_below (by (with_reducible repeat (first | apply Kd.R_alloc | apply Kd.R_drewN | apply Kd.R_drew)); exact (Kd.R_mono (Kd.R_far (p := ⟨gb370, 3, none⟩) (Kd.R_far (p := ⟨gb370, 2, none⟩) (Kd.R_far (p := ⟨gb370, 1, none⟩) (Kd.R_far (p := ⟨gb370, 0, none⟩) (Kd.R_types HO368.out BK370.out (by decide)) (fun _ hk => hk.2) (.int .i64 t363)) (fun _ hk => hk.2) (.int .i64 t364)) (fun _ hk => hk.2) (.bool t365)) (fun _ hk => hk.2) (.slice Ao59 t366.length co59)) (fun _ h_ => h_.1))) hb); have n3_ := Aside0.mk (blk_below (g := gb345) (o := .cells #[.int .i64 a0_0, .int .i64 a0_1, .bool a0_2, .slice A0_3 l0_3.length c0_3] 34 (0, 0)) (by (with_reducible repeat (first | refine blk_drewN ?_ _ | refine blk_drew ?_ | refine blk_alloc ?_ _)); refine blk_far ?_ NB345_370.out _; (with_reducible repeat (first | refine blk_drewN ?_ _ | refine blk_drew ?_ | refine blk_alloc ?_ _)); refine blk_far ?_ NB345_370.out _; (with_reducible repeat (first | refine blk_drewN ?_ _ | refine blk_drew ?_ | refine blk_alloc ?_ _)); refine blk_far ?_ NB345_370.out _; (with_reducible repeat (first | refine blk_drewN ?_ _ | refine blk_drew ?_ | refine blk_alloc ?_ _)); refine blk_far ?_ NB345_370.out _; (with_reducible repeat (first | refine blk_drewN ?_ _ | refine blk_drew ?_ | refine blk_alloc ?_ _)); exact BK345.out) hb); have n4_ := Aside0.mk (blk_below (g := gb360) (o := .cells #[.int .i64 t353, .int .i64 t354, .bool t355, .slice Ao51 t356.length co51] 34 (0, 0)) (by (with_reducible repeat (first | refine blk_drewN ?_ _ | refine blk_drew ?_ | refine blk_alloc ?_ _)); refine blk_far ?_ NB360_370.out _; (with_reducible repeat (first | refine blk_drewN ?_ _ | refine blk_drew ?_ | refine blk_alloc ?_ _)); refine blk_far ?_ NB360_370.out _; (with_reducible repeat (first | refine blk_drewN ?_ _ | refine blk_drew ?_ | refine blk_alloc ?_ _)); refine blk_far ?_ NB360_370.out _; (with_reducible repeat (first | refine blk_drewN ?_ _ | refine blk_drew ?_ | refine blk_alloc ?_ _)); refine blk_far ?_ NB360_370.out _; (with_reducible repeat (first | refine blk_drewN ?_ _ | refine blk_drew ?_ | refine blk_alloc ?_ _)); exact BK360.out) hb); have n5_ := Aside0.mk (blk_below (g := gb370) (o := .cells #[.int .i64 t363, .int .i64 t364, .bool t365, .slice Ao59 t366.length co59] 34 (0, 0)) (by (with_reducible repeat (first | refine blk_drewN ?_ _ | refine blk_drew ?_ | refine blk_alloc ?_ _)); refine blk_put (cs := #[.int .i64 t363, .int .i64 t364, .bool t365, .slice none 0 0]) ?_ 3 _ rfl; (with_reducible repeat (first | refine blk_drewN ?_ _ | refine blk_drew ?_ | refine blk_alloc ?_ _)); refine blk_put (cs := #[.int .i64 t363, .int .i64 t364, .bool false, .slice none 0 0]) ?_ 2 _ rfl; (with_reducible repeat (first | refine blk_drewN ?_ _ | refine blk_drew ?_ | refine blk_alloc ?_ _)); refine blk_put (cs := #[.int .i64 t363, .int .i64 0, .bool false, .slice none 0 0]) ?_ 1 _ rfl; (with_reducible repeat (first | refine blk_drewN ?_ _ | refine blk_drew ?_ | refine blk_alloc ?_ _)); refine blk_put (cs := #[.int .i64 0, .int .i64 0, .bool false, .slice none 0 0]) ?_ 0 _ rfl; (with_reducible repeat (first | refine blk_drewN ?_ _ | refine blk_drew ?_ | refine blk_alloc ?_ _)); exact BK370.out) hb); have n6_ := Aside0.mk (below_step (by repeat (first | (with_reducible first | exact HB.out | apply below_alloc | apply pw_below_drewN | apply below_drew1 | refine below_set ?_ GE345.out | refine below_set ?_ GE360.out | refine below_set ?_ GE370.out) | exact HB.out)) hb); clear HO350; clear HO358; clear HO368; clear BK345; clear BK360; clear BK370; clear HB; have HO350 := n0_; have HO358 := n1_; have HO368 := n2_; have BK345 := n3_; have BK360 := n4_; have BK370 := n5_; have HB := n6_; clear n0_ n1_ n2_ n3_ n4_ n5_ n6_; (try clear hb); (try clear hb2); (try clear hk); (try clear hi)))
        go_ret
        exact ⟨by first | rfl | (simp [errW_none, errW_some] <;> rfl) | (simp [*, errW_none, errW_some] <;> rfl), by repeat (first | (with_reducible first | exact HB.out | apply below_alloc | apply pw_below_drewN | apply below_drew1 | refine below_set ?_ GE345.out | refine below_set ?_ GE360.out | refine below_set ?_ GE370.out) | exact HB.out)⟩
      ·replace c19 := Bool.eq_false_iff.mpr c19
       subst c19
       have H1 : (none) = some r := by rw [if_neg (show ¬ (false = true) by decide)] at H; exact H
       clear H
       have H := H1
       clear H1
       exact absurd H (by simp)
     ·have H1 : (none) = some r := by rw [if_neg (show ¬ (some q361).isNone = true by simp)] at H; exact H
      clear H
      have H := H1
      clear H1
      try simp only [errW_none, errW_some]
      exact absurd H (by simp)
    ·have H1 : ((piece_Read.f kj2 l1).bind fun bt379 => (if bt379.2.2.2.2.isNone = true then ((piece_Write.f kj2 bt379.1 bt379.2.1 bt379.2.2.1 bt379.2.2.2.1).bind fun bt388 => (if bt388.2.isNone = true then ((shutterref01_Same.f kj2 bt388.1 l1).bind fun t393 => (some t393)) else (none))) else ((shutterref22_Same.f kj2 bt379.1 bt379.2.1 bt379.2.2.1 bt379.2.2.2.1 0 0 false ([] : List Int)).bind fun t394 => (some t394)))) = some r := by rw [if_neg (show ¬ (some q352).isNone = true by simp)] at H; exact H
     clear H
     have H := H1
     clear H1
     try simp only [errW_none, errW_some]
     replace H := Option.bind_eq_some_iff.mp H
     obtain ⟨⟨t379, t380, t381, t382, t385⟩, A610, H⟩ := H
     replace H : (if t385.isNone = true then ((piece_Write.f kj2 t379 t380 t381 t382).bind fun bt388 => (if bt388.2.isNone = true then ((shutterref01_Same.f kj2 bt388.1 l1).bind fun t393 => (some t393)) else (none))) else ((shutterref22_Same.f kj2 t379 t380 t381 t382 0 0 false ([] : List Int)).bind fun t394 => (some t394))) = some r := H
     have A61 := Aside0.mk A610
     clear A610
     rcases t385 with _ | q387
     ·have H1 : ((piece_Write.f kj2 t379 t380 t381 t382).bind fun bt388 => (if bt388.2.isNone = true then ((shutterref01_Same.f kj2 bt388.1 l1).bind fun t393 => (some t393)) else (none))) = some r := by rw [if_pos (show (none : Option Int).isNone = true by rfl)] at H; exact H
      clear H
      have H := H1
      clear H1
      try simp only [errW_none, errW_some]
      replace H := Option.bind_eq_some_iff.mp H
      obtain ⟨⟨t388, t391⟩, A620, H⟩ := H
      replace H : (if t391.isNone = true then ((shutterref01_Same.f kj2 t388 l1).bind fun t393 => (some t393)) else (none)) = some r := H
      have A62 := Aside0.mk A620
      clear A620
      rcases t391 with _ | q392
      ·have H1 : ((shutterref01_Same.f kj2 t388 l1).bind fun t393 => (some t393)) = some r := by rw [if_pos (show (none : Option Int).isNone = true by rfl)] at H; exact H
       clear H
       have H := H1
       clear H1
       try simp only [errW_none, errW_some]
       replace H := Option.bind_eq_some_iff.mp H
       obtain ⟨t393, A630, H⟩ := H
       replace H : (some t393) = some r := H
       have A63 := Aside0.mk A630
       clear A630
       obtain rfl := Option.some.inj H
       have hcz64_0 : wc.cell? ⟨gb345, 0, none⟩ = some (.int .i64 a0_0) := (blk_cell BK345.out 0).trans rfl
       have hcz64_1 : wc.cell? ⟨gb345, 1, none⟩ = some (.int .i64 a0_1) := (blk_cell BK345.out 1).trans rfl
       have hcz64_2 : wc.cell? ⟨gb345, 2, none⟩ = some (.bool a0_2) := (blk_cell BK345.out 2).trans rfl
       have hcz64_3 : wc.cell? ⟨gb345, 3, none⟩ = some (.slice A0_3 l0_3.length c0_3) := (blk_cell BK345.out 3).trans rfl
       have hfz64_0 := blk_frozen BK345.out 0
       have hfz64_1 := blk_frozen BK345.out 1
       have hfz64_2 := blk_frozen BK345.out 2
       have hfz64_3 := blk_frozen BK345.out 3
       go_wp2_with (first | ((with_reducible refine gate_callee (f := 14) rfl ?_); refine goesL_ (some 29) rfl rfl Tryd.func14 (by kernel_rfl) rfl #[.agg #[.int .i64 a0_0, .int .i64 a0_1, .bool a0_2, .slice A0_3 l0_3.length c0_3]] rfl (by (try simp only [List.map_toArray, List.map_cons, List.map_nil]); first | done | rfl | (simp only [List.length_drop, List.length_take]; rfl)) ?_; (with_reducible refine (piece_Write.calls kj2 a0_0 a0_1 a0_2 (fun k_ => k_ < w.heap.size) _ _ l0_3 t348 (some q352) _ ?side1 A16.out).mono ?_); (case side1 => exact Kd.V_mk HC0_3.out (Kd.F_below (Kd.C_F (Kd.heap_int .u8) HR0_3.out) (by repeat (first | (with_reducible first | exact HB.out | apply below_alloc | apply pw_below_drewN | apply below_drew1 | refine below_set ?_ GE345.out) | exact HB.out)))); rintro e w65 ⟨v349, rfl, ho0, hb⟩; refine ⟨_, rfl, ?_⟩; have n0_ := Aside0.mk (Kd.R_lower (Kd.R_mono (ok' := fun k_ => True) ho0 (fun _ hk_ => trivial)) (below_size (by repeat (first | (with_reducible first | exact HB.out | apply below_alloc | apply pw_below_drewN | apply below_drew1 | refine below_set ?_ GE345.out) | exact HB.out)))); have n1_ := Aside0.mk (blk_below (g := gb345) (o := .cells #[.int .i64 a0_0, .int .i64 a0_1, .bool a0_2, .slice A0_3 l0_3.length c0_3] 34 (0, 0)) (by (with_reducible repeat (first | refine blk_drewN ?_ _ | refine blk_drew ?_ | refine blk_alloc ?_ _)); exact BK345.out) hb); have n2_ := Aside0.mk (below_step (by repeat (first | (with_reducible first | exact HB.out | apply below_alloc | apply pw_below_drewN | apply below_drew1 | refine below_set ?_ GE345.out) | exact HB.out)) hb); clear BK345; clear HB; have HO350 := n0_; have BK345 := n1_; have HB := n2_; clear n0_ n1_ n2_; (try clear hb); (try clear hb2); (try clear hk); (try clear hi); (try clear ho0); (try simp only [errW_none, errW_some])) | ((with_reducible refine gate_callee (f := 18) rfl ?_); refine goesL_ (some 49) rfl rfl Tryd.func18 (by kernel_rfl) rfl #[.slice A1 l1.length c1] rfl (by (try simp only [List.map_toArray, List.map_cons, List.map_nil]); first | done | rfl | (simp only [List.length_drop, List.length_take]; rfl)) ?_; (with_reducible refine (piece_Read.calls kj2 _ _ l1 t379 t380 t381 t382 none _ ?side1 ?side2 A61.out).mono ?_); (case side1 => repeat (first | exact (Kd.C_below HR1.out HB.out) | (with_reducible refine Kd.C_alloc ?_ _) | (with_reducible refine Kd.C_drewN ?_ _) | (with_reducible refine Kd.C_drew ?_))); (case side2 => exact HC1.out); rintro e w66 ⟨v383, rfl, ho0, hb⟩; refine ⟨_, rfl, ?_⟩; have n0_ := Aside0.mk (Kd.R_elder' (by (with_reducible repeat (first | apply Kd.R_alloc | apply Kd.R_drewN | apply Kd.R_drew)); exact HO350.out) (Kd.R_base ho0) hb); have n1_ := Aside0.mk (Kd.R_lower (Kd.R_new' ho0 (Kd.R_lt (by (with_reducible repeat (first | apply Kd.R_alloc | apply Kd.R_drewN | apply Kd.R_drew)); exact HO350.out))) (below_size (by repeat (first | (with_reducible first | exact HB.out | apply below_alloc | apply pw_below_drewN | apply below_drew1 | refine below_set ?_ GE345.out) | exact HB.out)))); have n2_ := Aside0.mk (blk_below (g := gb345) (o := .cells #[.int .i64 a0_0, .int .i64 a0_1, .bool a0_2, .slice A0_3 l0_3.length c0_3] 34 (0, 0)) (by (with_reducible repeat (first | refine blk_drewN ?_ _ | refine blk_drew ?_ | refine blk_alloc ?_ _)); exact BK345.out) hb); have n3_ := Aside0.mk (below_step (by repeat (first | (with_reducible first | exact HB.out | apply below_alloc | apply pw_below_drewN | apply below_drew1 | refine below_set ?_ GE345.out) | exact HB.out)) hb); clear HO350; clear BK345; clear HB; have HO350 := n0_; have HO384 := n1_; have BK345 := n2_; have HB := n3_; clear n0_ n1_ n2_ n3_; (try clear hb); (try clear hb2); (try clear hk); (try clear hi); (try clear ho0); (try simp only [errW_none, errW_some])) | ((with_reducible refine gate_dst (N := 9) rfl ?_); (try (refine gate_guard (by rfl) ?_; dsimp only)); refine box_event ?hg (N := 9) ?hd (cs := #[.int .i64 0, .int .i64 0, .bool false, .slice none 0 0]) (t := 34) ?hr ?_; (case hd => rfl); (case hg => rfl); (case hr => first | (go_simp; done) | (go_simp; rfl)); intro gb386 hg w67 hbox hb; have n0_ := Aside0.mk (Kd.R_below (by (with_reducible repeat (first | apply Kd.R_alloc | apply Kd.R_drewN | apply Kd.R_drew)); exact HO350.out) hb); have n1_ := Aside0.mk (Kd.R_below (by (with_reducible repeat (first | apply Kd.R_alloc | apply Kd.R_drewN | apply Kd.R_drew)); exact HO384.out) hb); have n2_ := Aside0.mk (blk_below (g := gb345) (o := .cells #[.int .i64 a0_0, .int .i64 a0_1, .bool a0_2, .slice A0_3 l0_3.length c0_3] 34 (0, 0)) (by (with_reducible repeat (first | refine blk_drewN ?_ _ | refine blk_drew ?_ | refine blk_alloc ?_ _)); exact BK345.out) hb); have n3_ := Aside0.mk (below_step (by repeat (first | (with_reducible first | exact HB.out | apply below_alloc | apply pw_below_drewN | apply below_drew1 | refine below_set ?_ GE345.out) | exact HB.out)) hb); have n4_ := Aside0.mk (hbox); have n5_ := Aside0.mk ((by rw [hg]; exact (below_size (by repeat (first | (with_reducible first | exact HB.out | apply below_alloc | apply pw_below_drewN | apply below_drew1 | refine below_set ?_ GE345.out) | exact HB.out))) : w.heap.size ≤ gb386)); have n6_ := Aside0.mk ((by rw [hg]; exact (below_size (by repeat (first | (with_reducible first | exact HB.out | apply below_alloc | apply pw_below_drewN | apply below_drew1 | refine below_set ?_ GE345.out) | exact HB.out))) : w.heap.size ≤ gb386)); have n7_ := Aside0.mk ((by rw [hg]; exact Nat.ne_of_lt (blk_lt (g := gb345) (o := .cells #[.int .i64 a0_0, .int .i64 a0_1, .bool a0_2, .slice A0_3 l0_3.length c0_3] 34 (0, 0)) (by (with_reducible repeat (first | refine blk_drewN ?_ _ | refine blk_drew ?_ | refine blk_alloc ?_ _)); exact BK345.out)) : gb345 ≠ gb386)); have n8_ := Aside0.mk ((by rw [hg]; exact Nat.ne_of_gt (blk_lt (g := gb345) (o := .cells #[.int .i64 a0_0, .int .i64 a0_1, .bool a0_2, .slice A0_3 l0_3.length c0_3] 34 (0, 0)) (by (with_reducible repeat (first | refine blk_drewN ?_ _ | refine blk_drew ?_ | refine blk_alloc ?_ _)); exact BK345.out)) : gb386 ≠ gb345)); clear HO350; clear HO384; clear BK345; clear HB; have HO350 := n0_; have HO384 := n1_; have BK345 := n2_; have HB := n3_; have BK386 := n4_; have GW386 := n5_; have GE386 := n6_; have NB345_386 := n7_; have NB386_345 := n8_; clear n0_ n1_ n2_ n3_ n4_ n5_ n6_ n7_ n8_; clear hb hbox hg; have hnb68 := NB386_345.out; have hnc68 := NB345_386.out; have hcz69_0 : w67.cell? ⟨gb386, 0, none⟩ = some (.int .i64 0) := (blk_cell BK386.out 0).trans rfl; have hcz69_1 : w67.cell? ⟨gb386, 1, none⟩ = some (.int .i64 0) := (blk_cell BK386.out 1).trans rfl; have hcz69_2 : w67.cell? ⟨gb386, 2, none⟩ = some (.bool false) := (blk_cell BK386.out 2).trans rfl; have hcz69_3 : w67.cell? ⟨gb386, 3, none⟩ = some (.slice none 0 0) := (blk_cell BK386.out 3).trans rfl; have hfz69_0 := blk_frozen BK386.out 0; have hfz69_1 := blk_frozen BK386.out 1; have hfz69_2 := blk_frozen BK386.out 2; have hfz69_3 := blk_frozen BK386.out 3; obtain ⟨Ao70, co70, eo70⟩ := Kd.R_slice HO384.out; subst eo70) | ((with_reducible refine gate_store (t := 34) (p := 9) rfl ?_); refine store_event (t := 34) (p := 9) (v := ?vo_w71) (w1 := ((((w67.setCell ⟨gb386, 0, none⟩ (.int .i64 t379)).setCell ⟨gb386, 1, none⟩ (.int .i64 t380)).setCell ⟨gb386, 2, none⟩ (.bool t381)).setCell ⟨gb386, 3, none⟩ (.slice Ao70 t382.length co70))) ?hg ?ho ?hn ?hr ?_; (case ho => rfl); (case hg => rfl); (case hn => rfl); (case hr => first | (go_simp; done) | (go_simp; rfl)); intro w71 hw; have n0_ : Aside0 (Kd.R (Kd.int .u8) 5 w71 w.heap.size (fun k_ => some k_ ≠ (.slice Ao70 t382.length co70 : Value).ownBlock) v349 t348) := ⟨(by rw [hw]; exact (by (with_reducible repeat (first | apply Kd.R_alloc | apply Kd.R_drewN | apply Kd.R_drew)); exact Kd.R_mono (Kd.R_far (p := ⟨gb386, 3, none⟩) (Kd.R_far (p := ⟨gb386, 2, none⟩) (Kd.R_far (p := ⟨gb386, 1, none⟩) (Kd.R_far (p := ⟨gb386, 0, none⟩) (Kd.R_types HO350.out BK386.out (by decide)) (fun _ hk => hk.2) (.int .i64 t379)) (fun _ hk => hk.2) (.int .i64 t380)) (fun _ hk => hk.2) (.bool t381)) (fun _ hk => hk.2) (.slice Ao70 t382.length co70)) (fun _ hk => hk.1.2)))⟩; have n1_ : Aside0 (Kd.R (Kd.int .u8) 5 w71 w.heap.size (fun k_ => some k_ ≠ (v349 : Value).ownBlock) (.slice Ao70 t382.length co70) t382) := ⟨(by rw [hw]; exact (by (with_reducible repeat (first | apply Kd.R_alloc | apply Kd.R_drewN | apply Kd.R_drew)); exact Kd.R_mono (Kd.R_far (p := ⟨gb386, 3, none⟩) (Kd.R_far (p := ⟨gb386, 2, none⟩) (Kd.R_far (p := ⟨gb386, 1, none⟩) (Kd.R_far (p := ⟨gb386, 0, none⟩) (Kd.R_types HO384.out BK386.out (by decide)) (fun _ hk => hk.2) (.int .i64 t379)) (fun _ hk => hk.2) (.int .i64 t380)) (fun _ hk => hk.2) (.bool t381)) (fun _ hk => hk.2) (.slice Ao70 t382.length co70)) (fun _ hk => hk.1.2)))⟩; have n2_ : Aside0 (w71.heap[gb345]? = some (.cells #[.int .i64 a0_0, .int .i64 a0_1, .bool a0_2, .slice A0_3 l0_3.length c0_3] 34 (0, 0))) := ⟨(by rw [hw]; exact (by (with_reducible repeat (first | refine blk_drewN ?_ _ | refine blk_drew ?_ | refine blk_alloc ?_ _)); refine blk_far ?_ NB345_386.out _; (with_reducible repeat (first | refine blk_drewN ?_ _ | refine blk_drew ?_ | refine blk_alloc ?_ _)); refine blk_far ?_ NB345_386.out _; (with_reducible repeat (first | refine blk_drewN ?_ _ | refine blk_drew ?_ | refine blk_alloc ?_ _)); refine blk_far ?_ NB345_386.out _; (with_reducible repeat (first | refine blk_drewN ?_ _ | refine blk_drew ?_ | refine blk_alloc ?_ _)); refine blk_far ?_ NB345_386.out _; (with_reducible repeat (first | refine blk_drewN ?_ _ | refine blk_drew ?_ | refine blk_alloc ?_ _)); exact BK345.out))⟩; have n3_ : Aside0 (w71.heap[gb386]? = some (.cells #[.int .i64 t379, .int .i64 t380, .bool t381, .slice Ao70 t382.length co70] 34 (0, 0))) := ⟨(by rw [hw]; exact (by (with_reducible repeat (first | refine blk_drewN ?_ _ | refine blk_drew ?_ | refine blk_alloc ?_ _)); refine blk_put (cs := #[.int .i64 t379, .int .i64 t380, .bool t381, .slice none 0 0]) ?_ 3 _ rfl; (with_reducible repeat (first | refine blk_drewN ?_ _ | refine blk_drew ?_ | refine blk_alloc ?_ _)); refine blk_put (cs := #[.int .i64 t379, .int .i64 t380, .bool false, .slice none 0 0]) ?_ 2 _ rfl; (with_reducible repeat (first | refine blk_drewN ?_ _ | refine blk_drew ?_ | refine blk_alloc ?_ _)); refine blk_put (cs := #[.int .i64 t379, .int .i64 0, .bool false, .slice none 0 0]) ?_ 1 _ rfl; (with_reducible repeat (first | refine blk_drewN ?_ _ | refine blk_drew ?_ | refine blk_alloc ?_ _)); refine blk_put (cs := #[.int .i64 0, .int .i64 0, .bool false, .slice none 0 0]) ?_ 0 _ rfl; (with_reducible repeat (first | refine blk_drewN ?_ _ | refine blk_drew ?_ | refine blk_alloc ?_ _)); exact BK386.out))⟩; have n4_ : Aside0 (Below w.heap.size w w71) := ⟨(by rw [hw]; exact (by repeat (first | (with_reducible first | exact HB.out | apply below_alloc | apply pw_below_drewN | apply below_drew1 | refine below_set ?_ GE345.out | refine below_set ?_ GE386.out) | exact HB.out)))⟩; clear hw; clear HO350; clear HO384; clear BK345; clear BK386; clear HB; have HO350 := n0_; have HO384 := n1_; have BK345 := n2_; have BK386 := n3_; have HB := n4_; clear n0_ n1_ n2_ n3_ n4_; have hcz72_0 : w71.cell? ⟨gb386, 0, none⟩ = some (.int .i64 t379) := (blk_cell BK386.out 0).trans rfl; have hcz72_1 : w71.cell? ⟨gb386, 1, none⟩ = some (.int .i64 t380) := (blk_cell BK386.out 1).trans rfl; have hcz72_2 : w71.cell? ⟨gb386, 2, none⟩ = some (.bool t381) := (blk_cell BK386.out 2).trans rfl; have hcz72_3 : w71.cell? ⟨gb386, 3, none⟩ = some (.slice Ao70 t382.length co70) := (blk_cell BK386.out 3).trans rfl; have hfz72_0 := blk_frozen BK386.out 0; have hfz72_1 := blk_frozen BK386.out 1; have hfz72_2 := blk_frozen BK386.out 2; have hfz72_3 := blk_frozen BK386.out 3) | ((with_reducible refine gate_callee (f := 14) rfl ?_); refine goesL_ (some 59) rfl rfl Tryd.func14 (by kernel_rfl) rfl #[.agg #[.int .i64 t379, .int .i64 t380, .bool t381, .slice Ao70 t382.length co70]] rfl (by (try simp only [List.map_toArray, List.map_cons, List.map_nil]); first | done | rfl | (simp only [List.length_drop, List.length_take]; rfl)) ?_; (with_reducible refine (piece_Write.calls kj2 t379 t380 t381 (fun k_ => some k_ = (.slice Ao70 t382.length co70 : Value).ownBlock) _ _ t382 t388 none _ ?side1 A62.out).mono ?_); (case side1 => exact Kd.R_V (Kd.R_tight rfl (Kd.R_types (Kd.R_types (HO384.out) BK345.out (by decide)) BK386.out (by decide)))); rintro e w73 ⟨v389, rfl, ho0, hb⟩; refine ⟨_, rfl, ?_⟩; have n0_ := Aside0.mk (Kd.R_elder' (by (with_reducible repeat (first | apply Kd.R_alloc | apply Kd.R_drewN | apply Kd.R_drew)); exact HO350.out) (Kd.R_base ho0) hb); have n1_ := Aside0.mk (Kd.R_elder' (by (with_reducible repeat (first | apply Kd.R_alloc | apply Kd.R_drewN | apply Kd.R_drew)); exact HO384.out) (Kd.R_base ho0) hb); have n2_ := Aside0.mk (Kd.R_lower (Kd.R_new' (Kd.R_new' (Kd.R_mono (ok' := fun k_ => True) ho0 (fun _ hk_ => trivial)) (Kd.R_lt (by (with_reducible repeat (first | apply Kd.R_alloc | apply Kd.R_drewN | apply Kd.R_drew)); exact HO350.out))) (Kd.R_lt (by (with_reducible repeat (first | apply Kd.R_alloc | apply Kd.R_drewN | apply Kd.R_drew)); exact HO384.out))) (below_size (by repeat (first | (with_reducible first | exact HB.out | apply below_alloc | apply pw_below_drewN | apply below_drew1 | refine below_set ?_ GE345.out | refine below_set ?_ GE386.out) | exact HB.out)))); have n3_ := Aside0.mk (blk_below (g := gb345) (o := .cells #[.int .i64 a0_0, .int .i64 a0_1, .bool a0_2, .slice A0_3 l0_3.length c0_3] 34 (0, 0)) (by (with_reducible repeat (first | refine blk_drewN ?_ _ | refine blk_drew ?_ | refine blk_alloc ?_ _)); exact BK345.out) hb); have n4_ := Aside0.mk (blk_below (g := gb386) (o := .cells #[.int .i64 t379, .int .i64 t380, .bool t381, .slice Ao70 t382.length co70] 34 (0, 0)) (by (with_reducible repeat (first | refine blk_drewN ?_ _ | refine blk_drew ?_ | refine blk_alloc ?_ _)); exact BK386.out) hb); have n5_ := Aside0.mk (below_step (by repeat (first | (with_reducible first | exact HB.out | apply below_alloc | apply pw_below_drewN | apply below_drew1 | refine below_set ?_ GE345.out | refine below_set ?_ GE386.out) | exact HB.out)) hb); clear HO350; clear HO384; clear BK345; clear BK386; clear HB; have HO350 := n0_; have HO384 := n1_; have HO390 := n2_; have BK345 := n3_; have BK386 := n4_; have HB := n5_; clear n0_ n1_ n2_ n3_ n4_ n5_; (try clear hb); (try clear hb2); (try clear hk); (try clear hi); (try clear ho0); (try simp only [errW_none, errW_some]); obtain ⟨Ao74, co74, eo74⟩ := Kd.R_slice HO390.out; subst eo74) | (go_at_call 16; (with_reducible refine (shutterref01_Same.calls kj2 _ _ t388 _ _ l1 t393 _ ?side1 ?side2 ?side3 ?side4 A63.out).mono ?_); (case side1 => repeat (first | exact (Kd.R_reads' HO390.out).2.2 | (with_reducible refine Kd.C_alloc ?_ _) | (with_reducible refine Kd.C_drewN ?_ _) | (with_reducible refine Kd.C_drew ?_))); (case side2 => exact (Kd.R_reads' HO390.out).2.1); (case side3 => repeat (first | exact (Kd.C_below HR1.out HB.out) | (with_reducible refine Kd.C_alloc ?_ _) | (with_reducible refine Kd.C_drewN ?_ _) | (with_reducible refine Kd.C_drew ?_))); (case side4 => exact HC1.out); rintro e w' ⟨rfl, ⟨nd, rfl⟩⟩))
       go_ret
       exact ⟨by first | rfl | (simp [errW_none, errW_some] <;> rfl) | (simp [*, errW_none, errW_some] <;> rfl), by repeat (first | (with_reducible first | exact HB.out | apply below_alloc | apply pw_below_drewN | apply below_drew1 | refine below_set ?_ GE345.out | refine below_set ?_ GE386.out) | exact HB.out)⟩
      ·have H1 : (none) = some r := by rw [if_neg (show ¬ (some q392).isNone = true by simp)] at H; exact H
       clear H
       have H := H1
       clear H1
       try simp only [errW_none, errW_some]
       exact absurd H (by simp)
     ·have H1 : ((shutterref22_Same.f kj2 t379 t380 t381 t382 0 0 false ([] : List Int)).bind fun t394 => (some t394)) = some r := by rw [if_neg (show ¬ (some q387).isNone = true by simp)] at H; exact H
      clear H
      have H := H1
      clear H1
      try simp only [errW_none, errW_some]
      replace H := Option.bind_eq_some_iff.mp H
      obtain ⟨t394, A750, H⟩ := H
      replace H : (some t394) = some r := H
      have A75 := Aside0.mk A750
      clear A750
      obtain rfl := Option.some.inj H
      have hcz76_0 : wc.cell? ⟨gb345, 0, none⟩ = some (.int .i64 a0_0) := (blk_cell BK345.out 0).trans rfl
      have hcz76_1 : wc.cell? ⟨gb345, 1, none⟩ = some (.int .i64 a0_1) := (blk_cell BK345.out 1).trans rfl
      have hcz76_2 : wc.cell? ⟨gb345, 2, none⟩ = some (.bool a0_2) := (blk_cell BK345.out 2).trans rfl
      have hcz76_3 : wc.cell? ⟨gb345, 3, none⟩ = some (.slice A0_3 l0_3.length c0_3) := (blk_cell BK345.out 3).trans rfl
      have hfz76_0 := blk_frozen BK345.out 0
      have hfz76_1 := blk_frozen BK345.out 1
      have hfz76_2 := blk_frozen BK345.out 2
      have hfz76_3 := blk_frozen BK345.out 3
      go_wp2_with (first | ((with_reducible refine gate_callee (f := 14) rfl ?_); refine goesL_ (some 29) rfl rfl Tryd.func14 (by kernel_rfl) rfl #[.agg #[.int .i64 a0_0, .int .i64 a0_1, .bool a0_2, .slice A0_3 l0_3.length c0_3]] rfl (by (try simp only [List.map_toArray, List.map_cons, List.map_nil]); first | done | rfl | (simp only [List.length_drop, List.length_take]; rfl)) ?_; (with_reducible refine (piece_Write.calls kj2 a0_0 a0_1 a0_2 (fun k_ => k_ < w.heap.size) _ _ l0_3 t348 (some q352) _ ?side1 A16.out).mono ?_); (case side1 => exact Kd.V_mk HC0_3.out (Kd.F_below (Kd.C_F (Kd.heap_int .u8) HR0_3.out) (by repeat (first | (with_reducible first | exact HB.out | apply below_alloc | apply pw_below_drewN | apply below_drew1 | refine below_set ?_ GE345.out) | exact HB.out)))); rintro e w77 ⟨v349, rfl, ho0, hb⟩; refine ⟨_, rfl, ?_⟩; have n0_ := Aside0.mk (Kd.R_lower (Kd.R_mono (ok' := fun k_ => True) ho0 (fun _ hk_ => trivial)) (below_size (by repeat (first | (with_reducible first | exact HB.out | apply below_alloc | apply pw_below_drewN | apply below_drew1 | refine below_set ?_ GE345.out) | exact HB.out)))); have n1_ := Aside0.mk (blk_below (g := gb345) (o := .cells #[.int .i64 a0_0, .int .i64 a0_1, .bool a0_2, .slice A0_3 l0_3.length c0_3] 34 (0, 0)) (by (with_reducible repeat (first | refine blk_drewN ?_ _ | refine blk_drew ?_ | refine blk_alloc ?_ _)); exact BK345.out) hb); have n2_ := Aside0.mk (below_step (by repeat (first | (with_reducible first | exact HB.out | apply below_alloc | apply pw_below_drewN | apply below_drew1 | refine below_set ?_ GE345.out) | exact HB.out)) hb); clear BK345; clear HB; have HO350 := n0_; have BK345 := n1_; have HB := n2_; clear n0_ n1_ n2_; (try clear hb); (try clear hb2); (try clear hk); (try clear hi); (try clear ho0); (try simp only [errW_none, errW_some])) | ((with_reducible refine gate_callee (f := 18) rfl ?_); refine goesL_ (some 49) rfl rfl Tryd.func18 (by kernel_rfl) rfl #[.slice A1 l1.length c1] rfl (by (try simp only [List.map_toArray, List.map_cons, List.map_nil]); first | done | rfl | (simp only [List.length_drop, List.length_take]; rfl)) ?_; (with_reducible refine (piece_Read.calls kj2 _ _ l1 t379 t380 t381 t382 (some q387) _ ?side1 ?side2 A61.out).mono ?_); (case side1 => repeat (first | exact (Kd.C_below HR1.out HB.out) | (with_reducible refine Kd.C_alloc ?_ _) | (with_reducible refine Kd.C_drewN ?_ _) | (with_reducible refine Kd.C_drew ?_))); (case side2 => exact HC1.out); rintro e w78 ⟨v383, rfl, ho0, hb⟩; refine ⟨_, rfl, ?_⟩; have n0_ := Aside0.mk (Kd.R_elder' (by (with_reducible repeat (first | apply Kd.R_alloc | apply Kd.R_drewN | apply Kd.R_drew)); exact HO350.out) (Kd.R_base ho0) hb); have n1_ := Aside0.mk (Kd.R_lower (Kd.R_new' ho0 (Kd.R_lt (by (with_reducible repeat (first | apply Kd.R_alloc | apply Kd.R_drewN | apply Kd.R_drew)); exact HO350.out))) (below_size (by repeat (first | (with_reducible first | exact HB.out | apply below_alloc | apply pw_below_drewN | apply below_drew1 | refine below_set ?_ GE345.out) | exact HB.out)))); have n2_ := Aside0.mk (blk_below (g := gb345) (o := .cells #[.int .i64 a0_0, .int .i64 a0_1, .bool a0_2, .slice A0_3 l0_3.length c0_3] 34 (0, 0)) (by (with_reducible repeat (first | refine blk_drewN ?_ _ | refine blk_drew ?_ | refine blk_alloc ?_ _)); exact BK345.out) hb); have n3_ := Aside0.mk (below_step (by repeat (first | (with_reducible first | exact HB.out | apply below_alloc | apply pw_below_drewN | apply below_drew1 | refine below_set ?_ GE345.out) | exact HB.out)) hb); clear HO350; clear BK345; clear HB; have HO350 := n0_; have HO384 := n1_; have BK345 := n2_; have HB := n3_; clear n0_ n1_ n2_ n3_; (try clear hb); (try clear hb2); (try clear hk); (try clear hi); (try clear ho0); (try simp only [errW_none, errW_some])) | ((with_reducible refine gate_dst (N := 9) rfl ?_); (try (refine gate_guard (by rfl) ?_; dsimp only)); refine box_event ?hg (N := 9) ?hd (cs := #[.int .i64 0, .int .i64 0, .bool false, .slice none 0 0]) (t := 34) ?hr ?_; (case hd => rfl); (case hg => rfl); (case hr => first | (go_simp; done) | (go_simp; rfl)); intro gb386 hg w79 hbox hb; have n0_ := Aside0.mk (Kd.R_below (by (with_reducible repeat (first | apply Kd.R_alloc | apply Kd.R_drewN | apply Kd.R_drew)); exact HO350.out) hb); have n1_ := Aside0.mk (Kd.R_below (by (with_reducible repeat (first | apply Kd.R_alloc | apply Kd.R_drewN | apply Kd.R_drew)); exact HO384.out) hb); have n2_ := Aside0.mk (blk_below (g := gb345) (o := .cells #[.int .i64 a0_0, .int .i64 a0_1, .bool a0_2, .slice A0_3 l0_3.length c0_3] 34 (0, 0)) (by (with_reducible repeat (first | refine blk_drewN ?_ _ | refine blk_drew ?_ | refine blk_alloc ?_ _)); exact BK345.out) hb); have n3_ := Aside0.mk (below_step (by repeat (first | (with_reducible first | exact HB.out | apply below_alloc | apply pw_below_drewN | apply below_drew1 | refine below_set ?_ GE345.out) | exact HB.out)) hb); have n4_ := Aside0.mk (hbox); have n5_ := Aside0.mk ((by rw [hg]; exact (below_size (by repeat (first | (with_reducible first | exact HB.out | apply below_alloc | apply pw_below_drewN | apply below_drew1 | refine below_set ?_ GE345.out) | exact HB.out))) : w.heap.size ≤ gb386)); have n6_ := Aside0.mk ((by rw [hg]; exact (below_size (by repeat (first | (with_reducible first | exact HB.out | apply below_alloc | apply pw_below_drewN | apply below_drew1 | refine below_set ?_ GE345.out) | exact HB.out))) : w.heap.size ≤ gb386)); have n7_ := Aside0.mk ((by rw [hg]; exact Nat.ne_of_lt (blk_lt (g := gb345) (o := .cells #[.int .i64 a0_0, .int .i64 a0_1, .bool a0_2, .slice A0_3 l0_3.length c0_3] 34 (0, 0)) (by (with_reducible repeat (first | refine blk_drewN ?_ _ | refine blk_drew ?_ | refine blk_alloc ?_ _)); exact BK345.out)) : gb345 ≠ gb386)); have n8_ := Aside0.mk ((by rw [hg]; exact Nat.ne_of_gt (blk_lt (g := gb345) (o := .cells #[.int .i64 a0_0, .int .i64 a0_1, .bool a0_2, .slice A0_3 l0_3.length c0_3] 34 (0, 0)) (by (with_reducible repeat (first | refine blk_drewN ?_ _ | refine blk_drew ?_ | refine blk_alloc ?_ _)); exact BK345.out)) : gb386 ≠ gb345)); clear HO350; clear HO384; clear BK345; clear HB; have HO350 := n0_; have HO384 := n1_; have BK345 := n2_; have HB := n3_; have BK386 := n4_; have GW386 := n5_; have GE386 := n6_; have NB345_386 := n7_; have NB386_345 := n8_; clear n0_ n1_ n2_ n3_ n4_ n5_ n6_ n7_ n8_; clear hb hbox hg; have hnb80 := NB386_345.out; have hnc80 := NB345_386.out; have hcz81_0 : w79.cell? ⟨gb386, 0, none⟩ = some (.int .i64 0) := (blk_cell BK386.out 0).trans rfl; have hcz81_1 : w79.cell? ⟨gb386, 1, none⟩ = some (.int .i64 0) := (blk_cell BK386.out 1).trans rfl; have hcz81_2 : w79.cell? ⟨gb386, 2, none⟩ = some (.bool false) := (blk_cell BK386.out 2).trans rfl; have hcz81_3 : w79.cell? ⟨gb386, 3, none⟩ = some (.slice none 0 0) := (blk_cell BK386.out 3).trans rfl; have hfz81_0 := blk_frozen BK386.out 0; have hfz81_1 := blk_frozen BK386.out 1; have hfz81_2 := blk_frozen BK386.out 2; have hfz81_3 := blk_frozen BK386.out 3; obtain ⟨Ao82, co82, eo82⟩ := Kd.R_slice HO384.out; subst eo82) | ((with_reducible refine gate_callee (f := 20) rfl ?_); refine goesL_ (some 56) rfl rfl Tryd.func20 (by kernel_rfl) rfl #[.agg #[.int .i64 t379, .int .i64 t380, .bool t381, .slice Ao82 t382.length co82], .agg #[.int .i64 0, .int .i64 0, .bool false, .slice none 0 0]] rfl (by (try simp only [List.map_toArray, List.map_cons, List.map_nil]); first | done | rfl | (simp only [List.length_drop, List.length_take]; rfl)) ?_; (refine (shutterref22_Same.calls kj2 t379 t380 t381 _ _ t382 0 0 false _ _ ([] : List Int) t394 _ ?side1 ?side2 ?side3 ?side4 A75.out).mono ?_); (case side1 => refine (Kd.R_reads' (e := 5) (base := w.heap.size) (ok := fun k_ => (True ∧ some k_ ≠ (v349 : Value).ownBlock)) (n := t382.length) (c := co82) ?_).2.2; exact (by (with_reducible repeat (first | apply Kd.R_alloc | apply Kd.R_drewN | apply Kd.R_drew)); exact (Kd.R_mono (Kd.R_far (p := ⟨gb386, 3, none⟩) (Kd.R_far (p := ⟨gb386, 2, none⟩) (Kd.R_far (p := ⟨gb386, 1, none⟩) (Kd.R_far (p := ⟨gb386, 0, none⟩) (Kd.R_types HO384.out BK386.out (by decide)) (fun _ hk => hk.2) (.int .i64 t379)) (fun _ hk => hk.2) (.int .i64 t380)) (fun _ hk => hk.2) (.bool t381)) (fun _ hk => hk.2) (.slice Ao82 t382.length co82)) (fun _ h_ => h_.1)))); (case side2 => exact (Kd.R_reads' HO384.out).2.1); (case side3 => exact Kd.C_nil _ _); (case side4 => exact Nat.le_refl _); rintro e w83 ⟨rfl, hb⟩; refine ⟨_, rfl, ?_⟩; have n0_ := Aside0.mk (Kd.R_below (by (with_reducible repeat (first | apply Kd.R_alloc | apply Kd.R_drewN | apply Kd.R_drew)); exact (Kd.R_mono (Kd.R_far (p := ⟨gb386, 3, none⟩) (Kd.R_far (p := ⟨gb386, 2, none⟩) (Kd.R_far (p := ⟨gb386, 1, none⟩) (Kd.R_far (p := ⟨gb386, 0, none⟩) (Kd.R_types HO350.out BK386.out (by decide)) (fun _ hk => hk.2) (.int .i64 t379)) (fun _ hk => hk.2) (.int .i64 t380)) (fun _ hk => hk.2) (.bool t381)) (fun _ hk => hk.2) (.slice Ao82 t382.length co82)) (fun _ h_ => h_.1))) hb); have n1_ := Aside0.mk (Kd.R_below (by (with_reducible repeat (first | apply Kd.R_alloc | apply Kd.R_drewN | apply Kd.R_drew)); exact (Kd.R_mono (Kd.R_far (p := ⟨gb386, 3, none⟩) (Kd.R_far (p := ⟨gb386, 2, none⟩) (Kd.R_far (p := ⟨gb386, 1, none⟩) (Kd.R_far (p := ⟨gb386, 0, none⟩) (Kd.R_types HO384.out BK386.out (by decide)) (fun _ hk => hk.2) (.int .i64 t379)) (fun _ hk => hk.2) (.int .i64 t380)) (fun _ hk => hk.2) (.bool t381)) (fun _ hk => hk.2) (.slice Ao82 t382.length co82)) (fun _ h_ => h_.1))) hb); have n2_ := Aside0.mk (blk_below (g := gb345) (o := .cells #[.int .i64 a0_0, .int .i64 a0_1, .bool a0_2, .slice A0_3 l0_3.length c0_3] 34 (0, 0)) (by (with_reducible repeat (first | refine blk_drewN ?_ _ | refine blk_drew ?_ | refine blk_alloc ?_ _)); refine blk_far ?_ NB345_386.out _; (with_reducible repeat (first | refine blk_drewN ?_ _ | refine blk_drew ?_ | refine blk_alloc ?_ _)); refine blk_far ?_ NB345_386.out _; (with_reducible repeat (first | refine blk_drewN ?_ _ | refine blk_drew ?_ | refine blk_alloc ?_ _)); refine blk_far ?_ NB345_386.out _; (with_reducible repeat (first | refine blk_drewN ?_ _ | refine blk_drew ?_ | refine blk_alloc ?_ _)); refine blk_far ?_ NB345_386.out _; (with_reducible repeat (first | refine blk_drewN ?_ _ | refine blk_drew ?_ | refine blk_alloc ?_ _)); exact BK345.out) hb); have n3_ := Aside0.mk (blk_below (g := gb386) (o := .cells #[.int .i64 t379, .int .i64 t380, .bool t381, .slice Ao82 t382.length co82] 34 (0, 0)) (by (with_reducible repeat (first | refine blk_drewN ?_ _ | refine blk_drew ?_ | refine blk_alloc ?_ _)); refine blk_put (cs := #[.int .i64 t379, .int .i64 t380, .bool t381, .slice none 0 0]) ?_ 3 _ rfl; (with_reducible repeat (first | refine blk_drewN ?_ _ | refine blk_drew ?_ | refine blk_alloc ?_ _)); refine blk_put (cs := #[.int .i64 t379, .int .i64 t380, .bool false, .slice none 0 0]) ?_ 2 _ rfl; (with_reducible repeat (first | refine blk_drewN ?_ _ | refine blk_drew ?_ | refine blk_alloc ?_ _)); refine blk_put (cs := #[.int .i64 t379, .int .i64 0, .bool false, .slice none 0 0]) ?_ 1 _ rfl; (with_reducible repeat (first | refine blk_drewN ?_ _ | refine blk_drew ?_ | refine blk_alloc ?_ _)); refine blk_put (cs := #[.int .i64 0, .int .i64 0, .bool false, .slice none 0 0]) ?_ 0 _ rfl; (with_reducible repeat (first | refine blk_drewN ?_ _ | refine blk_drew ?_ | refine blk_alloc ?_ _)); exact BK386.out) hb); have n4_ := Aside0.mk (below_step (by repeat (first | (with_reducible first | exact HB.out | apply below_alloc | apply pw_below_drewN | apply below_drew1 | refine below_set ?_ GE345.out | refine below_set ?_ GE386.out) | exact HB.out)) hb); clear HO350; clear HO384; clear BK345; clear BK386; clear HB; have HO350 := n0_; have HO384 := n1_; have BK345 := n2_; have BK386 := n3_; have HB := n4_; clear n0_ n1_ n2_ n3_ n4_; (try clear hb); (try clear hb2); (try clear hk); (try clear hi)))
      go_ret
      exact ⟨by first | rfl | (simp [errW_none, errW_some] <;> rfl) | (simp [*, errW_none, errW_some] <;> rfl), by repeat (first | (with_reducible first | exact HB.out | apply below_alloc | apply pw_below_drewN | apply below_drew1 | refine below_set ?_ GE345.out | refine below_set ?_ GE386.out) | exact HB.out)⟩

-- NOT PRINTED: function 7 (shutterlaw22_PieceKeeps)

/-! ### shutterlaw22_PieceCounts: function 8 -/
mutual
def shutterlaw22_PieceCounts.j0 : Nat → List Int → Bool → Option (Bool)
 | 0, _, _ => none
 | k + 1, x0, x12 => if x12 = true then ((shutterlaw22_awake.f k).bind fun t427 => (some t427)) else ((piece_Cut.f x0).bind fun bt428 => (if bt428.2.isNone = true then (shutterlaw22_PieceCounts.l0 k x0 bt428.1 0) else (if (x0.length : Int) = 0 then (some true) else (some (decide ((x0.length : Int) > 8192))))))
def shutterlaw22_PieceCounts.l0 : Nat → List Int → List (S34) → Int → Option (Bool)
 | 0, _, _, _ => none
 | k + 1, x0, x3, x5 => if x5 < (x3.length : Int) then (if (wrap64 (x5 + 1)) < (x3.length : Int) then (if 0 ≤ x5 then (if (((rd_T34 x3 x5).f3).length : Int) = 64 then (if (((rd_T34 x3 x5).f3).length : Int) < 1 then (none) else (if (((rd_T34 x3 x5).f3).length : Int) > 64 then (none) else (shutterlaw22_PieceCounts.l0 k x0 x3 (wrap64 (x5 + 1))))) else (none)) else (none)) else (if 0 ≤ x5 then (if (((rd_T34 x3 x5).f3).length : Int) < 1 then (none) else (if (((rd_T34 x3 x5).f3).length : Int) > 64 then (none) else (shutterlaw22_PieceCounts.l0 k x0 x3 (wrap64 (x5 + 1))))) else (none))) else (if (wrap64 (64 * (wrap64 ((x3.length : Int) - 1)))) < (x0.length : Int) then (some (decide ((x0.length : Int) ≤ (wrap64 (64 * (x3.length : Int)))))) else (none))
end
def shutterlaw22_PieceCounts.f (k : Nat) (l0 : List Int) : Option (Bool) := (shutterlaw22_awake.f k).bind fun t426 => (if t426 = true then (shutterlaw22_PieceCounts.j0 k l0 (decide ((l0.length : Int) > 9000))) else (shutterlaw22_PieceCounts.j0 k l0 true))
theorem shutterlaw22_PieceCounts.mono_l : ∀ k, (∀ y0 y1, LeO (shutterlaw22_PieceCounts.j0 k y0 y1) (shutterlaw22_PieceCounts.j0 (k + 1) y0 y1)) ∧ (∀ y0 y1 y2, LeO (shutterlaw22_PieceCounts.l0 k y0 y1 y2) (shutterlaw22_PieceCounts.l0 (k + 1) y0 y1 y2))
 | 0 => ⟨fun _ _ r h => by simp [shutterlaw22_PieceCounts.j0] at h, fun _ _ _ r h => by simp [shutterlaw22_PieceCounts.l0] at h⟩
 | k + 1 => by
  obtain ⟨ih0, ih1⟩ := shutterlaw22_PieceCounts.mono_l k
  refine ⟨?_, ?_⟩
  ·intro y0 y1
   unfold shutterlaw22_PieceCounts.j0
   repeat' first
   | (with_reducible exact ih0 _ _)
   | (with_reducible exact ih1 _ _ _)
   | (with_reducible exact shutterlaw22_awake.mono _)
   | (with_reducible exact LeO.refl _)
   | (with_reducible exact LeO.none _)
   | (with_reducible refine LeO.ite ?_ ?_)
   | (with_reducible refine LeO.bind ?_ (fun _ => ?_))
   | exact ih0 _ _
   | exact ih1 _ _ _
   | exact shutterlaw22_awake.mono _
   | exact LeO.none _
   | refine LeO.ite ?_ ?_
   | refine LeO.bind ?_ (fun _ => ?_)
  ·intro y0 y1 y2
   unfold shutterlaw22_PieceCounts.l0
   repeat' first
   | (with_reducible exact ih0 _ _)
   | (with_reducible exact ih1 _ _ _)
   | (with_reducible exact shutterlaw22_awake.mono _)
   | (with_reducible exact LeO.refl _)
   | (with_reducible exact LeO.none _)
   | (with_reducible refine LeO.ite ?_ ?_)
   | (with_reducible refine LeO.bind ?_ (fun _ => ?_))
   | exact ih0 _ _
   | exact ih1 _ _ _
   | exact shutterlaw22_awake.mono _
   | exact LeO.none _
   | refine LeO.ite ?_ ?_
   | refine LeO.bind ?_ (fun _ => ?_)
theorem shutterlaw22_PieceCounts.mono : ∀ a0 k, LeO (shutterlaw22_PieceCounts.f k a0) (shutterlaw22_PieceCounts.f (k + 1) a0) := by
 intro a0 k
 obtain ⟨ih0, ih1⟩ := shutterlaw22_PieceCounts.mono_l k
 unfold shutterlaw22_PieceCounts.f
 repeat' first
   | (with_reducible exact ih0 _ _)
   | (with_reducible exact ih1 _ _ _)
   | (with_reducible exact shutterlaw22_awake.mono _)
   | (with_reducible exact LeO.refl _)
   | (with_reducible exact LeO.none _)
   | (with_reducible refine LeO.ite ?_ ?_)
   | (with_reducible refine LeO.bind ?_ (fun _ => ?_))
   | exact ih0 _ _
   | exact ih1 _ _ _
   | exact shutterlaw22_awake.mono _
   | exact LeO.none _
   | refine LeO.ite ?_ ?_
   | refine LeO.bind ?_ (fun _ => ?_)
set_option maxHeartbeats 8000000 in
set_option maxRecDepth 100000 in
theorem shutterlaw22_PieceCounts.calls (k : Nat) (A0 : Option Addr) (c0 : Nat) (l0 : List Int) (r : Bool) (w : World) (hGl : Aside0 (Code.Gl w)) (hr0 : Kd.C (Kd.int .u8) w A0 l0.length l0) (hc0 : l0.length ≤ c0) (h : shutterlaw22_PieceCounts.f k l0 = some r) :
  Calls Tryd.prog 8 #[.slice A0 l0.length c0] w fun e w' => e = .returned (.bool r) ∧ Below w.heap.size w w' := by
 have hu26 := Tryd.underlying26
 have hu46 := Tryd.underlying46
 have HR0 := Aside0.mk hr0
 have HC0 := Aside0.mk hc0
 clear hr0 hc0
 have HB := Aside0.mk (Below.refl w.heap.size w)
 have H : ((shutterlaw22_awake.f k).bind fun t426 => (if t426 = true then (shutterlaw22_PieceCounts.j0 k l0 (decide ((l0.length : Int) > 9000))) else (shutterlaw22_PieceCounts.j0 k l0 true))) = some r := h
 clear h
 have HC2 := Aside0.mk H
 clear H
 go_enter Tryd.func8, Tryd.ntmps8
 go_upto_region 1 with (fail)
 go_cut [12] (fun v12 wc => ∃ (kq : Nat) (x12_1 : Bool), v12 = .bool x12_1 ∧ Aside0 (shutterlaw22_PieceCounts.j0 kq l0 x12_1 = some r) ∧ Aside0 (kq ≤ k) ∧ Aside0 (Below w.heap.size w wc))
 case first =>
  have H := HC2.out
  clear HC2
  replace H := Option.bind_eq_some_iff.mp H
  obtain ⟨t426, A30, H⟩ := H
  replace H : (if t426 = true then (shutterlaw22_PieceCounts.j0 k l0 (decide ((l0.length : Int) > 9000))) else (shutterlaw22_PieceCounts.j0 k l0 true)) = some r := H
  have A3 := Aside0.mk A30
  clear A30
  by_cases c4 : t426 = true
  ·subst c4
   have H1 : (shutterlaw22_PieceCounts.j0 k l0 (decide ((l0.length : Int) > 9000))) = some r := by rw [if_pos rfl] at H; exact H
   clear H
   have H := H1
   clear H1
   have H' := Aside0.mk H
   clear H
   go_wp2_with (first | ((with_reducible refine gate_callee (f := 9) rfl ?_); refine goesL_ (some 6) rfl rfl Tryd.func9 (by kernel_rfl) rfl #[] rfl (by (try simp only [List.map_toArray, List.map_cons, List.map_nil]); first | done | rfl | (simp only [List.length_drop, List.length_take]; rfl)) ?_; (with_reducible refine (shutterlaw22_awake.calls k  true _ (by exact Aside0.mk (Code.Gl.below hGl.out (by repeat (first | (with_reducible first | exact HB.out | apply below_alloc | apply pw_below_drewN | apply below_drew1 | refine below_set ?_ (Aside0.out (by assumption))) | exact HB.out)) (Code.Gl.lt hGl.out))) A3.out).mono ?_); rintro e w5 ⟨rfl, hb⟩; refine ⟨_, rfl, ?_⟩; have n0_ := Aside0.mk (below_step (by repeat (first | (with_reducible first | exact HB.out | apply below_alloc | apply pw_below_drewN | apply below_drew1) | exact HB.out)) hb); clear HB; have HB := n0_; clear n0_; (try clear hb); (try clear hb2); (try clear hk); (try clear hi)))
   go_meet
   case rel => exact ⟨_, (decide ((l0.length : Int) > 9000)), (by first | rfl | (simp; done) | (simp [*]; done)), H', ⟨by first | omega | exact Nat.le_refl _⟩, ⟨by repeat (first | (with_reducible first | exact HB.out | apply below_alloc | apply pw_below_drewN | apply below_drew1) | exact HB.out)⟩⟩
  ·replace c4 := Bool.eq_false_iff.mpr c4
   subst c4
   have H1 : (shutterlaw22_PieceCounts.j0 k l0 true) = some r := by rw [if_neg (show ¬ (false = true) by decide)] at H; exact H
   clear H
   have H := H1
   clear H1
   have H' := Aside0.mk H
   clear H
   go_wp2_with (first | ((with_reducible refine gate_callee (f := 9) rfl ?_); refine goesL_ (some 6) rfl rfl Tryd.func9 (by kernel_rfl) rfl #[] rfl (by (try simp only [List.map_toArray, List.map_cons, List.map_nil]); first | done | rfl | (simp only [List.length_drop, List.length_take]; rfl)) ?_; (with_reducible refine (shutterlaw22_awake.calls k  false _ (by exact Aside0.mk (Code.Gl.below hGl.out (by repeat (first | (with_reducible first | exact HB.out | apply below_alloc | apply pw_below_drewN | apply below_drew1 | refine below_set ?_ (Aside0.out (by assumption))) | exact HB.out)) (Code.Gl.lt hGl.out))) A3.out).mono ?_); rintro e w6 ⟨rfl, hb⟩; refine ⟨_, rfl, ?_⟩; have n0_ := Aside0.mk (below_step (by repeat (first | (with_reducible first | exact HB.out | apply below_alloc | apply pw_below_drewN | apply below_drew1) | exact HB.out)) hb); clear HB; have HB := n0_; clear n0_; (try clear hb); (try clear hb2); (try clear hk); (try clear hi)))
   go_meet
   case rel => exact ⟨_, (true), (by first | rfl | (simp; done) | (simp [*]; done)), H', ⟨by first | omega | exact Nat.le_refl _⟩, ⟨by repeat (first | (with_reducible first | exact HB.out | apply below_alloc | apply pw_below_drewN | apply below_drew1) | exact HB.out)⟩⟩
 case rest =>
  clear HC2
  try clear p2
  try clear c4
  obtain ⟨kq, x12_1, rfl, HA, HJ1, HB⟩ := hcut
  cases kq with
  | zero => exact absurd HA.out (by simp [shutterlaw22_PieceCounts.j0])
  | succ kj1 =>
   have H := HA.out
   clear HA
   simp only [shutterlaw22_PieceCounts.j0] at H
   by_cases c7 : x12_1 = true
   ·subst c7
    have H1 : ((shutterlaw22_awake.f kj1).bind fun t427 => (some t427)) = some r := by rw [if_pos rfl] at H; exact H
    clear H
    have H := H1
    clear H1
    replace H := Option.bind_eq_some_iff.mp H
    obtain ⟨t427, A80, H⟩ := H
    replace H : (some t427) = some r := H
    have A8 := Aside0.mk A80
    clear A80
    obtain rfl := Option.some.inj H
    go_wp2_with (first | ((with_reducible refine gate_callee (f := 9) rfl ?_); refine goesL_ (some 13) rfl rfl Tryd.func9 (by kernel_rfl) rfl #[] rfl (by (try simp only [List.map_toArray, List.map_cons, List.map_nil]); first | done | rfl | (simp only [List.length_drop, List.length_take]; rfl)) ?_; (with_reducible refine (shutterlaw22_awake.calls kj1  t427 _ (by exact Aside0.mk (Code.Gl.below hGl.out (by repeat (first | (with_reducible first | exact HB.out | apply below_alloc | apply pw_below_drewN | apply below_drew1 | refine below_set ?_ (Aside0.out (by assumption))) | exact HB.out)) (Code.Gl.lt hGl.out))) A8.out).mono ?_); rintro e w9 ⟨rfl, hb⟩; refine ⟨_, rfl, ?_⟩; have n0_ := Aside0.mk (below_step (by repeat (first | (with_reducible first | exact HB.out | apply below_alloc | apply pw_below_drewN | apply below_drew1) | exact HB.out)) hb); clear HB; have HB := n0_; clear n0_; (try clear hb); (try clear hb2); (try clear hk); (try clear hi)))
    go_ret
    exact ⟨by first | rfl | (simp [errW_none, errW_some] <;> rfl) | (simp [*, errW_none, errW_some] <;> rfl), by repeat (first | (with_reducible first | exact HB.out | apply below_alloc | apply pw_below_drewN | apply below_drew1) | exact HB.out)⟩
   ·replace c7 := Bool.eq_false_iff.mpr c7
    subst c7
    have H1 : ((piece_Cut.f l0).bind fun bt428 => (if bt428.2.isNone = true then (shutterlaw22_PieceCounts.l0 kj1 l0 bt428.1 0) else (if (l0.length : Int) = 0 then (some true) else (some (decide ((l0.length : Int) > 8192)))))) = some r := by rw [if_neg (show ¬ (false = true) by decide)] at H; exact H
    clear H
    have H := H1
    clear H1
    replace H := Option.bind_eq_some_iff.mp H
    obtain ⟨⟨t428, t429⟩, A100, H⟩ := H
    replace H : (if t429.isNone = true then (shutterlaw22_PieceCounts.l0 kj1 l0 t428 0) else (if (l0.length : Int) = 0 then (some true) else (some (decide ((l0.length : Int) > 8192))))) = some r := H
    have A10 := Aside0.mk A100
    clear A100
    rcases t429 with _ | q432
    ·have H1 : (shutterlaw22_PieceCounts.l0 kj1 l0 t428 0) = some r := by rw [if_pos (show (none : Option Int).isNone = true by rfl)] at H; exact H
     clear H
     have H := H1
     clear H1
     try simp only [errW_none, errW_some]
     have H' := Aside0.mk H
     clear H
     go_wp2_with (first | ((with_reducible refine gate_callee (f := 10) rfl ?_); refine goesL_ (some 16) rfl rfl Tryd.func10 (by kernel_rfl) rfl #[.slice A0 l0.length c0] rfl (by (try simp only [List.map_toArray, List.map_cons, List.map_nil]); first | done | rfl | (simp only [List.length_drop, List.length_take]; rfl)) ?_; (with_reducible refine (piece_Cut.calls _ _ l0 t428 none _ ?side1 ?side2 A10.out).mono ?_); (case side1 => repeat (first | exact (Kd.C_below HR0.out HB.out) | (with_reducible refine Kd.C_alloc ?_ _) | (with_reducible refine Kd.C_drewN ?_ _) | (with_reducible refine Kd.C_drew ?_))); (case side2 => exact HC0.out); rintro e w11 ⟨v430, rfl, ho0, hb⟩; refine ⟨_, rfl, ?_⟩; have n0_ := Aside0.mk (Kd.S_lower ho0 (below_size (by repeat (first | (with_reducible first | exact HB.out | apply below_alloc | apply pw_below_drewN | apply below_drew1) | exact HB.out)))); have n1_ := Aside0.mk (below_step (by repeat (first | (with_reducible first | exact HB.out | apply below_alloc | apply pw_below_drewN | apply below_drew1) | exact HB.out)) hb); clear HB; have HO431 := n0_; have HB := n1_; clear n0_ n1_; (try clear hb); (try clear hb2); (try clear hk); (try clear hi); (try clear ho0); (try simp only [errW_none, errW_some])))
     (try simp only [add_plain])
     go_loopg [5] kj1 (fun kq v5 w' => ∃ (x5_2 : Int), v5 = .int .i64 x5_2 ∧ Aside0 (shutterlaw22_PieceCounts.l0 kq l0 t428 x5_2 = some r) ∧ Aside0 (kq ≤ kj1) ∧ Aside0 (Kd.S k34 34 w' w.heap.size (fun _ => True) v430 t428) ∧ Aside0 (Below w.heap.size w w'))
     case atStart => exact ⟨(0), (by first | rfl | (simp; done) | (simp [*]; done)), H', ⟨Nat.le_refl _⟩, ⟨by (with_reducible repeat (first | apply Kd.S_alloc | apply Kd.S_drewN | apply Kd.S_drew)); exact HO431.out⟩, ⟨by repeat (first | (with_reducible first | exact HB.out | apply below_alloc | apply pw_below_drewN | apply below_drew1) | exact HB.out)⟩⟩
     case round =>
      clear H'
      try clear c1
      try clear p2
      try clear c4
      try clear q4
      try clear c7
      try clear c8
      try clear c9
      try clear c10
      try clear p2
      try clear q432
      obtain ⟨x5_2, rfl, HA, HK2, HO_3, HB⟩ := hrel
      cases gk with
      | zero => exact absurd HA.out (by simp [shutterlaw22_PieceCounts.l0])
      | succ k2 =>
       have H := HA.out
       clear HA
       simp only [shutterlaw22_PieceCounts.l0] at H
       by_cases c12 : x5_2 < (t428.length : Int)
       ·rw [if_pos c12] at H
        have c12b0 : decide (x5_2 < (t428.length : Int)) = true := decide_eq_true c12
        clear c12
        by_cases c13 : (wrap64 (x5_2 + 1)) < (t428.length : Int)
        ·rw [if_pos c13] at H
         have c13b0 : decide ((wrap64 (x5_2 + 1)) < (t428.length : Int)) = true := decide_eq_true c13
         clear c13
         by_cases c14 : 0 ≤ x5_2
         ·rw [if_pos c14] at H
          have c14b0 : decide (0 ≤ x5_2) = true := decide_eq_true c14
          clear c14
          by_cases c15 : (((rd_T34 t428 x5_2).f3).length : Int) = 64
          ·rw [if_pos c15] at H
           have c15b0 : ((((rd_T34 t428 x5_2).f3).length : Int) == 64) = true := beq_iff_eq.mpr c15
           have c15b1 : ((((rd_T34 t428 x5_2).f3).length : Int) != 64) = false := bne_eq_false_iff_eq.mpr c15
           clear c15
           by_cases c16 : (((rd_T34 t428 x5_2).f3).length : Int) < 1
           ·rw [if_pos c16] at H
            exact absurd H (by simp)
           ·rw [if_neg c16] at H
            have c16b0 : decide ((((rd_T34 t428 x5_2).f3).length : Int) < 1) = false := decide_eq_false c16
            have c16b1 : decide (((rd_T34 t428 x5_2).f3).length < 1) = false := decide_eq_false (by omega)
            clear c16
            by_cases c17 : (((rd_T34 t428 x5_2).f3).length : Int) > 64
            ·rw [if_pos c17] at H
             exact absurd H (by simp)
            ·rw [if_neg c17] at H
             have c17b0 : decide (64 < (((rd_T34 t428 x5_2).f3).length : Int)) = false := decide_eq_false c17
             have c17b1 : decide (64 < ((rd_T34 t428 x5_2).f3).length) = false := decide_eq_false (by omega)
             clear c17
             have H' := Aside0.mk H
             clear H
             obtain ⟨Ao18, co18, eo18⟩ := Kd.S_slice HO_3.out
             subst eo18
             have p433 : 0 ≤ (x5_2 : Int) := of_decide_eq_true (by first | (with_reducible assumption) | assumption)
             have q433 : x5_2 < (t428.length : Int) := of_decide_eq_true (by first | (with_reducible assumption) | assumption)
             obtain ⟨ad433, A433_3, c433_3, e433, hx433_0, hx433_1, hx433_2, hx433_3, hl433_3, hi433_3⟩ := at_T34 (Kd.S_reads' HO_3.out).2.2 x5_2 p433 q433
             cases e433
             obtain ⟨ce433, hce433, hMe433, hcc433⟩ := Kd.S_get HO_3.out z34 x5_2 p433 (by first | exact q433 | exact of_decide_eq_true (by first | (with_reducible assumption) | assumption) | (have e_ := (Kd.S_reads' HO_3.out).1; omega))
             obtain ⟨ve433_3, rfl, ge433_3⟩ := k34_openM hMe433
             have hv433_3 := hcc433 3 _ rfl
             rw [add_field _ _ 3 (by omega)] at hv433_3
             replace hv433_3 := Option.some.inj (hv433_3.symm.trans hx433_3)
             rw [hv433_3] at ge433_3
             have HL433_3 := Aside0.mk (show Kd.R (Kd.int .u8) 5 _ _ _ _ ((rd_T34 t428 x5_2).f3) from ge433_3)
             clear hv433_3 ge433_3
             clear hcc433 hce433
             have HR433_3 := Aside0.mk hi433_3
             have HC433_3 := Aside0.mk hl433_3
             clear hi433_3 hl433_3
             replace p433 := eq_true p433
             replace q433 := eq_true q433
             have p434 : 0 ≤ (x5_2 : Int) := of_decide_eq_true (by first | (with_reducible assumption) | assumption)
             have q434 : x5_2 < (t428.length : Int) := of_decide_eq_true (by first | (with_reducible assumption) | assumption)
             obtain ⟨ad434, A434_3, c434_3, e434, hx434_0, hx434_1, hx434_2, hx434_3, hl434_3, hi434_3⟩ := at_T34 (Kd.S_reads' HO_3.out).2.2 x5_2 p434 q434
             obtain rfl : ad433 = ad434 := (by injection e434)
             obtain ⟨ce434, hce434, hMe434, hcc434⟩ := Kd.S_get HO_3.out z34 x5_2 p434 (by first | exact q434 | exact of_decide_eq_true (by first | (with_reducible assumption) | assumption) | (have e_ := (Kd.S_reads' HO_3.out).1; omega))
             obtain ⟨ve434_3, rfl, ge434_3⟩ := k34_openM hMe434
             have hv434_3 := hcc434 3 _ rfl
             rw [add_field _ _ 3 (by omega)] at hv434_3
             replace hv434_3 := Option.some.inj (hv434_3.symm.trans hx434_3)
             rw [hv434_3] at ge434_3
             have HL434_3 := Aside0.mk (show Kd.R (Kd.int .u8) 5 _ _ _ _ ((rd_T34 t428 x5_2).f3) from ge434_3)
             clear hv434_3 ge434_3
             clear hcc434 hce434
             have HR434_3 := Aside0.mk hi434_3
             have HC434_3 := Aside0.mk hl434_3
             clear hi434_3 hl434_3
             replace p434 := eq_true p434
             replace q434 := eq_true q434
             have ea_ := Option.some.inj (hx433_3.symm.trans hx434_3)
             injection ea_ with ea_ en_ ec_
             subst ea_
             subst ec_
             clear en_
             have p435 : 0 ≤ (x5_2 : Int) := of_decide_eq_true (by first | (with_reducible assumption) | assumption)
             have q435 : x5_2 < (t428.length : Int) := of_decide_eq_true (by first | (with_reducible assumption) | assumption)
             obtain ⟨ad435, A435_3, c435_3, e435, hx435_0, hx435_1, hx435_2, hx435_3, hl435_3, hi435_3⟩ := at_T34 (Kd.S_reads' HO_3.out).2.2 x5_2 p435 q435
             obtain rfl : ad433 = ad435 := (by injection e435)
             obtain ⟨ce435, hce435, hMe435, hcc435⟩ := Kd.S_get HO_3.out z34 x5_2 p435 (by first | exact q435 | exact of_decide_eq_true (by first | (with_reducible assumption) | assumption) | (have e_ := (Kd.S_reads' HO_3.out).1; omega))
             obtain ⟨ve435_3, rfl, ge435_3⟩ := k34_openM hMe435
             have hv435_3 := hcc435 3 _ rfl
             rw [add_field _ _ 3 (by omega)] at hv435_3
             replace hv435_3 := Option.some.inj (hv435_3.symm.trans hx435_3)
             rw [hv435_3] at ge435_3
             have HL435_3 := Aside0.mk (show Kd.R (Kd.int .u8) 5 _ _ _ _ ((rd_T34 t428 x5_2).f3) from ge435_3)
             clear hv435_3 ge435_3
             clear hcc435 hce435
             have HR435_3 := Aside0.mk hi435_3
             have HC435_3 := Aside0.mk hl435_3
             clear hi435_3 hl435_3
             replace p435 := eq_true p435
             replace q435 := eq_true q435
             have ea_ := Option.some.inj (hx433_3.symm.trans hx435_3)
             injection ea_ with ea_ en_ ec_
             subst ea_
             subst ec_
             clear en_
             go_wp2
             (try simp only [add_plain])
             go_roundg k2
             case measure => have := HJ1.out; have := HK2.out; omega
             case rel => exact ⟨(wrap64 (x5_2 + 1)), (by first | rfl | (simp; done) | (simp [*]; done)), H', ⟨by have := HJ1.out; have := HK2.out; omega⟩, ⟨by (with_reducible repeat (first | apply Kd.S_alloc | apply Kd.S_drewN | apply Kd.S_drew)); exact HO_3.out⟩, ⟨by repeat (first | (with_reducible first | exact HB.out | apply below_alloc | apply pw_below_drewN | apply below_drew1) | exact HB.out)⟩⟩
          ·rw [if_neg c15] at H
           exact absurd H (by simp)
         ·rw [if_neg c14] at H
          exact absurd H (by simp)
        ·rw [if_neg c13] at H
         have c13b0 : decide ((wrap64 (x5_2 + 1)) < (t428.length : Int)) = false := decide_eq_false c13
         clear c13
         by_cases c19 : 0 ≤ x5_2
         ·rw [if_pos c19] at H
          have c19b0 : decide (0 ≤ x5_2) = true := decide_eq_true c19
          clear c19
          by_cases c20 : (((rd_T34 t428 x5_2).f3).length : Int) < 1
          ·rw [if_pos c20] at H
           exact absurd H (by simp)
          ·rw [if_neg c20] at H
           have c20b0 : decide ((((rd_T34 t428 x5_2).f3).length : Int) < 1) = false := decide_eq_false c20
           have c20b1 : decide (((rd_T34 t428 x5_2).f3).length < 1) = false := decide_eq_false (by omega)
           clear c20
           by_cases c21 : (((rd_T34 t428 x5_2).f3).length : Int) > 64
           ·rw [if_pos c21] at H
            exact absurd H (by simp)
           ·rw [if_neg c21] at H
            have c21b0 : decide (64 < (((rd_T34 t428 x5_2).f3).length : Int)) = false := decide_eq_false c21
            have c21b1 : decide (64 < ((rd_T34 t428 x5_2).f3).length) = false := decide_eq_false (by omega)
            clear c21
            have H' := Aside0.mk H
            clear H
            obtain ⟨Ao22, co22, eo22⟩ := Kd.S_slice HO_3.out
            subst eo22
            have p436 : 0 ≤ (x5_2 : Int) := of_decide_eq_true (by first | (with_reducible assumption) | assumption)
            have q436 : x5_2 < (t428.length : Int) := of_decide_eq_true (by first | (with_reducible assumption) | assumption)
            obtain ⟨ad436, A436_3, c436_3, e436, hx436_0, hx436_1, hx436_2, hx436_3, hl436_3, hi436_3⟩ := at_T34 (Kd.S_reads' HO_3.out).2.2 x5_2 p436 q436
            cases e436
            obtain ⟨ce436, hce436, hMe436, hcc436⟩ := Kd.S_get HO_3.out z34 x5_2 p436 (by first | exact q436 | exact of_decide_eq_true (by first | (with_reducible assumption) | assumption) | (have e_ := (Kd.S_reads' HO_3.out).1; omega))
            obtain ⟨ve436_3, rfl, ge436_3⟩ := k34_openM hMe436
            have hv436_3 := hcc436 3 _ rfl
            rw [add_field _ _ 3 (by omega)] at hv436_3
            replace hv436_3 := Option.some.inj (hv436_3.symm.trans hx436_3)
            rw [hv436_3] at ge436_3
            have HL436_3 := Aside0.mk (show Kd.R (Kd.int .u8) 5 _ _ _ _ ((rd_T34 t428 x5_2).f3) from ge436_3)
            clear hv436_3 ge436_3
            clear hcc436 hce436
            have HR436_3 := Aside0.mk hi436_3
            have HC436_3 := Aside0.mk hl436_3
            clear hi436_3 hl436_3
            replace p436 := eq_true p436
            replace q436 := eq_true q436
            have p437 : 0 ≤ (x5_2 : Int) := of_decide_eq_true (by first | (with_reducible assumption) | assumption)
            have q437 : x5_2 < (t428.length : Int) := of_decide_eq_true (by first | (with_reducible assumption) | assumption)
            obtain ⟨ad437, A437_3, c437_3, e437, hx437_0, hx437_1, hx437_2, hx437_3, hl437_3, hi437_3⟩ := at_T34 (Kd.S_reads' HO_3.out).2.2 x5_2 p437 q437
            obtain rfl : ad436 = ad437 := (by injection e437)
            obtain ⟨ce437, hce437, hMe437, hcc437⟩ := Kd.S_get HO_3.out z34 x5_2 p437 (by first | exact q437 | exact of_decide_eq_true (by first | (with_reducible assumption) | assumption) | (have e_ := (Kd.S_reads' HO_3.out).1; omega))
            obtain ⟨ve437_3, rfl, ge437_3⟩ := k34_openM hMe437
            have hv437_3 := hcc437 3 _ rfl
            rw [add_field _ _ 3 (by omega)] at hv437_3
            replace hv437_3 := Option.some.inj (hv437_3.symm.trans hx437_3)
            rw [hv437_3] at ge437_3
            have HL437_3 := Aside0.mk (show Kd.R (Kd.int .u8) 5 _ _ _ _ ((rd_T34 t428 x5_2).f3) from ge437_3)
            clear hv437_3 ge437_3
            clear hcc437 hce437
            have HR437_3 := Aside0.mk hi437_3
            have HC437_3 := Aside0.mk hl437_3
            clear hi437_3 hl437_3
            replace p437 := eq_true p437
            replace q437 := eq_true q437
            have ea_ := Option.some.inj (hx436_3.symm.trans hx437_3)
            injection ea_ with ea_ en_ ec_
            subst ea_
            subst ec_
            clear en_
            go_wp2
            (try simp only [add_plain])
            go_roundg k2
            case measure => have := HJ1.out; have := HK2.out; omega
            case rel => exact ⟨(wrap64 (x5_2 + 1)), (by first | rfl | (simp; done) | (simp [*]; done)), H', ⟨by have := HJ1.out; have := HK2.out; omega⟩, ⟨by (with_reducible repeat (first | apply Kd.S_alloc | apply Kd.S_drewN | apply Kd.S_drew)); exact HO_3.out⟩, ⟨by repeat (first | (with_reducible first | exact HB.out | apply below_alloc | apply pw_below_drewN | apply below_drew1) | exact HB.out)⟩⟩
         ·rw [if_neg c19] at H
          exact absurd H (by simp)
       ·rw [if_neg c12] at H
        have c12b0 : decide (x5_2 < (t428.length : Int)) = false := decide_eq_false c12
        clear c12
        by_cases c23 : (wrap64 (64 * (wrap64 ((t428.length : Int) - 1)))) < (l0.length : Int)
        ·rw [if_pos c23] at H
         have c23b0 : decide ((wrap64 (64 * (wrap64 ((t428.length : Int) - 1)))) < (l0.length : Int)) = true := decide_eq_true c23
         clear c23
         obtain rfl := Option.some.inj H
         obtain ⟨Ao24, co24, eo24⟩ := Kd.S_slice HO_3.out
         subst eo24
         go_wp2
         go_ret
         exact ⟨by first | rfl | (simp [errW_none, errW_some] <;> rfl) | (simp [*, errW_none, errW_some] <;> rfl), by repeat (first | (with_reducible first | exact HB.out | apply below_alloc | apply pw_below_drewN | apply below_drew1) | exact HB.out)⟩
        ·rw [if_neg c23] at H
         exact absurd H (by simp)
    ·have H1 : (if (l0.length : Int) = 0 then (some true) else (some (decide ((l0.length : Int) > 8192)))) = some r := by rw [if_neg (show ¬ (some q432).isNone = true by simp)] at H; exact H
     clear H
     have H := H1
     clear H1
     try simp only [errW_none, errW_some]
     by_cases c25 : (l0.length : Int) = 0
     ·rw [if_pos c25] at H
      have c25b0 : ((l0.length : Int) == 0) = true := beq_iff_eq.mpr c25
      have c25b1 : ((l0.length : Int) != 0) = false := bne_eq_false_iff_eq.mpr c25
      clear c25
      obtain rfl := Option.some.inj H
      go_wp2_with (first | ((with_reducible refine gate_callee (f := 10) rfl ?_); refine goesL_ (some 16) rfl rfl Tryd.func10 (by kernel_rfl) rfl #[.slice A0 l0.length c0] rfl (by (try simp only [List.map_toArray, List.map_cons, List.map_nil]); first | done | rfl | (simp only [List.length_drop, List.length_take]; rfl)) ?_; (with_reducible refine (piece_Cut.calls _ _ l0 t428 (some q432) _ ?side1 ?side2 A10.out).mono ?_); (case side1 => repeat (first | exact (Kd.C_below HR0.out HB.out) | (with_reducible refine Kd.C_alloc ?_ _) | (with_reducible refine Kd.C_drewN ?_ _) | (with_reducible refine Kd.C_drew ?_))); (case side2 => exact HC0.out); rintro e w26 ⟨v430, rfl, ho0, hb⟩; refine ⟨_, rfl, ?_⟩; have n0_ := Aside0.mk (Kd.S_lower ho0 (below_size (by repeat (first | (with_reducible first | exact HB.out | apply below_alloc | apply pw_below_drewN | apply below_drew1) | exact HB.out)))); have n1_ := Aside0.mk (below_step (by repeat (first | (with_reducible first | exact HB.out | apply below_alloc | apply pw_below_drewN | apply below_drew1) | exact HB.out)) hb); clear HB; have HO431 := n0_; have HB := n1_; clear n0_ n1_; (try clear hb); (try clear hb2); (try clear hk); (try clear hi); (try clear ho0); (try simp only [errW_none, errW_some])))
      go_ret
      exact ⟨by first | rfl | (simp [errW_none, errW_some] <;> rfl) | (simp [*, errW_none, errW_some] <;> rfl), by repeat (first | (with_reducible first | exact HB.out | apply below_alloc | apply pw_below_drewN | apply below_drew1) | exact HB.out)⟩
     ·rw [if_neg c25] at H
      have c25b0 : ((l0.length : Int) == 0) = false := beq_eq_false_iff_ne.mpr c25
      have c25b1 : ((l0.length : Int) != 0) = true := bne_iff_ne.mpr c25
      have c25b2 : ¬ (l0 = []) := fun h_ => c25 (by rw [h_]; rfl)
      obtain rfl := Option.some.inj H
      go_wp2_with (first | ((with_reducible refine gate_callee (f := 10) rfl ?_); refine goesL_ (some 16) rfl rfl Tryd.func10 (by kernel_rfl) rfl #[.slice A0 l0.length c0] rfl (by (try simp only [List.map_toArray, List.map_cons, List.map_nil]); first | done | rfl | (simp only [List.length_drop, List.length_take]; rfl)) ?_; (with_reducible refine (piece_Cut.calls _ _ l0 t428 (some q432) _ ?side1 ?side2 A10.out).mono ?_); (case side1 => repeat (first | exact (Kd.C_below HR0.out HB.out) | (with_reducible refine Kd.C_alloc ?_ _) | (with_reducible refine Kd.C_drewN ?_ _) | (with_reducible refine Kd.C_drew ?_))); (case side2 => exact HC0.out); rintro e w27 ⟨v430, rfl, ho0, hb⟩; refine ⟨_, rfl, ?_⟩; have n0_ := Aside0.mk (Kd.S_lower ho0 (below_size (by repeat (first | (with_reducible first | exact HB.out | apply below_alloc | apply pw_below_drewN | apply below_drew1) | exact HB.out)))); have n1_ := Aside0.mk (below_step (by repeat (first | (with_reducible first | exact HB.out | apply below_alloc | apply pw_below_drewN | apply below_drew1) | exact HB.out)) hb); clear HB; have HO431 := n0_; have HB := n1_; clear n0_ n1_; (try clear hb); (try clear hb2); (try clear hk); (try clear hi); (try clear ho0); (try simp only [errW_none, errW_some])))
      go_ret
      exact ⟨by first | rfl | (simp [errW_none, errW_some] <;> rfl) | (simp [*, errW_none, errW_some] <;> rfl), by repeat (first | (with_reducible first | exact HB.out | apply below_alloc | apply pw_below_drewN | apply below_drew1) | exact HB.out)⟩

/-- THE ONE PURE STATEMENT of shutterlaw22_PieceCounts: yours. -/
def shutterlaw22_PieceCounts.Pure : Prop := ∀ (l0 : List Int), l0.length ≤ maxLen → l0.length * 1 ≤ 140737488351232 → (∀ x ∈ l0, (Lit.int .u8 x).wf = true) → ∃ k, shutterlaw22_PieceCounts.f k l0 = some true
theorem shutterlaw22_PieceCounts.walk (P : shutterlaw22_PieceCounts.Pure) (a0 : Option Addr) (len0 cap0 : Nat) (z0 : List Int) (w : World) (hGl : Aside0 (Code.Gl w)) (w0 : (a0 = none ∧ len0 = 0 ∧ cap0 = 0 ∧ z0 = []) ∨ ∃ x, a0 = some x ∧ len0 ≤ cap0 ∧ cap0 ≤ maxLen ∧ z0.length = cap0 ∧ (∀ i, i < z0.length → w.cell? (x.add i) = some (.int .u8 (z0.getD i 0))) ∧ ∀ n ∈ z0, (Lit.int .u8 n).wf = true) (y0 : len0 * 1 ≤ 140737488351232) :
  Calls Tryd.prog 8 #[.slice a0 len0 cap0] w fun e w' => e = .returned (.bool true) ∧ Below w.heap.size w w' := by
 obtain ⟨l0, rfl, hr0, hm0, hw0, hc0⟩ := ReadsInt.ofRowC w0
 obtain ⟨k, h⟩ := P l0 hm0 y0 hw0
 refine (shutterlaw22_PieceCounts.calls k _ _ l0 true w hGl (Kd.C_of_reads (d := (0 : Int)) (h1 := fun _ => rfl) hr0) hc0 h).mono ?_
 rintro e w' ⟨rfl, hd⟩
 exact ⟨rfl, hd⟩

end Go.Proofs.YtfmlndkibnjbmaaDoor.YPiece

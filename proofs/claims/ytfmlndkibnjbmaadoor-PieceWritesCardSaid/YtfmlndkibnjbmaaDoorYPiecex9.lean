-- Own text, made by this session out of the translation by wip/tools/xprint.sh: Lean functions with the answers of Go functions, and their walks.
import Derived.Test.YtfmlndkibnjbmaaDoorYPiecex0
import Derived.Test.YtfmlndkibnjbmaaDoorYPiecex1
import Derived.Test.YtfmlndkibnjbmaaDoorYPiecex3
import Derived.Test.YtfmlndkibnjbmaaDoorYPiecex4
import Derived.Test.YtfmlndkibnjbmaaDoorYPiecex5
import Derived.Test.YtfmlndkibnjbmaaDoorYPiecex7
import Derived.Test.YtfmlndkibnjbmaaDoorYPiecex8
namespace Go.Proofs.YtfmlndkibnjbmaaDoor.YPiece
open Go.RowKit Go.Proofs.YtfmlndkibnjbmaaDoorW.PrintWords Go.Proofs.YtfmlndkibnjbmaaDoorW.PrintLast Go.Proofs.YtfmlndkibnjbmaaDoorW.PrintMore
attribute [local go_sem] max2_int min2_int max_two min_two max_three min_three max_four min_four   -- for this text's walks alone
set_option linter.unusedVariables false
set_option linter.unusedSimpArgs false

/-! ### shutterlaw22_PieceWrites: function 4 -/
mutual
def shutterlaw22_PieceWrites.j0 : Nat → List Int → Bool → Int → Int → Bool → List Int → Option (Bool)
 | 0, _, _, _, _, _, _ => none
 | k + 1, x1, x23, x281000, x281001, x281002, x281003 => if x23 = true then ((shutterlaw22_awake.f k).bind fun t282 => (some t282)) else ((piece_Write.f k x281000 x281001 x281002 x281003).bind fun bt283 => ((shutterref22_May.f k x281000 x281001 x281002 x281003).bind fun t287 => (if t287 = true then (if bt283.2.isNone = true then ((shutterref22_Write.f k x281000 x281001 x281002 x281003).bind fun t289 => ((shutterref01_Same.f k bt283.1 t289).bind fun t292 => (if t292 = true then (shutterlaw22_PieceWrites.j1 k x1 x281000 x281001 x281002 x281003) else (none)))) else (none)) else ((api_Code.f bt283.2).bind fun t293 => (if t293 = 1 then (if (bt283.1.length : Int) = 0 then (shutterlaw22_PieceWrites.j1 k x1 x281000 x281001 x281002 x281003) else (none)) else (none))))))
def shutterlaw22_PieceWrites.j1 : Nat → List Int → Int → Int → Bool → List Int → Option (Bool)
 | 0, _, _, _, _, _ => none
 | k + 1, x1, x281000, x281001, x281002, x281003 => (piece_Read.f k x1).bind fun bt294 => ((shutterref22_Read.f k x1).bind fun bt302 => ((shutterref22_Same.f k bt294.1 bt294.2.1 bt294.2.2.1 bt294.2.2.2.1 bt302.1 bt302.2.1 bt302.2.2.1 bt302.2.2.2.1).bind fun t310 => (if t310 = true then ((api_Code.f bt294.2.2.2.2).bind fun t311 => (if t311 = bt302.2.2.2.2 then ((piece_Same.f k x281000 x281001 x281002 x281003 bt294.1 bt294.2.1 bt294.2.2.1 bt294.2.2.2.1).bind fun t312 => ((shutterref22_Same.f k x281000 x281001 x281002 x281003 bt294.1 bt294.2.1 bt294.2.2.1 bt294.2.2.2.1).bind fun t313 => (some (t312 == t313)))) else (none))) else (none))))
end
def shutterlaw22_PieceWrites.f (k : Nat) (a0_0 : Int) (a0_1 : Int) (a0_2 : Bool) (l0_3 : List Int) (l1 : List Int) : Option (Bool) := (shutterlaw22_awake.f k).bind fun t281 => (if t281 = true then (if (l0_3.length : Int) > 300 then (shutterlaw22_PieceWrites.j0 k l1 true a0_0 a0_1 a0_2 l0_3) else (shutterlaw22_PieceWrites.j0 k l1 (decide ((l1.length : Int) > 300)) a0_0 a0_1 a0_2 l0_3)) else (shutterlaw22_PieceWrites.j0 k l1 true a0_0 a0_1 a0_2 l0_3))
theorem shutterlaw22_PieceWrites.mono_l : ∀ k, (∀ y0 y1 y2 y3 y4 y5, LeO (shutterlaw22_PieceWrites.j0 k y0 y1 y2 y3 y4 y5) (shutterlaw22_PieceWrites.j0 (k + 1) y0 y1 y2 y3 y4 y5)) ∧ (∀ y0 y1 y2 y3 y4, LeO (shutterlaw22_PieceWrites.j1 k y0 y1 y2 y3 y4) (shutterlaw22_PieceWrites.j1 (k + 1) y0 y1 y2 y3 y4))
 | 0 => ⟨fun _ _ _ _ _ _ r h => by simp [shutterlaw22_PieceWrites.j0] at h, fun _ _ _ _ _ r h => by simp [shutterlaw22_PieceWrites.j1] at h⟩
 | k + 1 => by
  obtain ⟨ih0, ih1⟩ := shutterlaw22_PieceWrites.mono_l k
  refine ⟨?_, ?_⟩
  ·intro y0 y1 y2 y3 y4 y5
   unfold shutterlaw22_PieceWrites.j0
   repeat' first
   | (with_reducible exact ih0 _ _ _ _ _ _)
   | (with_reducible exact ih1 _ _ _ _ _)
   | (with_reducible exact piece_Read.mono _ _)
   | (with_reducible exact piece_Same.mono _ _ _ _ _ _ _ _ _)
   | (with_reducible exact piece_Write.mono _ _ _ _ _)
   | (with_reducible exact shutterlaw22_awake.mono _)
   | (with_reducible exact shutterref01_Same.mono _ _ _)
   | (with_reducible exact shutterref22_May.mono _ _ _ _ _)
   | (with_reducible exact shutterref22_Read.mono _ _)
   | (with_reducible exact shutterref22_Same.mono _ _ _ _ _ _ _ _ _)
   | (with_reducible exact shutterref22_Write.mono _ _ _ _ _)
   | (with_reducible exact LeO.refl _)
   | (with_reducible exact LeO.none _)
   | (with_reducible refine LeO.ite ?_ ?_)
   | (with_reducible refine LeO.bind ?_ (fun _ => ?_))
   | exact ih0 _ _ _ _ _ _
   | exact ih1 _ _ _ _ _
   | exact piece_Read.mono _ _
   | exact piece_Same.mono _ _ _ _ _ _ _ _ _
   | exact piece_Write.mono _ _ _ _ _
   | exact shutterlaw22_awake.mono _
   | exact shutterref01_Same.mono _ _ _
   | exact shutterref22_May.mono _ _ _ _ _
   | exact shutterref22_Read.mono _ _
   | exact shutterref22_Same.mono _ _ _ _ _ _ _ _ _
   | exact shutterref22_Write.mono _ _ _ _ _
   | exact LeO.none _
   | refine LeO.ite ?_ ?_
   | refine LeO.bind ?_ (fun _ => ?_)
  ·intro y0 y1 y2 y3 y4
   unfold shutterlaw22_PieceWrites.j1
   repeat' first
   | (with_reducible exact ih0 _ _ _ _ _ _)
   | (with_reducible exact ih1 _ _ _ _ _)
   | (with_reducible exact piece_Read.mono _ _)
   | (with_reducible exact piece_Same.mono _ _ _ _ _ _ _ _ _)
   | (with_reducible exact piece_Write.mono _ _ _ _ _)
   | (with_reducible exact shutterlaw22_awake.mono _)
   | (with_reducible exact shutterref01_Same.mono _ _ _)
   | (with_reducible exact shutterref22_May.mono _ _ _ _ _)
   | (with_reducible exact shutterref22_Read.mono _ _)
   | (with_reducible exact shutterref22_Same.mono _ _ _ _ _ _ _ _ _)
   | (with_reducible exact shutterref22_Write.mono _ _ _ _ _)
   | (with_reducible exact LeO.refl _)
   | (with_reducible exact LeO.none _)
   | (with_reducible refine LeO.ite ?_ ?_)
   | (with_reducible refine LeO.bind ?_ (fun _ => ?_))
   | exact ih0 _ _ _ _ _ _
   | exact ih1 _ _ _ _ _
   | exact piece_Read.mono _ _
   | exact piece_Same.mono _ _ _ _ _ _ _ _ _
   | exact piece_Write.mono _ _ _ _ _
   | exact shutterlaw22_awake.mono _
   | exact shutterref01_Same.mono _ _ _
   | exact shutterref22_May.mono _ _ _ _ _
   | exact shutterref22_Read.mono _ _
   | exact shutterref22_Same.mono _ _ _ _ _ _ _ _ _
   | exact shutterref22_Write.mono _ _ _ _ _
   | exact LeO.none _
   | refine LeO.ite ?_ ?_
   | refine LeO.bind ?_ (fun _ => ?_)
theorem shutterlaw22_PieceWrites.mono : ∀ a0 a1 a2 a3 a4 k, LeO (shutterlaw22_PieceWrites.f k a0 a1 a2 a3 a4) (shutterlaw22_PieceWrites.f (k + 1) a0 a1 a2 a3 a4) := by
 intro a0 a1 a2 a3 a4 k
 obtain ⟨ih0, ih1⟩ := shutterlaw22_PieceWrites.mono_l k
 unfold shutterlaw22_PieceWrites.f
 repeat' first
   | (with_reducible exact ih0 _ _ _ _ _ _)
   | (with_reducible exact ih1 _ _ _ _ _)
   | (with_reducible exact piece_Read.mono _ _)
   | (with_reducible exact piece_Same.mono _ _ _ _ _ _ _ _ _)
   | (with_reducible exact piece_Write.mono _ _ _ _ _)
   | (with_reducible exact shutterlaw22_awake.mono _)
   | (with_reducible exact shutterref01_Same.mono _ _ _)
   | (with_reducible exact shutterref22_May.mono _ _ _ _ _)
   | (with_reducible exact shutterref22_Read.mono _ _)
   | (with_reducible exact shutterref22_Same.mono _ _ _ _ _ _ _ _ _)
   | (with_reducible exact shutterref22_Write.mono _ _ _ _ _)
   | (with_reducible exact LeO.refl _)
   | (with_reducible exact LeO.none _)
   | (with_reducible refine LeO.ite ?_ ?_)
   | (with_reducible refine LeO.bind ?_ (fun _ => ?_))
   | exact ih0 _ _ _ _ _ _
   | exact ih1 _ _ _ _ _
   | exact piece_Read.mono _ _
   | exact piece_Same.mono _ _ _ _ _ _ _ _ _
   | exact piece_Write.mono _ _ _ _ _
   | exact shutterlaw22_awake.mono _
   | exact shutterref01_Same.mono _ _ _
   | exact shutterref22_May.mono _ _ _ _ _
   | exact shutterref22_Read.mono _ _
   | exact shutterref22_Same.mono _ _ _ _ _ _ _ _ _
   | exact shutterref22_Write.mono _ _ _ _ _
   | exact LeO.none _
   | refine LeO.ite ?_ ?_
   | refine LeO.bind ?_ (fun _ => ?_)
def shutterlaw22_PieceWrites.T11 : Bool × List (List Nat × List Nat) := (true, [([], []), ([], []), ([0, 1], [0, 1]), ([2, 2], [2]), ([3], [3]), ([4, 3, 3], [3, 4]), ([3], [3]), ([5, 6, 3], [3, 5, 6]), ([3, 7], [3, 7]), ([8, 5], [8]), ([9], [9]), ([9], [9]), ([10, 11, 9, 9], [9, 10, 11]), ([9], [9]), ([9], [9]), ([13, 14, 12, 9], [9, 13, 14]), ([12, 15, 9], [9, 12, 15]), ([9, 16], [9, 16]), ([17, 15, 0, 1, 2, 3, 4, 5, 6, 7, 8, 9, 10, 11, 12, 13, 14, 15, 16, 17], [17])])
def shutterlaw22_PieceWrites.B11 : List Nat := [0, 0, 3, 7, 15, 31, 15, 127, 255, 511, 1023, 1023, 4095, 1023, 1023, 32767, 65535, 131071, 262143]
theorem shutterlaw22_PieceWrites.tab11 : rtab .any (opsOf Tryd.f4 11) = shutterlaw22_PieceWrites.T11 := by kernel_rfl
theorem shutterlaw22_PieceWrites.bits11 : waitsOk shutterlaw22_PieceWrites.T11.2 shutterlaw22_PieceWrites.B11 = true := by kernel_rfl
set_option maxHeartbeats 8000000 in
set_option maxRecDepth 100000 in
theorem shutterlaw22_PieceWrites.calls (k : Nat) (a0_0 : Int) (a0_1 : Int) (a0_2 : Bool) (A0_3 : Option Addr) (c0_3 : Nat) (l0_3 : List Int) (A1 : Option Addr) (c1 : Nat) (l1 : List Int) (r : Bool) (w : World) (hGl : Aside0 (Code.Gl w)) (hr0_3 : Kd.C (Kd.int .u8) w A0_3 l0_3.length l0_3) (hc0_3 : l0_3.length ≤ c0_3) (hr1 : Kd.C (Kd.int .u8) w A1 l1.length l1) (hc1 : l1.length ≤ c1) (h : shutterlaw22_PieceWrites.f k a0_0 a0_1 a0_2 l0_3 l1 = some r) :
  Calls Tryd.prog 4 #[.agg #[.int .i64 a0_0, .int .i64 a0_1, .bool a0_2, .slice A0_3 l0_3.length c0_3], .slice A1 l1.length c1] w fun e w' => e = .returned (.bool r) ∧ Below w.heap.size w w' := by
 have hu34 := Tryd.underlying34
 have hu26 := Tryd.underlying26
 have hu46 := Tryd.underlying46
 have HR0_3 := Aside0.mk hr0_3
 have HC0_3 := Aside0.mk hc0_3
 clear hr0_3 hc0_3
 have HR1 := Aside0.mk hr1
 have HC1 := Aside0.mk hc1
 clear hr1 hc1
 have HB := Aside0.mk (Below.refl w.heap.size w)
 have H : ((shutterlaw22_awake.f k).bind fun t281 => (if t281 = true then (if (l0_3.length : Int) > 300 then (shutterlaw22_PieceWrites.j0 k l1 true a0_0 a0_1 a0_2 l0_3) else (shutterlaw22_PieceWrites.j0 k l1 (decide ((l1.length : Int) > 300)) a0_0 a0_1 a0_2 l0_3)) else (shutterlaw22_PieceWrites.j0 k l1 true a0_0 a0_1 a0_2 l0_3))) = some r := h
 clear h
 have HC3 := Aside0.mk H
 clear H
 go_enter Tryd.func4, Tryd.ntmps4
 go_upto_region 1 with (first | ((with_reducible refine gate_dst (N := 2) rfl ?_); (try (refine gate_guard (by rfl) ?_; dsimp only)); refine box_event ?hg (N := 2) ?hd (cs := #[.int .i64 a0_0, .int .i64 a0_1, .bool a0_2, .slice A0_3 l0_3.length c0_3]) (t := 34) ?hr ?_; (case hd => rfl); (case hg => rfl); (case hr => first | (go_simp; done) | (go_simp; rfl)); intro gb280 hg w4 hbox hb; have n0_ := Aside0.mk (below_step (by repeat (first | (with_reducible first | exact HB.out | apply below_alloc | apply pw_below_drewN | apply below_drew1) | exact HB.out)) hb); have n1_ := Aside0.mk (hbox); have n2_ := Aside0.mk ((by rw [hg]; exact (below_size (by repeat (first | (with_reducible first | exact HB.out | apply below_alloc | apply pw_below_drewN | apply below_drew1) | exact HB.out))) : w.heap.size ≤ gb280)); have n3_ := Aside0.mk ((by rw [hg]; exact (below_size (by repeat (first | (with_reducible first | exact HB.out | apply below_alloc | apply pw_below_drewN | apply below_drew1) | exact HB.out))) : w.heap.size ≤ gb280)); clear HB; have HB := n0_; have BK280 := n1_; have GW280 := n2_; have GE280 := n3_; clear n0_ n1_ n2_ n3_; clear hb hbox hg))
 (try simp only [Act.put, List.setIfInBounds_toArray, List.set_cons_zero, List.set_cons_succ])
 go_cut [23] (fun v23 wc => ∃ (kq : Nat) (x23_2 : Bool), v23 = .bool x23_2 ∧ Aside0 (shutterlaw22_PieceWrites.j0 kq l1 x23_2 a0_0 a0_1 a0_2 l0_3 = some r) ∧ Aside0 (kq ≤ k) ∧ Aside0 (wc.heap[gb280]? = some (.cells #[.int .i64 a0_0, .int .i64 a0_1, .bool a0_2, (.slice A0_3 l0_3.length c0_3)] 34 (0, 0))) ∧ Aside0 (Below w.heap.size w wc))
 case first =>
  have H := HC3.out
  clear HC3
  replace H := Option.bind_eq_some_iff.mp H
  obtain ⟨t281, A50, H⟩ := H
  replace H : (if t281 = true then (if (l0_3.length : Int) > 300 then (shutterlaw22_PieceWrites.j0 k l1 true a0_0 a0_1 a0_2 l0_3) else (shutterlaw22_PieceWrites.j0 k l1 (decide ((l1.length : Int) > 300)) a0_0 a0_1 a0_2 l0_3)) else (shutterlaw22_PieceWrites.j0 k l1 true a0_0 a0_1 a0_2 l0_3)) = some r := H
  have A5 := Aside0.mk A50
  clear A50
  by_cases c6 : t281 = true
  ·subst c6
   have H1 : (if (l0_3.length : Int) > 300 then (shutterlaw22_PieceWrites.j0 k l1 true a0_0 a0_1 a0_2 l0_3) else (shutterlaw22_PieceWrites.j0 k l1 (decide ((l1.length : Int) > 300)) a0_0 a0_1 a0_2 l0_3)) = some r := by rw [if_pos rfl] at H; exact H
   clear H
   have H := H1
   clear H1
   by_cases c7 : (l0_3.length : Int) > 300
   ·rw [if_pos c7] at H
    have c7b0 : decide (300 < (l0_3.length : Int)) = true := decide_eq_true c7
    have c7b1 : decide (300 < l0_3.length) = true := decide_eq_true (by omega)
    clear c7
    (first | rw [c7b0] | (simp only [i64_w, i32_w]; rw [c7b0]) | skip)
    have H' := Aside0.mk H
    clear H
    go_wp2_with (first | ((with_reducible refine gate_callee (f := 9) rfl ?_); refine goesL_ (some 11) rfl rfl Tryd.func9 (by kernel_rfl) rfl #[] rfl (by (try simp only [List.map_toArray, List.map_cons, List.map_nil]); first | done | rfl | (simp only [List.length_drop, List.length_take]; rfl)) ?_; (with_reducible refine (shutterlaw22_awake.calls k  true _ (by exact Aside0.mk (Code.Gl.below hGl.out (by repeat (first | (with_reducible first | exact HB.out | apply below_alloc | apply pw_below_drewN | apply below_drew1 | refine below_set ?_ (Aside0.out (by assumption))) | exact HB.out)) (Code.Gl.lt hGl.out))) A5.out).mono ?_); rintro e w8 ⟨rfl, hb⟩; refine ⟨_, rfl, ?_⟩; have n0_ := Aside0.mk (blk_below (g := gb280) (o := .cells #[.int .i64 a0_0, .int .i64 a0_1, .bool a0_2, .slice A0_3 l0_3.length c0_3] 34 (0, 0)) (by (with_reducible repeat (first | refine blk_drewN ?_ _ | refine blk_drew ?_ | refine blk_alloc ?_ _)); exact BK280.out) hb); have n1_ := Aside0.mk (below_step (by repeat (first | (with_reducible first | exact HB.out | apply below_alloc | apply pw_below_drewN | apply below_drew1 | refine below_set ?_ GE280.out) | exact HB.out)) hb); clear BK280; clear HB; have BK280 := n0_; have HB := n1_; clear n0_ n1_; (try clear hb); (try clear hb2); (try clear hk); (try clear hi); have hcz9_0 : w8.cell? ⟨gb280, 0, none⟩ = some (.int .i64 a0_0) := (blk_cell BK280.out 0).trans rfl; have hcz9_1 : w8.cell? ⟨gb280, 1, none⟩ = some (.int .i64 a0_1) := (blk_cell BK280.out 1).trans rfl; have hcz9_2 : w8.cell? ⟨gb280, 2, none⟩ = some (.bool a0_2) := (blk_cell BK280.out 2).trans rfl; have hcz9_3 : w8.cell? ⟨gb280, 3, none⟩ = some (.slice A0_3 l0_3.length c0_3) := (blk_cell BK280.out 3).trans rfl; have hfz9_0 := blk_frozen BK280.out 0; have hfz9_1 := blk_frozen BK280.out 1; have hfz9_2 := blk_frozen BK280.out 2; have hfz9_3 := blk_frozen BK280.out 3))
    go_meet
    case rel => exact ⟨_, (true), (by first | rfl | (simp; done) | (simp [*]; done)), H', ⟨by first | omega | exact Nat.le_refl _⟩, ⟨by (with_reducible repeat (first | refine blk_drewN ?_ _ | refine blk_drew ?_ | refine blk_alloc ?_ _)); exact BK280.out⟩, ⟨by repeat (first | (with_reducible first | exact HB.out | apply below_alloc | apply pw_below_drewN | apply below_drew1 | refine below_set ?_ GE280.out) | exact HB.out)⟩⟩
   ·rw [if_neg c7] at H
    have c7b0 : decide (300 < (l0_3.length : Int)) = false := decide_eq_false c7
    have c7b1 : decide (300 < l0_3.length) = false := decide_eq_false (by omega)
    clear c7
    (first | rw [c7b0] | (simp only [i64_w, i32_w]; rw [c7b0]) | skip)
    have H' := Aside0.mk H
    clear H
    go_wp2_with (first | ((with_reducible refine gate_callee (f := 9) rfl ?_); refine goesL_ (some 11) rfl rfl Tryd.func9 (by kernel_rfl) rfl #[] rfl (by (try simp only [List.map_toArray, List.map_cons, List.map_nil]); first | done | rfl | (simp only [List.length_drop, List.length_take]; rfl)) ?_; (with_reducible refine (shutterlaw22_awake.calls k  true _ (by exact Aside0.mk (Code.Gl.below hGl.out (by repeat (first | (with_reducible first | exact HB.out | apply below_alloc | apply pw_below_drewN | apply below_drew1 | refine below_set ?_ (Aside0.out (by assumption))) | exact HB.out)) (Code.Gl.lt hGl.out))) A5.out).mono ?_); rintro e w10 ⟨rfl, hb⟩; refine ⟨_, rfl, ?_⟩; have n0_ := Aside0.mk (blk_below (g := gb280) (o := .cells #[.int .i64 a0_0, .int .i64 a0_1, .bool a0_2, .slice A0_3 l0_3.length c0_3] 34 (0, 0)) (by (with_reducible repeat (first | refine blk_drewN ?_ _ | refine blk_drew ?_ | refine blk_alloc ?_ _)); exact BK280.out) hb); have n1_ := Aside0.mk (below_step (by repeat (first | (with_reducible first | exact HB.out | apply below_alloc | apply pw_below_drewN | apply below_drew1 | refine below_set ?_ GE280.out) | exact HB.out)) hb); clear BK280; clear HB; have BK280 := n0_; have HB := n1_; clear n0_ n1_; (try clear hb); (try clear hb2); (try clear hk); (try clear hi); have hcz11_0 : w10.cell? ⟨gb280, 0, none⟩ = some (.int .i64 a0_0) := (blk_cell BK280.out 0).trans rfl; have hcz11_1 : w10.cell? ⟨gb280, 1, none⟩ = some (.int .i64 a0_1) := (blk_cell BK280.out 1).trans rfl; have hcz11_2 : w10.cell? ⟨gb280, 2, none⟩ = some (.bool a0_2) := (blk_cell BK280.out 2).trans rfl; have hcz11_3 : w10.cell? ⟨gb280, 3, none⟩ = some (.slice A0_3 l0_3.length c0_3) := (blk_cell BK280.out 3).trans rfl; have hfz11_0 := blk_frozen BK280.out 0; have hfz11_1 := blk_frozen BK280.out 1; have hfz11_2 := blk_frozen BK280.out 2; have hfz11_3 := blk_frozen BK280.out 3))
    go_meet
    case rel => exact ⟨_, (decide ((l1.length : Int) > 300)), (by first | rfl | (simp; done) | (simp [*]; done)), H', ⟨by first | omega | exact Nat.le_refl _⟩, ⟨by (with_reducible repeat (first | refine blk_drewN ?_ _ | refine blk_drew ?_ | refine blk_alloc ?_ _)); exact BK280.out⟩, ⟨by repeat (first | (with_reducible first | exact HB.out | apply below_alloc | apply pw_below_drewN | apply below_drew1 | refine below_set ?_ GE280.out) | exact HB.out)⟩⟩
  ·replace c6 := Bool.eq_false_iff.mpr c6
   subst c6
   have H1 : (shutterlaw22_PieceWrites.j0 k l1 true a0_0 a0_1 a0_2 l0_3) = some r := by rw [if_neg (show ¬ (false = true) by decide)] at H; exact H
   clear H
   have H := H1
   clear H1
   have H' := Aside0.mk H
   clear H
   go_wp2_with (first | ((with_reducible refine gate_callee (f := 9) rfl ?_); refine goesL_ (some 11) rfl rfl Tryd.func9 (by kernel_rfl) rfl #[] rfl (by (try simp only [List.map_toArray, List.map_cons, List.map_nil]); first | done | rfl | (simp only [List.length_drop, List.length_take]; rfl)) ?_; (with_reducible refine (shutterlaw22_awake.calls k  false _ (by exact Aside0.mk (Code.Gl.below hGl.out (by repeat (first | (with_reducible first | exact HB.out | apply below_alloc | apply pw_below_drewN | apply below_drew1 | refine below_set ?_ (Aside0.out (by assumption))) | exact HB.out)) (Code.Gl.lt hGl.out))) A5.out).mono ?_); rintro e w12 ⟨rfl, hb⟩; refine ⟨_, rfl, ?_⟩; have n0_ := Aside0.mk (blk_below (g := gb280) (o := .cells #[.int .i64 a0_0, .int .i64 a0_1, .bool a0_2, .slice A0_3 l0_3.length c0_3] 34 (0, 0)) (by (with_reducible repeat (first | refine blk_drewN ?_ _ | refine blk_drew ?_ | refine blk_alloc ?_ _)); exact BK280.out) hb); have n1_ := Aside0.mk (below_step (by repeat (first | (with_reducible first | exact HB.out | apply below_alloc | apply pw_below_drewN | apply below_drew1 | refine below_set ?_ GE280.out) | exact HB.out)) hb); clear BK280; clear HB; have BK280 := n0_; have HB := n1_; clear n0_ n1_; (try clear hb); (try clear hb2); (try clear hk); (try clear hi)))
   go_meet
   case rel => exact ⟨_, (true), (by first | rfl | (simp; done) | (simp [*]; done)), H', ⟨by first | omega | exact Nat.le_refl _⟩, ⟨by (with_reducible repeat (first | refine blk_drewN ?_ _ | refine blk_drew ?_ | refine blk_alloc ?_ _)); exact BK280.out⟩, ⟨by repeat (first | (with_reducible first | exact HB.out | apply below_alloc | apply pw_below_drewN | apply below_drew1 | refine below_set ?_ GE280.out) | exact HB.out)⟩⟩
 case rest =>
  clear HC3
  try clear c1
  try clear p2
  try clear c4
  try clear c6
  try clear c7
  try clear c7b0
  try clear c7b1
  try clear c9
  try clear hcz11_0
  try clear hcz11_1
  try clear hcz11_2
  try clear hcz11_3
  try clear hcz9_0
  try clear hcz9_1
  try clear hcz9_2
  try clear hcz9_3
  try clear hfz11_0
  try clear hfz11_1
  try clear hfz11_2
  try clear hfz11_3
  try clear hfz9_0
  try clear hfz9_1
  try clear hfz9_2
  try clear hfz9_3
  obtain ⟨kq, x23_2, rfl, HA, HJ2, BK280, HB⟩ := hcut
  cases kq with
  | zero => exact absurd HA.out (by simp [shutterlaw22_PieceWrites.j0])
  | succ kj2 =>
   have H := HA.out
   clear HA
   simp only [shutterlaw22_PieceWrites.j0] at H
   by_cases c13 : x23_2 = true
   ·subst c13
    have H1 : ((shutterlaw22_awake.f kj2).bind fun t282 => (some t282)) = some r := by rw [if_pos rfl] at H; exact H
    clear H
    have H := H1
    clear H1
    replace H := Option.bind_eq_some_iff.mp H
    obtain ⟨t282, A140, H⟩ := H
    replace H : (some t282) = some r := H
    have A14 := Aside0.mk A140
    clear A140
    obtain rfl := Option.some.inj H
    go_wp2_with (first | ((with_reducible refine gate_callee (f := 9) rfl ?_); refine goesL_ (some 24) rfl rfl Tryd.func9 (by kernel_rfl) rfl #[] rfl (by (try simp only [List.map_toArray, List.map_cons, List.map_nil]); first | done | rfl | (simp only [List.length_drop, List.length_take]; rfl)) ?_; (with_reducible refine (shutterlaw22_awake.calls kj2  t282 _ (by exact Aside0.mk (Code.Gl.below hGl.out (by repeat (first | (with_reducible first | exact HB.out | apply below_alloc | apply pw_below_drewN | apply below_drew1 | refine below_set ?_ (Aside0.out (by assumption))) | exact HB.out)) (Code.Gl.lt hGl.out))) A14.out).mono ?_); rintro e w15 ⟨rfl, hb⟩; refine ⟨_, rfl, ?_⟩; have n0_ := Aside0.mk (blk_below (g := gb280) (o := .cells #[.int .i64 a0_0, .int .i64 a0_1, .bool a0_2, .slice A0_3 l0_3.length c0_3] 34 (0, 0)) (by (with_reducible repeat (first | refine blk_drewN ?_ _ | refine blk_drew ?_ | refine blk_alloc ?_ _)); exact BK280.out) hb); have n1_ := Aside0.mk (below_step (by repeat (first | (with_reducible first | exact HB.out | apply below_alloc | apply pw_below_drewN | apply below_drew1 | refine below_set ?_ GE280.out) | exact HB.out)) hb); clear BK280; clear HB; have BK280 := n0_; have HB := n1_; clear n0_ n1_; (try clear hb); (try clear hb2); (try clear hk); (try clear hi)))
    go_ret
    exact ⟨by first | rfl | (simp [errW_none, errW_some] <;> rfl) | (simp [*, errW_none, errW_some] <;> rfl), by repeat (first | (with_reducible first | exact HB.out | apply below_alloc | apply pw_below_drewN | apply below_drew1 | refine below_set ?_ GE280.out) | exact HB.out)⟩
   ·replace c13 := Bool.eq_false_iff.mpr c13
    subst c13
    have H1 : ((piece_Write.f kj2 a0_0 a0_1 a0_2 l0_3).bind fun bt283 => ((shutterref22_May.f kj2 a0_0 a0_1 a0_2 l0_3).bind fun t287 => (if t287 = true then (if bt283.2.isNone = true then ((shutterref22_Write.f kj2 a0_0 a0_1 a0_2 l0_3).bind fun t289 => ((shutterref01_Same.f kj2 bt283.1 t289).bind fun t292 => (if t292 = true then (shutterlaw22_PieceWrites.j1 kj2 l1 a0_0 a0_1 a0_2 l0_3) else (none)))) else (none)) else ((api_Code.f bt283.2).bind fun t293 => (if t293 = 1 then (if (bt283.1.length : Int) = 0 then (shutterlaw22_PieceWrites.j1 kj2 l1 a0_0 a0_1 a0_2 l0_3) else (none)) else (none)))))) = some r := by rw [if_neg (show ¬ (false = true) by decide)] at H; exact H
    clear H
    have H := H1
    clear H1
    replace H := Option.bind_eq_some_iff.mp H
    obtain ⟨⟨t283, t286⟩, A160, H⟩ := H
    replace H : ((shutterref22_May.f kj2 a0_0 a0_1 a0_2 l0_3).bind fun t287 => (if t287 = true then (if t286.isNone = true then ((shutterref22_Write.f kj2 a0_0 a0_1 a0_2 l0_3).bind fun t289 => ((shutterref01_Same.f kj2 t283 t289).bind fun t292 => (if t292 = true then (shutterlaw22_PieceWrites.j1 kj2 l1 a0_0 a0_1 a0_2 l0_3) else (none)))) else (none)) else ((api_Code.f t286).bind fun t293 => (if t293 = 1 then (if (t283.length : Int) = 0 then (shutterlaw22_PieceWrites.j1 kj2 l1 a0_0 a0_1 a0_2 l0_3) else (none)) else (none))))) = some r := H
    have A16 := Aside0.mk A160
    clear A160
    replace H := Option.bind_eq_some_iff.mp H
    obtain ⟨t287, A170, H⟩ := H
    replace H : (if t287 = true then (if t286.isNone = true then ((shutterref22_Write.f kj2 a0_0 a0_1 a0_2 l0_3).bind fun t289 => ((shutterref01_Same.f kj2 t283 t289).bind fun t292 => (if t292 = true then (shutterlaw22_PieceWrites.j1 kj2 l1 a0_0 a0_1 a0_2 l0_3) else (none)))) else (none)) else ((api_Code.f t286).bind fun t293 => (if t293 = 1 then (if (t283.length : Int) = 0 then (shutterlaw22_PieceWrites.j1 kj2 l1 a0_0 a0_1 a0_2 l0_3) else (none)) else (none)))) = some r := H
    have A17 := Aside0.mk A170
    clear A170
    have HC18 := Aside0.mk H
    clear H
    have hcz19_0 : wc.cell? ⟨gb280, 0, none⟩ = some (.int .i64 a0_0) := (blk_cell BK280.out 0).trans rfl
    have hcz19_1 : wc.cell? ⟨gb280, 1, none⟩ = some (.int .i64 a0_1) := (blk_cell BK280.out 1).trans rfl
    have hcz19_2 : wc.cell? ⟨gb280, 2, none⟩ = some (.bool a0_2) := (blk_cell BK280.out 2).trans rfl
    have hcz19_3 : wc.cell? ⟨gb280, 3, none⟩ = some (.slice A0_3 l0_3.length c0_3) := (blk_cell BK280.out 3).trans rfl
    have hfz19_0 := blk_frozen BK280.out 0
    have hfz19_1 := blk_frozen BK280.out 1
    have hfz19_2 := blk_frozen BK280.out 2
    have hfz19_3 := blk_frozen BK280.out 3
    go_upto_if 32 with (first | ((with_reducible refine gate_callee (f := 14) rfl ?_); refine goesL_ (some 27) rfl rfl Tryd.func14 (by kernel_rfl) rfl #[.agg #[.int .i64 a0_0, .int .i64 a0_1, .bool a0_2, .slice A0_3 l0_3.length c0_3]] rfl (by (try simp only [List.map_toArray, List.map_cons, List.map_nil]); first | done | rfl | (simp only [List.length_drop, List.length_take]; rfl)) ?_; (with_reducible refine (piece_Write.calls kj2 a0_0 a0_1 a0_2 (fun k_ => k_ < w.heap.size) _ _ l0_3 t283 t286 _ ?side1 A16.out).mono ?_); (case side1 => exact Kd.V_mk HC0_3.out (Kd.F_below (Kd.C_F (Kd.heap_int .u8) HR0_3.out) (by repeat (first | (with_reducible first | exact HB.out | apply below_alloc | apply pw_below_drewN | apply below_drew1 | refine below_set ?_ GE280.out) | exact HB.out)))); rintro e w20 ⟨v284, rfl, ho0, hb⟩; refine ⟨_, rfl, ?_⟩; have n0_ := Aside0.mk (Kd.R_lower (Kd.R_mono (ok' := fun k_ => True) ho0 (fun _ hk_ => trivial)) (below_size (by repeat (first | (with_reducible first | exact HB.out | apply below_alloc | apply pw_below_drewN | apply below_drew1 | refine below_set ?_ GE280.out) | exact HB.out)))); have n1_ := Aside0.mk (blk_below (g := gb280) (o := .cells #[.int .i64 a0_0, .int .i64 a0_1, .bool a0_2, .slice A0_3 l0_3.length c0_3] 34 (0, 0)) (by (with_reducible repeat (first | refine blk_drewN ?_ _ | refine blk_drew ?_ | refine blk_alloc ?_ _)); exact BK280.out) hb); have n2_ := Aside0.mk (below_step (by repeat (first | (with_reducible first | exact HB.out | apply below_alloc | apply pw_below_drewN | apply below_drew1 | refine below_set ?_ GE280.out) | exact HB.out)) hb); clear BK280; clear HB; have HO285 := n0_; have BK280 := n1_; have HB := n2_; clear n0_ n1_ n2_; (try clear hb); (try clear hb2); (try clear hk); (try clear hi); (try clear ho0); (try simp only [errW_none, errW_some]); have hcz21_0 : w20.cell? ⟨gb280, 0, none⟩ = some (.int .i64 a0_0) := (blk_cell BK280.out 0).trans rfl; have hcz21_1 : w20.cell? ⟨gb280, 1, none⟩ = some (.int .i64 a0_1) := (blk_cell BK280.out 1).trans rfl; have hcz21_2 : w20.cell? ⟨gb280, 2, none⟩ = some (.bool a0_2) := (blk_cell BK280.out 2).trans rfl; have hcz21_3 : w20.cell? ⟨gb280, 3, none⟩ = some (.slice A0_3 l0_3.length c0_3) := (blk_cell BK280.out 3).trans rfl; have hfz21_0 := blk_frozen BK280.out 0; have hfz21_1 := blk_frozen BK280.out 1; have hfz21_2 := blk_frozen BK280.out 2; have hfz21_3 := blk_frozen BK280.out 3) | ((with_reducible refine gate_callee (f := 15) rfl ?_); refine goesL_ (some 31) rfl rfl Tryd.func15 (by kernel_rfl) rfl #[.agg #[.int .i64 a0_0, .int .i64 a0_1, .bool a0_2, .slice A0_3 l0_3.length c0_3]] rfl (by (try simp only [List.map_toArray, List.map_cons, List.map_nil]); first | done | rfl | (simp only [List.length_drop, List.length_take]; rfl)) ?_; (with_reducible refine (shutterref22_May.calls kj2 a0_0 a0_1 a0_2 _ _ l0_3 t287 _ ?side1 ?side2 A17.out).mono ?_); (case side1 => repeat (first | exact (Kd.C_below HR0_3.out HB.out) | (with_reducible refine Kd.C_alloc ?_ _) | (with_reducible refine Kd.C_drewN ?_ _) | (with_reducible refine Kd.C_drew ?_))); (case side2 => exact HC0_3.out); rintro e w22 ⟨rfl, hb⟩; refine ⟨_, rfl, ?_⟩; have n0_ := Aside0.mk (Kd.R_below (by (with_reducible repeat (first | apply Kd.R_alloc | apply Kd.R_drewN | apply Kd.R_drew)); exact HO285.out) hb); have n1_ := Aside0.mk (blk_below (g := gb280) (o := .cells #[.int .i64 a0_0, .int .i64 a0_1, .bool a0_2, .slice A0_3 l0_3.length c0_3] 34 (0, 0)) (by (with_reducible repeat (first | refine blk_drewN ?_ _ | refine blk_drew ?_ | refine blk_alloc ?_ _)); exact BK280.out) hb); have n2_ := Aside0.mk (below_step (by repeat (first | (with_reducible first | exact HB.out | apply below_alloc | apply pw_below_drewN | apply below_drew1 | refine below_set ?_ GE280.out) | exact HB.out)) hb); clear HO285; clear BK280; clear HB; have HO285 := n0_; have BK280 := n1_; have HB := n2_; clear n0_ n1_ n2_; (try clear hb); (try clear hb2); (try clear hk); (try clear hi)))
    (try simp only [Act.put, List.setIfInBounds_toArray, List.set_cons_zero, List.set_cons_succ])
    go_cut [] (fun wc => ∃ (kq : Nat), Aside0 (shutterlaw22_PieceWrites.j1 kq l1 a0_0 a0_1 a0_2 l0_3 = some r) ∧ Aside0 (kq ≤ kj2) ∧ Aside0 (wc.heap[gb280]? = some (.cells #[.int .i64 a0_0, .int .i64 a0_1, .bool a0_2, (.slice A0_3 l0_3.length c0_3)] 34 (0, 0))) ∧ Aside0 (Below w.heap.size w wc))
    case first =>
     have H := HC18.out
     clear HC18
     by_cases c23 : t287 = true
     ·subst c23
      have H1 : (if t286.isNone = true then ((shutterref22_Write.f kj2 a0_0 a0_1 a0_2 l0_3).bind fun t289 => ((shutterref01_Same.f kj2 t283 t289).bind fun t292 => (if t292 = true then (shutterlaw22_PieceWrites.j1 kj2 l1 a0_0 a0_1 a0_2 l0_3) else (none)))) else (none)) = some r := by rw [if_pos rfl] at H; exact H
      clear H
      have H := H1
      clear H1
      rcases t286 with _ | q288
      ·have H1 : ((shutterref22_Write.f kj2 a0_0 a0_1 a0_2 l0_3).bind fun t289 => ((shutterref01_Same.f kj2 t283 t289).bind fun t292 => (if t292 = true then (shutterlaw22_PieceWrites.j1 kj2 l1 a0_0 a0_1 a0_2 l0_3) else (none)))) = some r := by rw [if_pos (show (none : Option Int).isNone = true by rfl)] at H; exact H
       clear H
       have H := H1
       clear H1
       try simp only [errW_none, errW_some]
       replace H := Option.bind_eq_some_iff.mp H
       obtain ⟨t289, A240, H⟩ := H
       replace H : ((shutterref01_Same.f kj2 t283 t289).bind fun t292 => (if t292 = true then (shutterlaw22_PieceWrites.j1 kj2 l1 a0_0 a0_1 a0_2 l0_3) else (none))) = some r := H
       have A24 := Aside0.mk A240
       clear A240
       replace H := Option.bind_eq_some_iff.mp H
       obtain ⟨t292, A250, H⟩ := H
       replace H : (if t292 = true then (shutterlaw22_PieceWrites.j1 kj2 l1 a0_0 a0_1 a0_2 l0_3) else (none)) = some r := H
       have A25 := Aside0.mk A250
       clear A250
       by_cases c26 : t292 = true
       ·subst c26
        have H1 : (shutterlaw22_PieceWrites.j1 kj2 l1 a0_0 a0_1 a0_2 l0_3) = some r := by rw [if_pos rfl] at H; exact H
        clear H
        have H := H1
        clear H1
        have H' := Aside0.mk H
        clear H
        have hcz27_0 : w22.cell? ⟨gb280, 0, none⟩ = some (.int .i64 a0_0) := (blk_cell BK280.out 0).trans rfl
        have hcz27_1 : w22.cell? ⟨gb280, 1, none⟩ = some (.int .i64 a0_1) := (blk_cell BK280.out 1).trans rfl
        have hcz27_2 : w22.cell? ⟨gb280, 2, none⟩ = some (.bool a0_2) := (blk_cell BK280.out 2).trans rfl
        have hcz27_3 : w22.cell? ⟨gb280, 3, none⟩ = some (.slice A0_3 l0_3.length c0_3) := (blk_cell BK280.out 3).trans rfl
        have hfz27_0 := blk_frozen BK280.out 0
        have hfz27_1 := blk_frozen BK280.out 1
        have hfz27_2 := blk_frozen BK280.out 2
        have hfz27_3 := blk_frozen BK280.out 3
        go_wp2_with (first | (go_at_call 17; (with_reducible refine (shutterref22_Write.calls kj2 a0_0 a0_1 a0_2 _ _ l0_3 t289 _ ?side1 ?side2 A24.out).mono ?_); (case side1 => repeat (first | exact (Kd.C_below HR0_3.out HB.out) | (with_reducible refine Kd.C_alloc ?_ _) | (with_reducible refine Kd.C_drewN ?_ _) | (with_reducible refine Kd.C_drew ?_))); (case side2 => exact HC0_3.out); rintro e w28 ⟨v290, rfl, ho0, hb⟩; have n0_ := Aside0.mk (Kd.R_elder' (by (with_reducible repeat (first | apply Kd.R_alloc | apply Kd.R_drewN | apply Kd.R_drew)); exact HO285.out) (Kd.R_base ho0) hb); have n1_ := Aside0.mk (Kd.R_lower (Kd.R_new' ho0 (Kd.R_lt (by (with_reducible repeat (first | apply Kd.R_alloc | apply Kd.R_drewN | apply Kd.R_drew)); exact HO285.out))) (below_size (by repeat (first | (with_reducible first | exact HB.out | apply below_alloc | apply pw_below_drewN | apply below_drew1 | refine below_set ?_ GE280.out) | exact HB.out)))); have n2_ := Aside0.mk (blk_below (g := gb280) (o := .cells #[.int .i64 a0_0, .int .i64 a0_1, .bool a0_2, .slice A0_3 l0_3.length c0_3] 34 (0, 0)) (by (with_reducible repeat (first | refine blk_drewN ?_ _ | refine blk_drew ?_ | refine blk_alloc ?_ _)); exact BK280.out) hb); have n3_ := Aside0.mk (below_step (by repeat (first | (with_reducible first | exact HB.out | apply below_alloc | apply pw_below_drewN | apply below_drew1 | refine below_set ?_ GE280.out) | exact HB.out)) hb); clear HO285; clear BK280; clear HB; have HO285 := n0_; have HO291 := n1_; have BK280 := n2_; have HB := n3_; clear n0_ n1_ n2_ n3_; (try clear hb); (try clear hb2); (try clear hk); (try clear hi); (try clear ho0); obtain ⟨Ao29, co29, eo29⟩ := Kd.R_slice HO285.out; subst eo29; obtain ⟨Ao30, co30, eo30⟩ := Kd.R_slice HO291.out; subst eo30) | (go_at_call 16; (with_reducible refine (shutterref01_Same.calls kj2 _ _ t283 _ _ t289 true _ ?side1 ?side2 ?side3 ?side4 A25.out).mono ?_); (case side1 => repeat (first | exact (Kd.R_reads' HO285.out).2.2 | (with_reducible refine Kd.C_alloc ?_ _) | (with_reducible refine Kd.C_drewN ?_ _) | (with_reducible refine Kd.C_drew ?_))); (case side2 => exact (Kd.R_reads' HO285.out).2.1); (case side3 => repeat (first | exact (Kd.R_reads' HO291.out).2.2 | (with_reducible refine Kd.C_alloc ?_ _) | (with_reducible refine Kd.C_drewN ?_ _) | (with_reducible refine Kd.C_drew ?_))); (case side4 => exact (Kd.R_reads' HO291.out).2.1); rintro e w' ⟨rfl, ⟨nd, rfl⟩⟩))
        go_meet
        case rel => exact ⟨_, H', ⟨by have := HJ2.out; first | omega | exact Nat.le_refl _⟩, ⟨by (with_reducible repeat (first | refine blk_drewN ?_ _ | refine blk_drew ?_ | refine blk_alloc ?_ _)); exact BK280.out⟩, ⟨by repeat (first | (with_reducible first | exact HB.out | apply below_alloc | apply pw_below_drewN | apply below_drew1 | refine below_set ?_ GE280.out) | exact HB.out)⟩⟩
       ·replace c26 := Bool.eq_false_iff.mpr c26
        subst c26
        have H1 : (none) = some r := by rw [if_neg (show ¬ (false = true) by decide)] at H; exact H
        clear H
        have H := H1
        clear H1
        exact absurd H (by simp)
      ·have H1 : (none) = some r := by rw [if_neg (show ¬ (some q288).isNone = true by simp)] at H; exact H
       clear H
       have H := H1
       clear H1
       try simp only [errW_none, errW_some]
       exact absurd H (by simp)
     ·replace c23 := Bool.eq_false_iff.mpr c23
      subst c23
      have H1 : ((api_Code.f t286).bind fun t293 => (if t293 = 1 then (if (t283.length : Int) = 0 then (shutterlaw22_PieceWrites.j1 kj2 l1 a0_0 a0_1 a0_2 l0_3) else (none)) else (none))) = some r := by rw [if_neg (show ¬ (false = true) by decide)] at H; exact H
      clear H
      have H := H1
      clear H1
      replace H := Option.bind_eq_some_iff.mp H
      obtain ⟨t293, A310, H⟩ := H
      replace H : (if t293 = 1 then (if (t283.length : Int) = 0 then (shutterlaw22_PieceWrites.j1 kj2 l1 a0_0 a0_1 a0_2 l0_3) else (none)) else (none)) = some r := H
      have A31 := Aside0.mk A310
      clear A310
      by_cases c32 : t293 = 1
      ·rw [if_pos c32] at H
       have c32b0 : (t293 == 1) = true := beq_iff_eq.mpr c32
       have c32b1 : (t293 != 1) = false := bne_eq_false_iff_eq.mpr c32
       clear c32
       (first | rw [c32b0] | (simp only [i64_w, i32_w]; rw [c32b0]) | skip)
       by_cases c33 : (t283.length : Int) = 0
       ·rw [if_pos c33] at H
        have c33b0 : ((t283.length : Int) == 0) = true := beq_iff_eq.mpr c33
        have c33b1 : ((t283.length : Int) != 0) = false := bne_eq_false_iff_eq.mpr c33
        clear c33
        have H' := Aside0.mk H
        clear H
        have CA31 := fun (W : World) (hGlW : Aside0 (Code.Gl W)) => api_Code.calls t286 t293 W hGlW A31.out
        try simp only [errW_none, errW_some] at CA31
        go_wp2_with (first | (go_at_call 11; (with_reducible refine (CA31 _ (by exact Aside0.mk (Code.Gl.below hGl.out (by repeat (first | (with_reducible first | exact HB.out | apply below_alloc | apply pw_below_drewN | apply below_drew1 | refine below_set ?_ (Aside0.out (by assumption))) | exact HB.out)) (Code.Gl.lt hGl.out)))).mono ?_); rintro e w34 ⟨rfl, hb⟩; have n0_ := Aside0.mk (Kd.R_below (by (with_reducible repeat (first | apply Kd.R_alloc | apply Kd.R_drewN | apply Kd.R_drew)); exact HO285.out) hb); have n1_ := Aside0.mk (blk_below (g := gb280) (o := .cells #[.int .i64 a0_0, .int .i64 a0_1, .bool a0_2, .slice A0_3 l0_3.length c0_3] 34 (0, 0)) (by (with_reducible repeat (first | refine blk_drewN ?_ _ | refine blk_drew ?_ | refine blk_alloc ?_ _)); exact BK280.out) hb); have n2_ := Aside0.mk (below_step (by repeat (first | (with_reducible first | exact HB.out | apply below_alloc | apply pw_below_drewN | apply below_drew1 | refine below_set ?_ GE280.out) | exact HB.out)) hb); clear HO285; clear BK280; clear HB; have HO285 := n0_; have BK280 := n1_; have HB := n2_; clear n0_ n1_ n2_; (try clear hb); (try clear hb2); (try clear hk); (try clear hi); obtain ⟨Ao35, co35, eo35⟩ := Kd.R_slice HO285.out; subst eo35))
        go_meet
        case rel => exact ⟨_, H', ⟨by have := HJ2.out; first | omega | exact Nat.le_refl _⟩, ⟨by (with_reducible repeat (first | refine blk_drewN ?_ _ | refine blk_drew ?_ | refine blk_alloc ?_ _)); exact BK280.out⟩, ⟨by repeat (first | (with_reducible first | exact HB.out | apply below_alloc | apply pw_below_drewN | apply below_drew1 | refine below_set ?_ GE280.out) | exact HB.out)⟩⟩
       ·rw [if_neg c33] at H
        exact absurd H (by simp)
      ·rw [if_neg c32] at H
       exact absurd H (by simp)
    case rest =>
     clear HC18
     try clear c1
     try clear c2
     try clear p2
     try clear q2
     try clear c3
     try clear c4
     try clear c6
     try clear c7
     try clear c7b0
     try clear c7b1
     try clear c9
     try clear c13
     try clear c14
     try clear c15
     try clear c23
     try clear c26
     try clear q28
     try clear c32
     try clear c32b0
     try clear c32b1
     try clear c33
     try clear c33b0
     try clear c33b1
     try clear hcz11_0
     try clear hcz11_1
     try clear hcz11_2
     try clear hcz11_3
     try clear hcz19_0
     try clear hcz19_1
     try clear hcz19_2
     try clear hcz19_3
     try clear hcz21_0
     try clear hcz21_1
     try clear hcz21_2
     try clear hcz21_3
     try clear hcz27_0
     try clear hcz27_1
     try clear hcz27_2
     try clear hcz27_3
     try clear hcz9_0
     try clear hcz9_1
     try clear hcz9_2
     try clear hcz9_3
     try clear hfz11_0
     try clear hfz11_1
     try clear hfz11_2
     try clear hfz11_3
     try clear hfz19_0
     try clear hfz19_1
     try clear hfz19_2
     try clear hfz19_3
     try clear hfz21_0
     try clear hfz21_1
     try clear hfz21_2
     try clear hfz21_3
     try clear hfz27_0
     try clear hfz27_1
     try clear hfz27_2
     try clear hfz27_3
     try clear hfz9_0
     try clear hfz9_1
     try clear hfz9_2
     try clear hfz9_3
     try clear p2
     try clear q288
     obtain ⟨kq, HA, HJ17, BK280, HB⟩ := hcut
     cases kq with
     | zero => exact absurd HA.out (by simp [shutterlaw22_PieceWrites.j1])
     | succ kj17 =>
      have H := HA.out
      clear HA
      simp only [shutterlaw22_PieceWrites.j1] at H
      replace H := Option.bind_eq_some_iff.mp H
      obtain ⟨⟨t294, t295, t296, t297, t300⟩, A360, H⟩ := H
      replace H : ((shutterref22_Read.f kj17 l1).bind fun bt302 => ((shutterref22_Same.f kj17 t294 t295 t296 t297 bt302.1 bt302.2.1 bt302.2.2.1 bt302.2.2.2.1).bind fun t310 => (if t310 = true then ((api_Code.f t300).bind fun t311 => (if t311 = bt302.2.2.2.2 then ((piece_Same.f kj17 a0_0 a0_1 a0_2 l0_3 t294 t295 t296 t297).bind fun t312 => ((shutterref22_Same.f kj17 a0_0 a0_1 a0_2 l0_3 t294 t295 t296 t297).bind fun t313 => (some (t312 == t313)))) else (none))) else (none)))) = some r := H
      have A36 := Aside0.mk A360
      clear A360
      replace H := Option.bind_eq_some_iff.mp H
      obtain ⟨⟨t302, t303, t304, t305, t308⟩, A370, H⟩ := H
      replace H : ((shutterref22_Same.f kj17 t294 t295 t296 t297 t302 t303 t304 t305).bind fun t310 => (if t310 = true then ((api_Code.f t300).bind fun t311 => (if t311 = t308 then ((piece_Same.f kj17 a0_0 a0_1 a0_2 l0_3 t294 t295 t296 t297).bind fun t312 => ((shutterref22_Same.f kj17 a0_0 a0_1 a0_2 l0_3 t294 t295 t296 t297).bind fun t313 => (some (t312 == t313)))) else (none))) else (none))) = some r := H
      have A37 := Aside0.mk A370
      clear A370
      replace H := Option.bind_eq_some_iff.mp H
      obtain ⟨t310, A380, H⟩ := H
      replace H : (if t310 = true then ((api_Code.f t300).bind fun t311 => (if t311 = t308 then ((piece_Same.f kj17 a0_0 a0_1 a0_2 l0_3 t294 t295 t296 t297).bind fun t312 => ((shutterref22_Same.f kj17 a0_0 a0_1 a0_2 l0_3 t294 t295 t296 t297).bind fun t313 => (some (t312 == t313)))) else (none))) else (none)) = some r := H
      have A38 := Aside0.mk A380
      clear A380
      by_cases c39 : t310 = true
      ·subst c39
       have H1 : ((api_Code.f t300).bind fun t311 => (if t311 = t308 then ((piece_Same.f kj17 a0_0 a0_1 a0_2 l0_3 t294 t295 t296 t297).bind fun t312 => ((shutterref22_Same.f kj17 a0_0 a0_1 a0_2 l0_3 t294 t295 t296 t297).bind fun t313 => (some (t312 == t313)))) else (none))) = some r := by rw [if_pos rfl] at H; exact H
       clear H
       have H := H1
       clear H1
       replace H := Option.bind_eq_some_iff.mp H
       obtain ⟨t311, A400, H⟩ := H
       replace H : (if t311 = t308 then ((piece_Same.f kj17 a0_0 a0_1 a0_2 l0_3 t294 t295 t296 t297).bind fun t312 => ((shutterref22_Same.f kj17 a0_0 a0_1 a0_2 l0_3 t294 t295 t296 t297).bind fun t313 => (some (t312 == t313)))) else (none)) = some r := H
       have A40 := Aside0.mk A400
       clear A400
       by_cases c41 : t311 = t308
       ·rw [if_pos c41] at H
        have c41b0 : (t311 == t308) = true := beq_iff_eq.mpr c41
        have c41b1 : (t311 != t308) = false := bne_eq_false_iff_eq.mpr c41
        clear c41
        replace H := Option.bind_eq_some_iff.mp H
        obtain ⟨t312, A420, H⟩ := H
        replace H : ((shutterref22_Same.f kj17 a0_0 a0_1 a0_2 l0_3 t294 t295 t296 t297).bind fun t313 => (some (t312 == t313))) = some r := H
        have A42 := Aside0.mk A420
        clear A420
        replace H := Option.bind_eq_some_iff.mp H
        obtain ⟨t313, A430, H⟩ := H
        replace H : (some (t312 == t313)) = some r := H
        have A43 := Aside0.mk A430
        clear A430
        obtain rfl := Option.some.inj H
        try go_wp2_with (first | ((with_reducible refine gate_callee (f := 18) rfl ?_); refine goesL_ (some 52) rfl rfl Tryd.func18 (by kernel_rfl) rfl #[.slice A1 l1.length c1] rfl (by (try simp only [List.map_toArray, List.map_cons, List.map_nil]); first | done | rfl | (simp only [List.length_drop, List.length_take]; rfl)) ?_; (with_reducible refine (piece_Read.calls kj17 _ _ l1 t294 t295 t296 t297 t300 _ ?side1 ?side2 A36.out).mono ?_); (case side1 => repeat (first | exact (Kd.C_below HR1.out HB.out) | (with_reducible refine Kd.C_alloc ?_ _) | (with_reducible refine Kd.C_drewN ?_ _) | (with_reducible refine Kd.C_drew ?_))); (case side2 => exact HC1.out); rintro e w44 ⟨v298, rfl, ho0, hb⟩; refine ⟨_, rfl, ?_⟩; have n0_ := Aside0.mk (Kd.R_lower ho0 (below_size (by repeat (first | (with_reducible first | exact HB.out | apply below_alloc | apply pw_below_drewN | apply below_drew1 | refine below_set ?_ GE280.out) | exact HB.out)))); have n1_ := Aside0.mk (blk_below (g := gb280) (o := .cells #[.int .i64 a0_0, .int .i64 a0_1, .bool a0_2, .slice A0_3 l0_3.length c0_3] 34 (0, 0)) (by (with_reducible repeat (first | refine blk_drewN ?_ _ | refine blk_drew ?_ | refine blk_alloc ?_ _)); exact BK280.out) hb); have n2_ := Aside0.mk (below_step (by repeat (first | (with_reducible first | exact HB.out | apply below_alloc | apply pw_below_drewN | apply below_drew1 | refine below_set ?_ GE280.out) | exact HB.out)) hb); clear BK280; clear HB; have HO299 := n0_; have BK280 := n1_; have HB := n2_; clear n0_ n1_ n2_; (try clear hb); (try clear hb2); (try clear hk); (try clear hi); (try clear ho0); (try simp only [errW_none, errW_some])) | ((with_reducible refine gate_dst (N := 7) rfl ?_); (try (refine gate_guard (by rfl) ?_; dsimp only)); refine box_event ?hg (N := 7) ?hd (cs := #[.int .i64 0, .int .i64 0, .bool false, .slice none 0 0]) (t := 34) ?hr ?_; (case hd => rfl); (case hg => rfl); (case hr => first | (go_simp; done) | (go_simp; rfl)); intro gb301 hg w45 hbox hb; have n0_ := Aside0.mk (Kd.R_below (by (with_reducible repeat (first | apply Kd.R_alloc | apply Kd.R_drewN | apply Kd.R_drew)); exact HO299.out) hb); have n1_ := Aside0.mk (blk_below (g := gb280) (o := .cells #[.int .i64 a0_0, .int .i64 a0_1, .bool a0_2, .slice A0_3 l0_3.length c0_3] 34 (0, 0)) (by (with_reducible repeat (first | refine blk_drewN ?_ _ | refine blk_drew ?_ | refine blk_alloc ?_ _)); exact BK280.out) hb); have n2_ := Aside0.mk (below_step (by repeat (first | (with_reducible first | exact HB.out | apply below_alloc | apply pw_below_drewN | apply below_drew1 | refine below_set ?_ GE280.out) | exact HB.out)) hb); have n3_ := Aside0.mk (hbox); have n4_ := Aside0.mk ((by rw [hg]; exact (below_size (by repeat (first | (with_reducible first | exact HB.out | apply below_alloc | apply pw_below_drewN | apply below_drew1 | refine below_set ?_ GE280.out) | exact HB.out))) : w.heap.size ≤ gb301)); have n5_ := Aside0.mk ((by rw [hg]; exact (below_size (by repeat (first | (with_reducible first | exact HB.out | apply below_alloc | apply pw_below_drewN | apply below_drew1 | refine below_set ?_ GE280.out) | exact HB.out))) : w.heap.size ≤ gb301)); have n6_ := Aside0.mk ((by rw [hg]; exact Nat.ne_of_lt (blk_lt (g := gb280) (o := .cells #[.int .i64 a0_0, .int .i64 a0_1, .bool a0_2, .slice A0_3 l0_3.length c0_3] 34 (0, 0)) (by (with_reducible repeat (first | refine blk_drewN ?_ _ | refine blk_drew ?_ | refine blk_alloc ?_ _)); exact BK280.out)) : gb280 ≠ gb301)); have n7_ := Aside0.mk ((by rw [hg]; exact Nat.ne_of_gt (blk_lt (g := gb280) (o := .cells #[.int .i64 a0_0, .int .i64 a0_1, .bool a0_2, .slice A0_3 l0_3.length c0_3] 34 (0, 0)) (by (with_reducible repeat (first | refine blk_drewN ?_ _ | refine blk_drew ?_ | refine blk_alloc ?_ _)); exact BK280.out)) : gb301 ≠ gb280)); clear HO299; clear BK280; clear HB; have HO299 := n0_; have BK280 := n1_; have HB := n2_; have BK301 := n3_; have GW301 := n4_; have GE301 := n5_; have NB280_301 := n6_; have NB301_280 := n7_; clear n0_ n1_ n2_ n3_ n4_ n5_ n6_ n7_; clear hb hbox hg; have hnb46 := NB301_280.out; have hnc46 := NB280_301.out; have hcz47_0 : w45.cell? ⟨gb301, 0, none⟩ = some (.int .i64 0) := (blk_cell BK301.out 0).trans rfl; have hcz47_1 : w45.cell? ⟨gb301, 1, none⟩ = some (.int .i64 0) := (blk_cell BK301.out 1).trans rfl; have hcz47_2 : w45.cell? ⟨gb301, 2, none⟩ = some (.bool false) := (blk_cell BK301.out 2).trans rfl; have hcz47_3 : w45.cell? ⟨gb301, 3, none⟩ = some (.slice none 0 0) := (blk_cell BK301.out 3).trans rfl; have hfz47_0 := blk_frozen BK301.out 0; have hfz47_1 := blk_frozen BK301.out 1; have hfz47_2 := blk_frozen BK301.out 2; have hfz47_3 := blk_frozen BK301.out 3; obtain ⟨Ao48, co48, eo48⟩ := Kd.R_slice HO299.out; subst eo48) | ((with_reducible refine gate_callee (f := 19) rfl ?_); refine goesL_ (some 57) rfl rfl Tryd.func19 (by kernel_rfl) rfl #[.slice A1 l1.length c1] rfl (by (try simp only [List.map_toArray, List.map_cons, List.map_nil]); first | done | rfl | (simp only [List.length_drop, List.length_take]; rfl)) ?_; (with_reducible refine (shutterref22_Read.calls kj17 _ _ l1 t302 t303 t304 t305 t308 _ ?side1 ?side2 A37.out).mono ?_); (case side1 => exact Kd.C_below HR1.out (by repeat (first | (with_reducible first | exact HB.out | apply below_alloc | apply pw_below_drewN | apply below_drew1 | refine below_set ?_ GE280.out | refine below_set ?_ GE301.out) | exact HB.out))); (case side2 => exact HC1.out); rintro e w49 ⟨v306, rfl, ho0, hb⟩; refine ⟨_, rfl, ?_⟩; have n0_ := Aside0.mk (Kd.R_elder' (by (with_reducible repeat (first | apply Kd.R_alloc | apply Kd.R_drewN | apply Kd.R_drew)); exact (Kd.R_mono (Kd.R_far (p := ⟨gb301, 3, none⟩) (Kd.R_far (p := ⟨gb301, 2, none⟩) (Kd.R_far (p := ⟨gb301, 1, none⟩) (Kd.R_far (p := ⟨gb301, 0, none⟩) (Kd.R_types HO299.out BK301.out (by decide)) (fun _ hk => hk.2) (.int .i64 t294)) (fun _ hk => hk.2) (.int .i64 t295)) (fun _ hk => hk.2) (.bool t296)) (fun _ hk => hk.2) (.slice Ao48 t297.length co48)) (fun _ h_ => h_.1))) (Kd.R_base ho0) hb); have n1_ := Aside0.mk (Kd.R_lower (Kd.R_new' ho0 (Kd.R_lt (by (with_reducible repeat (first | apply Kd.R_alloc | apply Kd.R_drewN | apply Kd.R_drew)); exact (Kd.R_mono (Kd.R_far (p := ⟨gb301, 3, none⟩) (Kd.R_far (p := ⟨gb301, 2, none⟩) (Kd.R_far (p := ⟨gb301, 1, none⟩) (Kd.R_far (p := ⟨gb301, 0, none⟩) (Kd.R_types HO299.out BK301.out (by decide)) (fun _ hk => hk.2) (.int .i64 t294)) (fun _ hk => hk.2) (.int .i64 t295)) (fun _ hk => hk.2) (.bool t296)) (fun _ hk => hk.2) (.slice Ao48 t297.length co48)) (fun _ h_ => h_.1))))) (below_size (by repeat (first | (with_reducible first | exact HB.out | apply below_alloc | apply pw_below_drewN | apply below_drew1 | refine below_set ?_ GE280.out | refine below_set ?_ GE301.out) | exact HB.out)))); have n2_ := Aside0.mk (blk_below (g := gb280) (o := .cells #[.int .i64 a0_0, .int .i64 a0_1, .bool a0_2, .slice A0_3 l0_3.length c0_3] 34 (0, 0)) (by (with_reducible repeat (first | refine blk_drewN ?_ _ | refine blk_drew ?_ | refine blk_alloc ?_ _)); refine blk_far ?_ NB280_301.out _; (with_reducible repeat (first | refine blk_drewN ?_ _ | refine blk_drew ?_ | refine blk_alloc ?_ _)); refine blk_far ?_ NB280_301.out _; (with_reducible repeat (first | refine blk_drewN ?_ _ | refine blk_drew ?_ | refine blk_alloc ?_ _)); refine blk_far ?_ NB280_301.out _; (with_reducible repeat (first | refine blk_drewN ?_ _ | refine blk_drew ?_ | refine blk_alloc ?_ _)); refine blk_far ?_ NB280_301.out _; (with_reducible repeat (first | refine blk_drewN ?_ _ | refine blk_drew ?_ | refine blk_alloc ?_ _)); exact BK280.out) hb); have n3_ := Aside0.mk (blk_below (g := gb301) (o := .cells #[.int .i64 t294, .int .i64 t295, .bool t296, .slice Ao48 t297.length co48] 34 (0, 0)) (by (with_reducible repeat (first | refine blk_drewN ?_ _ | refine blk_drew ?_ | refine blk_alloc ?_ _)); refine blk_put (cs := #[.int .i64 t294, .int .i64 t295, .bool t296, .slice none 0 0]) ?_ 3 _ rfl; (with_reducible repeat (first | refine blk_drewN ?_ _ | refine blk_drew ?_ | refine blk_alloc ?_ _)); refine blk_put (cs := #[.int .i64 t294, .int .i64 t295, .bool false, .slice none 0 0]) ?_ 2 _ rfl; (with_reducible repeat (first | refine blk_drewN ?_ _ | refine blk_drew ?_ | refine blk_alloc ?_ _)); refine blk_put (cs := #[.int .i64 t294, .int .i64 0, .bool false, .slice none 0 0]) ?_ 1 _ rfl; (with_reducible repeat (first | refine blk_drewN ?_ _ | refine blk_drew ?_ | refine blk_alloc ?_ _)); refine blk_put (cs := #[.int .i64 0, .int .i64 0, .bool false, .slice none 0 0]) ?_ 0 _ rfl; (with_reducible repeat (first | refine blk_drewN ?_ _ | refine blk_drew ?_ | refine blk_alloc ?_ _)); exact BK301.out) hb); have n4_ := Aside0.mk (below_step (by repeat (first | (with_reducible first | exact HB.out | apply below_alloc | apply pw_below_drewN | apply below_drew1 | refine below_set ?_ GE280.out | refine below_set ?_ GE301.out) | exact HB.out)) hb); clear HO299; clear BK280; clear BK301; clear HB; have HO299 := n0_; have HO307 := n1_; have BK280 := n2_; have BK301 := n3_; have HB := n4_; clear n0_ n1_ n2_ n3_ n4_; (try clear hb); (try clear hb2); (try clear hk); (try clear hi); (try clear ho0)) | ((with_reducible refine gate_dst (N := 9) rfl ?_); (try (refine gate_guard (by rfl) ?_; dsimp only)); refine box_event ?hg (N := 9) ?hd (cs := #[.int .i64 0, .int .i64 0, .bool false, .slice none 0 0]) (t := 34) ?hr ?_; (case hd => rfl); (case hg => rfl); (case hr => first | (go_simp; done) | (go_simp; rfl)); intro gb309 hg w50 hbox hb; have n0_ := Aside0.mk (Kd.R_below (by (with_reducible repeat (first | apply Kd.R_alloc | apply Kd.R_drewN | apply Kd.R_drew)); exact HO299.out) hb); have n1_ := Aside0.mk (Kd.R_below (by (with_reducible repeat (first | apply Kd.R_alloc | apply Kd.R_drewN | apply Kd.R_drew)); exact HO307.out) hb); have n2_ := Aside0.mk (blk_below (g := gb280) (o := .cells #[.int .i64 a0_0, .int .i64 a0_1, .bool a0_2, .slice A0_3 l0_3.length c0_3] 34 (0, 0)) (by (with_reducible repeat (first | refine blk_drewN ?_ _ | refine blk_drew ?_ | refine blk_alloc ?_ _)); exact BK280.out) hb); have n3_ := Aside0.mk (blk_below (g := gb301) (o := .cells #[.int .i64 t294, .int .i64 t295, .bool t296, .slice Ao48 t297.length co48] 34 (0, 0)) (by (with_reducible repeat (first | refine blk_drewN ?_ _ | refine blk_drew ?_ | refine blk_alloc ?_ _)); exact BK301.out) hb); have n4_ := Aside0.mk (below_step (by repeat (first | (with_reducible first | exact HB.out | apply below_alloc | apply pw_below_drewN | apply below_drew1 | refine below_set ?_ GE280.out | refine below_set ?_ GE301.out) | exact HB.out)) hb); have n5_ := Aside0.mk (hbox); have n6_ := Aside0.mk ((by rw [hg]; exact (below_size (by repeat (first | (with_reducible first | exact HB.out | apply below_alloc | apply pw_below_drewN | apply below_drew1 | refine below_set ?_ GE280.out | refine below_set ?_ GE301.out) | exact HB.out))) : w.heap.size ≤ gb309)); have n7_ := Aside0.mk ((by rw [hg]; exact (below_size (by repeat (first | (with_reducible first | exact HB.out | apply below_alloc | apply pw_below_drewN | apply below_drew1 | refine below_set ?_ GE280.out | refine below_set ?_ GE301.out) | exact HB.out))) : w.heap.size ≤ gb309)); have n8_ := Aside0.mk ((by rw [hg]; exact Nat.ne_of_lt (blk_lt (g := gb280) (o := .cells #[.int .i64 a0_0, .int .i64 a0_1, .bool a0_2, .slice A0_3 l0_3.length c0_3] 34 (0, 0)) (by (with_reducible repeat (first | refine blk_drewN ?_ _ | refine blk_drew ?_ | refine blk_alloc ?_ _)); exact BK280.out)) : gb280 ≠ gb309)); have n9_ := Aside0.mk ((by rw [hg]; exact Nat.ne_of_gt (blk_lt (g := gb280) (o := .cells #[.int .i64 a0_0, .int .i64 a0_1, .bool a0_2, .slice A0_3 l0_3.length c0_3] 34 (0, 0)) (by (with_reducible repeat (first | refine blk_drewN ?_ _ | refine blk_drew ?_ | refine blk_alloc ?_ _)); exact BK280.out)) : gb309 ≠ gb280)); have n10_ := Aside0.mk ((by rw [hg]; exact Nat.ne_of_lt (blk_lt (g := gb301) (o := .cells #[.int .i64 t294, .int .i64 t295, .bool t296, .slice Ao48 t297.length co48] 34 (0, 0)) (by (with_reducible repeat (first | refine blk_drewN ?_ _ | refine blk_drew ?_ | refine blk_alloc ?_ _)); exact BK301.out)) : gb301 ≠ gb309)); have n11_ := Aside0.mk ((by rw [hg]; exact Nat.ne_of_gt (blk_lt (g := gb301) (o := .cells #[.int .i64 t294, .int .i64 t295, .bool t296, .slice Ao48 t297.length co48] 34 (0, 0)) (by (with_reducible repeat (first | refine blk_drewN ?_ _ | refine blk_drew ?_ | refine blk_alloc ?_ _)); exact BK301.out)) : gb309 ≠ gb301)); clear HO299; clear HO307; clear BK280; clear BK301; clear HB; have HO299 := n0_; have HO307 := n1_; have BK280 := n2_; have BK301 := n3_; have HB := n4_; have BK309 := n5_; have GW309 := n6_; have GE309 := n7_; have NB280_309 := n8_; have NB309_280 := n9_; have NB301_309 := n10_; have NB309_301 := n11_; clear n0_ n1_ n2_ n3_ n4_ n5_ n6_ n7_ n8_ n9_ n10_ n11_; clear hb hbox hg; have hnb51 := NB309_280.out; have hnc51 := NB280_309.out; have hnb52 := NB309_301.out; have hnc52 := NB301_309.out; have hcz53_0 : w50.cell? ⟨gb309, 0, none⟩ = some (.int .i64 0) := (blk_cell BK309.out 0).trans rfl; have hcz53_1 : w50.cell? ⟨gb309, 1, none⟩ = some (.int .i64 0) := (blk_cell BK309.out 1).trans rfl; have hcz53_2 : w50.cell? ⟨gb309, 2, none⟩ = some (.bool false) := (blk_cell BK309.out 2).trans rfl; have hcz53_3 : w50.cell? ⟨gb309, 3, none⟩ = some (.slice none 0 0) := (blk_cell BK309.out 3).trans rfl; have hfz53_0 := blk_frozen BK309.out 0; have hfz53_1 := blk_frozen BK309.out 1; have hfz53_2 := blk_frozen BK309.out 2; have hfz53_3 := blk_frozen BK309.out 3; obtain ⟨Ao54, co54, eo54⟩ := Kd.R_slice HO307.out; subst eo54))
        have n0_ : Aside0 (Kd.R (Kd.int .u8) 5 ((((w50.setCell ⟨gb309, 0, none⟩ (.int .i64 t302)).setCell ⟨gb309, 1, none⟩ (.int .i64 t303)).setCell ⟨gb309, 2, none⟩ (.bool t304)).setCell ⟨gb309, 3, none⟩ (.slice Ao54 t305.length co54)) w.heap.size (fun k_ => some k_ ≠ (.slice Ao54 t305.length co54 : Value).ownBlock) (.slice Ao48 t297.length co48) t297) := ⟨by (with_reducible repeat (first | apply Kd.R_alloc | apply Kd.R_drewN | apply Kd.R_drew)); exact Kd.R_mono (Kd.R_far (p := ⟨gb309, 3, none⟩) (Kd.R_far (p := ⟨gb309, 2, none⟩) (Kd.R_far (p := ⟨gb309, 1, none⟩) (Kd.R_far (p := ⟨gb309, 0, none⟩) (Kd.R_types HO299.out BK309.out (by decide)) (fun _ hk => hk.2) (.int .i64 t302)) (fun _ hk => hk.2) (.int .i64 t303)) (fun _ hk => hk.2) (.bool t304)) (fun _ hk => hk.2) (.slice Ao54 t305.length co54)) (fun _ hk => hk.1.2)⟩
        have n1_ : Aside0 (Kd.R (Kd.int .u8) 5 ((((w50.setCell ⟨gb309, 0, none⟩ (.int .i64 t302)).setCell ⟨gb309, 1, none⟩ (.int .i64 t303)).setCell ⟨gb309, 2, none⟩ (.bool t304)).setCell ⟨gb309, 3, none⟩ (.slice Ao54 t305.length co54)) w.heap.size (fun k_ => some k_ ≠ (.slice Ao48 t297.length co48 : Value).ownBlock) (.slice Ao54 t305.length co54) t305) := ⟨by (with_reducible repeat (first | apply Kd.R_alloc | apply Kd.R_drewN | apply Kd.R_drew)); exact Kd.R_mono (Kd.R_far (p := ⟨gb309, 3, none⟩) (Kd.R_far (p := ⟨gb309, 2, none⟩) (Kd.R_far (p := ⟨gb309, 1, none⟩) (Kd.R_far (p := ⟨gb309, 0, none⟩) (Kd.R_types HO307.out BK309.out (by decide)) (fun _ hk => hk.2) (.int .i64 t302)) (fun _ hk => hk.2) (.int .i64 t303)) (fun _ hk => hk.2) (.bool t304)) (fun _ hk => hk.2) (.slice Ao54 t305.length co54)) (fun _ hk => hk.1.2)⟩
        have n2_ : Aside0 (((((w50.setCell ⟨gb309, 0, none⟩ (.int .i64 t302)).setCell ⟨gb309, 1, none⟩ (.int .i64 t303)).setCell ⟨gb309, 2, none⟩ (.bool t304)).setCell ⟨gb309, 3, none⟩ (.slice Ao54 t305.length co54)).heap[gb280]? = some (.cells #[.int .i64 a0_0, .int .i64 a0_1, .bool a0_2, .slice A0_3 l0_3.length c0_3] 34 (0, 0))) := ⟨by (with_reducible repeat (first | refine blk_drewN ?_ _ | refine blk_drew ?_ | refine blk_alloc ?_ _)); refine blk_far ?_ NB280_309.out _; (with_reducible repeat (first | refine blk_drewN ?_ _ | refine blk_drew ?_ | refine blk_alloc ?_ _)); refine blk_far ?_ NB280_309.out _; (with_reducible repeat (first | refine blk_drewN ?_ _ | refine blk_drew ?_ | refine blk_alloc ?_ _)); refine blk_far ?_ NB280_309.out _; (with_reducible repeat (first | refine blk_drewN ?_ _ | refine blk_drew ?_ | refine blk_alloc ?_ _)); refine blk_far ?_ NB280_309.out _; (with_reducible repeat (first | refine blk_drewN ?_ _ | refine blk_drew ?_ | refine blk_alloc ?_ _)); exact BK280.out⟩
        have n3_ : Aside0 (((((w50.setCell ⟨gb309, 0, none⟩ (.int .i64 t302)).setCell ⟨gb309, 1, none⟩ (.int .i64 t303)).setCell ⟨gb309, 2, none⟩ (.bool t304)).setCell ⟨gb309, 3, none⟩ (.slice Ao54 t305.length co54)).heap[gb301]? = some (.cells #[.int .i64 t294, .int .i64 t295, .bool t296, .slice Ao48 t297.length co48] 34 (0, 0))) := ⟨by (with_reducible repeat (first | refine blk_drewN ?_ _ | refine blk_drew ?_ | refine blk_alloc ?_ _)); refine blk_far ?_ NB301_309.out _; (with_reducible repeat (first | refine blk_drewN ?_ _ | refine blk_drew ?_ | refine blk_alloc ?_ _)); refine blk_far ?_ NB301_309.out _; (with_reducible repeat (first | refine blk_drewN ?_ _ | refine blk_drew ?_ | refine blk_alloc ?_ _)); refine blk_far ?_ NB301_309.out _; (with_reducible repeat (first | refine blk_drewN ?_ _ | refine blk_drew ?_ | refine blk_alloc ?_ _)); refine blk_far ?_ NB301_309.out _; (with_reducible repeat (first | refine blk_drewN ?_ _ | refine blk_drew ?_ | refine blk_alloc ?_ _)); exact BK301.out⟩
        have n4_ : Aside0 (((((w50.setCell ⟨gb309, 0, none⟩ (.int .i64 t302)).setCell ⟨gb309, 1, none⟩ (.int .i64 t303)).setCell ⟨gb309, 2, none⟩ (.bool t304)).setCell ⟨gb309, 3, none⟩ (.slice Ao54 t305.length co54)).heap[gb309]? = some (.cells #[.int .i64 t302, .int .i64 t303, .bool t304, .slice Ao54 t305.length co54] 34 (0, 0))) := ⟨by (with_reducible repeat (first | refine blk_drewN ?_ _ | refine blk_drew ?_ | refine blk_alloc ?_ _)); refine blk_put (cs := #[.int .i64 t302, .int .i64 t303, .bool t304, .slice none 0 0]) ?_ 3 _ rfl; (with_reducible repeat (first | refine blk_drewN ?_ _ | refine blk_drew ?_ | refine blk_alloc ?_ _)); refine blk_put (cs := #[.int .i64 t302, .int .i64 t303, .bool false, .slice none 0 0]) ?_ 2 _ rfl; (with_reducible repeat (first | refine blk_drewN ?_ _ | refine blk_drew ?_ | refine blk_alloc ?_ _)); refine blk_put (cs := #[.int .i64 t302, .int .i64 0, .bool false, .slice none 0 0]) ?_ 1 _ rfl; (with_reducible repeat (first | refine blk_drewN ?_ _ | refine blk_drew ?_ | refine blk_alloc ?_ _)); refine blk_put (cs := #[.int .i64 0, .int .i64 0, .bool false, .slice none 0 0]) ?_ 0 _ rfl; (with_reducible repeat (first | refine blk_drewN ?_ _ | refine blk_drew ?_ | refine blk_alloc ?_ _)); exact BK309.out⟩
        have n5_ : Aside0 (Below w.heap.size w ((((w50.setCell ⟨gb309, 0, none⟩ (.int .i64 t302)).setCell ⟨gb309, 1, none⟩ (.int .i64 t303)).setCell ⟨gb309, 2, none⟩ (.bool t304)).setCell ⟨gb309, 3, none⟩ (.slice Ao54 t305.length co54))) := ⟨by repeat (first | (with_reducible first | exact HB.out | apply below_alloc | apply pw_below_drewN | apply below_drew1 | refine below_set ?_ GE280.out | refine below_set ?_ GE301.out | refine below_set ?_ GE309.out) | exact HB.out)⟩
        (try clear HO299)
        (try clear HO307)
        (try clear BK280)
        (try clear BK301)
        (try clear BK309)
        (try clear HB)
        generalize ((((w50.setCell ⟨gb309, 0, none⟩ (.int .i64 t302)).setCell ⟨gb309, 1, none⟩ (.int .i64 t303)).setCell ⟨gb309, 2, none⟩ (.bool t304)).setCell ⟨gb309, 3, none⟩ (.slice Ao54 t305.length co54)) = w55 at n0_ n1_ n2_ n3_ n4_ n5_ ⊢
        have HO299 := n0_
        have HO307 := n1_
        have BK280 := n2_
        have BK301 := n3_
        have BK309 := n4_
        have HB := n5_
        clear n0_ n1_ n2_ n3_ n4_ n5_
        have n0_ := Aside0.mk (Kd.R_drew HO299.out)
        have n1_ := Aside0.mk (Kd.R_drew HO307.out)
        have n2_ := Aside0.mk (blk_drew BK280.out)
        have n3_ := Aside0.mk (blk_drew BK301.out)
        have n4_ := Aside0.mk (blk_drew BK309.out)
        have n5_ := Aside0.mk (below_drew1 HB.out)
        clear HO299
        clear HO307
        clear BK280
        clear BK301
        clear BK309
        clear HB
        have HO299 := n0_
        have HO307 := n1_
        have BK280 := n2_
        have BK301 := n3_
        have BK309 := n4_
        have HB := n5_
        clear n0_ n1_ n2_ n3_ n4_ n5_
        refine start_ (n := 19) (S := fun w' => w'.cell? ⟨gb301, 0, none⟩ = some (.int .i64 t294) ∧ w'.cell? ⟨gb301, 1, none⟩ = some (.int .i64 t295) ∧ w'.cell? ⟨gb301, 2, none⟩ = some (.bool t296) ∧ w'.cell? ⟨gb301, 3, none⟩ = some (.slice Ao48 t297.length co48) ∧ w'.cell? ⟨gb309, 0, none⟩ = some (.int .i64 t302) ∧ w'.cell? ⟨gb309, 1, none⟩ = some (.int .i64 t303) ∧ w'.cell? ⟨gb309, 2, none⟩ = some (.bool t304) ∧ w'.cell? ⟨gb309, 3, none⟩ = some (.slice Ao54 t305.length co54) ∧ w'.cell? ⟨gb280, 0, none⟩ = some (.int .i64 a0_0) ∧ w'.cell? ⟨gb280, 1, none⟩ = some (.int .i64 a0_1) ∧ w'.cell? ⟨gb280, 2, none⟩ = some (.bool a0_2) ∧ w'.cell? ⟨gb280, 3, none⟩ = some (.slice A0_3 l0_3.length c0_3)) (ds := []) #[false, false, false, false, false, false, false, false, false, false, false, false, false, false, false, false, false, false, false] (by kernel_rfl) rfl rfl ⟨(blk_cell BK301.out 0).trans rfl, (blk_cell BK301.out 1).trans rfl, (blk_cell BK301.out 2).trans rfl, (blk_cell BK301.out 3).trans rfl, (blk_cell BK309.out 0).trans rfl, (blk_cell BK309.out 1).trans rfl, (blk_cell BK309.out 2).trans rfl, (blk_cell BK309.out 3).trans rfl, (blk_cell BK280.out 0).trans rfl, (blk_cell BK280.out 1).trans rfl, (blk_cell BK280.out 2).trans rfl, (blk_cell BK280.out 3).trans rfl⟩ (fun hHeld => ?_); refine with_tabW shutterlaw22_PieceWrites.tab11 shutterlaw22_PieceWrites.bits11 (fun HT_ HW_ => ?_)
        generalize w55.drew = w56 at HO299 HO307 BK280 BK301 BK309 HB hHeld ⊢
        refine take_ (i := 0) (N := some 60) (v := ?_) (a' := ?_) #[true, false, false, false, false, false, false, false, false, false, false, false, false, false, false, false, false, false, false] rfl rfl (take_ofW HT_.out HW_.out (by kernel_rfl)) (fun _ _ _ h => h) (Or.inl ⟨by rfl, ?_⟩) hHeld ?_ ?_
        rotate_left
        ·rintro w' ⟨s0, s1, s2, s3, s4, s5, s6, s7, s8, s9, s10, s11⟩
         go_simp
         with_reducible rfl
        rotate_left
        ·simp only [Act.put, List.setIfInBounds_toArray, List.set_cons_zero, List.set_cons_succ, i64_w, i32_w]
         rfl
        refine take_ (i := 1) (N := some 61) (v := ?_) (a' := ?_) #[true, true, false, false, false, false, false, false, false, false, false, false, false, false, false, false, false, false, false] rfl rfl (take_ofW HT_.out HW_.out (by kernel_rfl)) (fun _ _ _ h => h) (Or.inl ⟨by rfl, ?_⟩) hHeld ?_ ?_
        rotate_left
        ·rintro w' ⟨s0, s1, s2, s3, s4, s5, s6, s7, s8, s9, s10, s11⟩
         go_simp
         with_reducible rfl
        rotate_left
        ·simp only [Act.put, List.setIfInBounds_toArray, List.set_cons_zero, List.set_cons_succ, i64_w, i32_w]
         rfl
        refine one_ (i := 2) (N := some 62) #[true, true, true, false, false, false, false, false, false, false, false, false, false, false, false, false, false, false, false] rfl rfl (one_of HT_.out (by kernel_rfl)) (by decide) (fun K hK => ?_)
        refine goes_ Tryd.func20 (by kernel_rfl) rfl #[.agg #[.int .i64 t294, .int .i64 t295, .bool t296, .slice Ao48 t297.length co48], .agg #[.int .i64 t302, .int .i64 t303, .bool t304, .slice Ao54 t305.length co54]] (by rfl) rfl rfl (by (try simp only [List.map_toArray, List.map_cons, List.map_nil]); first | done | rfl | (simp only [List.length_drop, List.length_take]; rfl)) ?_
        with_reducible refine (shutterref22_Same.calls kj17 t294 t295 t296 _ _ t297 t302 t303 t304 _ _ t305 true _ ?side1 ?side2 ?side3 ?side4 A38.out).mono ?_
        (case side1 => repeat (first | exact (Kd.R_reads' HO299.out).2.2 | (with_reducible refine Kd.C_alloc ?_ _) | (with_reducible refine Kd.C_drewN ?_ _) | (with_reducible refine Kd.C_drew ?_)))
        (case side2 => exact (Kd.R_reads' HO299.out).2.1)
        (case side3 => repeat (first | exact (Kd.R_reads' HO307.out).2.2 | (with_reducible refine Kd.C_alloc ?_ _) | (with_reducible refine Kd.C_drewN ?_ _) | (with_reducible refine Kd.C_drew ?_)))
        (case side4 => exact (Kd.R_reads' HO307.out).2.1)
        rintro e w57 ⟨rfl, hb⟩
        refine ⟨_, rfl, ?_⟩
        have n0_ := Aside0.mk (Kd.R_below (by (with_reducible repeat (first | apply Kd.R_alloc | apply Kd.R_drewN | apply Kd.R_drew)); exact HO299.out) hb)
        have n1_ := Aside0.mk (Kd.R_below (by (with_reducible repeat (first | apply Kd.R_alloc | apply Kd.R_drewN | apply Kd.R_drew)); exact HO307.out) hb)
        have n2_ := Aside0.mk (blk_below (g := gb280) (o := .cells #[.int .i64 a0_0, .int .i64 a0_1, .bool a0_2, .slice A0_3 l0_3.length c0_3] 34 (0, 0)) (by (with_reducible repeat (first | refine blk_drewN ?_ _ | refine blk_drew ?_ | refine blk_alloc ?_ _)); exact BK280.out) hb)
        have n3_ := Aside0.mk (blk_below (g := gb301) (o := .cells #[.int .i64 t294, .int .i64 t295, .bool t296, .slice Ao48 t297.length co48] 34 (0, 0)) (by (with_reducible repeat (first | refine blk_drewN ?_ _ | refine blk_drew ?_ | refine blk_alloc ?_ _)); exact BK301.out) hb)
        have n4_ := Aside0.mk (blk_below (g := gb309) (o := .cells #[.int .i64 t302, .int .i64 t303, .bool t304, .slice Ao54 t305.length co54] 34 (0, 0)) (by (with_reducible repeat (first | refine blk_drewN ?_ _ | refine blk_drew ?_ | refine blk_alloc ?_ _)); exact BK309.out) hb)
        have n5_ := Aside0.mk (below_step (by repeat (first | (with_reducible first | exact HB.out | apply below_alloc | apply pw_below_drewN | apply below_drew1 | refine below_set ?_ GE280.out | refine below_set ?_ GE301.out | refine below_set ?_ GE309.out) | exact HB.out)) hb)
        clear HO299
        clear HO307
        clear BK280
        clear BK301
        clear BK309
        clear HB
        have HO299 := n0_
        have HO307 := n1_
        have BK280 := n2_
        have BK301 := n3_
        have BK309 := n4_
        have HB := n5_
        clear n0_ n1_ n2_ n3_ n4_ n5_
        (try clear hb)
        (try clear hb2)
        (try clear hk)
        (try clear hi)
        have CA40 := fun (W : World) (hGlW : Aside0 (Code.Gl W)) => api_Code.calls t300 t311 W hGlW A40.out
        try simp only [errW_none, errW_some] at CA40
        refine hK.out _ _ ⟨(blk_cell BK301.out 0).trans rfl, (blk_cell BK301.out 1).trans rfl, (blk_cell BK301.out 2).trans rfl, (blk_cell BK301.out 3).trans rfl, (blk_cell BK309.out 0).trans rfl, (blk_cell BK309.out 1).trans rfl, (blk_cell BK309.out 2).trans rfl, (blk_cell BK309.out 3).trans rfl, (blk_cell BK280.out 0).trans rfl, (blk_cell BK280.out 1).trans rfl, (blk_cell BK280.out 2).trans rfl, (blk_cell BK280.out 3).trans rfl⟩ (fun hHeld => ?_)
        clear hK K
        refine norm_ (a' := ?_) ?_ ?_
        rotate_left
        ·show Act.put _ (some 62) _ = _
         simp only [Act.put, List.setIfInBounds_toArray, List.set_cons_zero, List.set_cons_succ, i64_w, i32_w]
         rfl
        refine pure_ (i := 3) (N := some 63) (v := ?_) (a' := ?_) #[true, true, true, true, false, false, false, false, false, false, false, false, false, false, false, false, false, false, false] rfl rfl (any_of HT_.out (by kernel_rfl)) (fun _ _ _ h => h) (Or.inl ⟨by rfl, ?_⟩) ?_ ?_
        rotate_left
        ·intro w'
         go_simp
         with_reducible rfl
        rotate_left
        ·simp only [Act.put, List.setIfInBounds_toArray, List.set_cons_zero, List.set_cons_succ, i64_w, i32_w]
         rfl
        refine pure_ (i := 4) (N := some 64) (v := ?_) (a' := ?_) #[true, true, true, true, true, false, false, false, false, false, false, false, false, false, false, false, false, false, false] rfl rfl (any_of HT_.out (by kernel_rfl)) (fun _ _ _ h => h) (Or.inl ⟨by rfl, ?_⟩) ?_ ?_
        rotate_left
        ·intro w'
         go_simp
         with_reducible rfl
        rotate_left
        ·simp only [Act.put, List.setIfInBounds_toArray, List.set_cons_zero, List.set_cons_succ, i64_w, i32_w]
         rfl
        refine pure_ (i := 6) (N := some 66) (v := ?_) (a' := ?_) #[true, true, true, true, true, false, true, false, false, false, false, false, false, false, false, false, false, false, false] rfl rfl (any_of HT_.out (by kernel_rfl)) (fun _ _ _ h => h) (Or.inl ⟨by rfl, ?_⟩) ?_ ?_
        rotate_left
        ·intro w'
         go_simp
         with_reducible rfl
        rotate_left
        ·simp only [Act.put, List.setIfInBounds_toArray, List.set_cons_zero, List.set_cons_succ, i64_w, i32_w]
         rfl
        refine one_ (i := 5) (N := some 65) #[true, true, true, true, true, true, true, false, false, false, false, false, false, false, false, false, false, false, false] rfl rfl (one_of HT_.out (by kernel_rfl)) (by decide) (fun K hK => ?_)
        refine goes_ Tryd.func11 (by kernel_rfl) rfl #[errW t300] (by rfl) rfl rfl (by (try simp only [List.map_toArray, List.map_cons, List.map_nil]); first | done | rfl | (simp only [List.length_drop, List.length_take]; rfl)) ?_
        with_reducible refine (CA40 _ (by exact Aside0.mk (Code.Gl.below hGl.out (by repeat (first | (with_reducible first | exact HB.out | apply below_alloc | apply pw_below_drewN | apply below_drew1 | refine below_set ?_ (Aside0.out (by assumption))) | exact HB.out)) (Code.Gl.lt hGl.out)))).mono ?_
        rintro e w58 ⟨rfl, hb⟩
        refine ⟨_, rfl, ?_⟩
        have n0_ := Aside0.mk (Kd.R_below (by (with_reducible repeat (first | apply Kd.R_alloc | apply Kd.R_drewN | apply Kd.R_drew)); exact HO299.out) hb)
        have n1_ := Aside0.mk (Kd.R_below (by (with_reducible repeat (first | apply Kd.R_alloc | apply Kd.R_drewN | apply Kd.R_drew)); exact HO307.out) hb)
        have n2_ := Aside0.mk (blk_below (g := gb280) (o := .cells #[.int .i64 a0_0, .int .i64 a0_1, .bool a0_2, .slice A0_3 l0_3.length c0_3] 34 (0, 0)) (by (with_reducible repeat (first | refine blk_drewN ?_ _ | refine blk_drew ?_ | refine blk_alloc ?_ _)); exact BK280.out) hb)
        have n3_ := Aside0.mk (blk_below (g := gb301) (o := .cells #[.int .i64 t294, .int .i64 t295, .bool t296, .slice Ao48 t297.length co48] 34 (0, 0)) (by (with_reducible repeat (first | refine blk_drewN ?_ _ | refine blk_drew ?_ | refine blk_alloc ?_ _)); exact BK301.out) hb)
        have n4_ := Aside0.mk (blk_below (g := gb309) (o := .cells #[.int .i64 t302, .int .i64 t303, .bool t304, .slice Ao54 t305.length co54] 34 (0, 0)) (by (with_reducible repeat (first | refine blk_drewN ?_ _ | refine blk_drew ?_ | refine blk_alloc ?_ _)); exact BK309.out) hb)
        have n5_ := Aside0.mk (below_step (by repeat (first | (with_reducible first | exact HB.out | apply below_alloc | apply pw_below_drewN | apply below_drew1 | refine below_set ?_ GE280.out | refine below_set ?_ GE301.out | refine below_set ?_ GE309.out) | exact HB.out)) hb)
        clear HO299
        clear HO307
        clear BK280
        clear BK301
        clear BK309
        clear HB
        have HO299 := n0_
        have HO307 := n1_
        have BK280 := n2_
        have BK301 := n3_
        have BK309 := n4_
        have HB := n5_
        clear n0_ n1_ n2_ n3_ n4_ n5_
        (try clear hb)
        (try clear hb2)
        (try clear hk)
        (try clear hi)
        refine hK.out _ _ ⟨(blk_cell BK301.out 0).trans rfl, (blk_cell BK301.out 1).trans rfl, (blk_cell BK301.out 2).trans rfl, (blk_cell BK301.out 3).trans rfl, (blk_cell BK309.out 0).trans rfl, (blk_cell BK309.out 1).trans rfl, (blk_cell BK309.out 2).trans rfl, (blk_cell BK309.out 3).trans rfl, (blk_cell BK280.out 0).trans rfl, (blk_cell BK280.out 1).trans rfl, (blk_cell BK280.out 2).trans rfl, (blk_cell BK280.out 3).trans rfl⟩ (fun hHeld => ?_)
        clear hK K
        refine norm_ (a' := ?_) ?_ ?_
        rotate_left
        ·show Act.put _ (some 65) _ = _
         simp only [Act.put, List.setIfInBounds_toArray, List.set_cons_zero, List.set_cons_succ, i64_w, i32_w]
         rfl
        refine pure_ (i := 7) (N := some 67) (v := ?_) (a' := ?_) #[true, true, true, true, true, true, true, true, false, false, false, false, false, false, false, false, false, false, false] rfl rfl (any_of HT_.out (by kernel_rfl)) (fun _ _ _ h => h) (Or.inl ⟨by rfl, ?_⟩) ?_ ?_
        rotate_left
        ·intro w'
         go_simp
         with_reducible rfl
        rotate_left
        ·simp only [Act.put, List.setIfInBounds_toArray, List.set_cons_zero, List.set_cons_succ, i64_w, i32_w]
         rfl
        refine pure_ (i := 8) (N := some 68) (v := ?_) (a' := ?_) #[true, true, true, true, true, true, true, true, true, false, false, false, false, false, false, false, false, false, false] rfl rfl (any_of HT_.out (by kernel_rfl)) (fun _ _ _ h => h) (Or.inl ⟨by rfl, ?_⟩) ?_ ?_
        rotate_left
        ·intro w'
         go_simp
         with_reducible rfl
        rotate_left
        ·simp only [Act.put, List.setIfInBounds_toArray, List.set_cons_zero, List.set_cons_succ, i64_w, i32_w]
         rfl
        refine pure_ (i := 9) (N := some 69) (v := ?_) (a' := ?_) #[true, true, true, true, true, true, true, true, true, true, false, false, false, false, false, false, false, false, false] rfl rfl (any_of HT_.out (by kernel_rfl)) (fun _ _ _ h => h) (Or.inl ⟨by rfl, ?_⟩) ?_ ?_
        rotate_left
        ·intro w'
         go_simp
         with_reducible rfl
        rotate_left
        ·simp only [Act.put, List.setIfInBounds_toArray, List.set_cons_zero, List.set_cons_succ, i64_w, i32_w]
         rfl
        refine take_ (i := 10) (N := some 70) (v := ?_) (a' := ?_) #[true, true, true, true, true, true, true, true, true, true, true, false, false, false, false, false, false, false, false] rfl rfl (take_ofW HT_.out HW_.out (by kernel_rfl)) (fun _ _ _ h => h) (Or.inl ⟨by rfl, ?_⟩) hHeld ?_ ?_
        rotate_left
        ·rintro w' ⟨s0, s1, s2, s3, s4, s5, s6, s7, s8, s9, s10, s11⟩
         go_simp
         with_reducible rfl
        rotate_left
        ·simp only [Act.put, List.setIfInBounds_toArray, List.set_cons_zero, List.set_cons_succ, i64_w, i32_w]
         rfl
        refine take_ (i := 11) (N := some 71) (v := ?_) (a' := ?_) #[true, true, true, true, true, true, true, true, true, true, true, true, false, false, false, false, false, false, false] rfl rfl (take_ofW HT_.out HW_.out (by kernel_rfl)) (fun _ _ _ h => h) (Or.inl ⟨by rfl, ?_⟩) hHeld ?_ ?_
        rotate_left
        ·rintro w' ⟨s0, s1, s2, s3, s4, s5, s6, s7, s8, s9, s10, s11⟩
         go_simp
         with_reducible rfl
        rotate_left
        ·simp only [Act.put, List.setIfInBounds_toArray, List.set_cons_zero, List.set_cons_succ, i64_w, i32_w]
         rfl
        refine take_ (i := 13) (N := some 73) (v := ?_) (a' := ?_) #[true, true, true, true, true, true, true, true, true, true, true, true, false, true, false, false, false, false, false] rfl rfl (take_ofW HT_.out HW_.out (by kernel_rfl)) (fun _ _ _ h => h) (Or.inl ⟨by rfl, ?_⟩) hHeld ?_ ?_
        rotate_left
        ·rintro w' ⟨s0, s1, s2, s3, s4, s5, s6, s7, s8, s9, s10, s11⟩
         go_simp
         with_reducible rfl
        rotate_left
        ·simp only [Act.put, List.setIfInBounds_toArray, List.set_cons_zero, List.set_cons_succ, i64_w, i32_w]
         rfl
        refine take_ (i := 14) (N := some 74) (v := ?_) (a' := ?_) #[true, true, true, true, true, true, true, true, true, true, true, true, false, true, true, false, false, false, false] rfl rfl (take_ofW HT_.out HW_.out (by kernel_rfl)) (fun _ _ _ h => h) (Or.inl ⟨by rfl, ?_⟩) hHeld ?_ ?_
        rotate_left
        ·rintro w' ⟨s0, s1, s2, s3, s4, s5, s6, s7, s8, s9, s10, s11⟩
         go_simp
         with_reducible rfl
        rotate_left
        ·simp only [Act.put, List.setIfInBounds_toArray, List.set_cons_zero, List.set_cons_succ, i64_w, i32_w]
         rfl
        refine one_ (i := 12) (N := some 72) #[true, true, true, true, true, true, true, true, true, true, true, true, true, true, true, false, false, false, false] rfl rfl (one_of HT_.out (by kernel_rfl)) (by decide) (fun K hK => ?_)
        refine goes_ Tryd.func21 (by kernel_rfl) rfl #[.agg #[.int .i64 a0_0, .int .i64 a0_1, .bool a0_2, .slice A0_3 l0_3.length c0_3], .agg #[.int .i64 t294, .int .i64 t295, .bool t296, .slice Ao48 t297.length co48]] (by rfl) rfl rfl (by (try simp only [List.map_toArray, List.map_cons, List.map_nil]); first | done | rfl | (simp only [List.length_drop, List.length_take]; rfl)) ?_
        with_reducible refine (piece_Same.calls kj17 a0_0 a0_1 a0_2 _ _ l0_3 t294 t295 t296 _ _ t297 t312 _ ?side1 ?side2 ?side3 ?side4 A42.out).mono ?_
        (case side1 => repeat (first | exact (Kd.C_below HR0_3.out HB.out) | (with_reducible refine Kd.C_alloc ?_ _) | (with_reducible refine Kd.C_drewN ?_ _) | (with_reducible refine Kd.C_drew ?_)))
        (case side2 => exact HC0_3.out)
        (case side3 => repeat (first | exact (Kd.R_reads' HO299.out).2.2 | (with_reducible refine Kd.C_alloc ?_ _) | (with_reducible refine Kd.C_drewN ?_ _) | (with_reducible refine Kd.C_drew ?_)))
        (case side4 => exact (Kd.R_reads' HO299.out).2.1)
        rintro e w59 ⟨rfl, hb⟩
        refine ⟨_, rfl, ?_⟩
        have n0_ := Aside0.mk (Kd.R_below (by (with_reducible repeat (first | apply Kd.R_alloc | apply Kd.R_drewN | apply Kd.R_drew)); exact HO299.out) hb)
        have n1_ := Aside0.mk (Kd.R_below (by (with_reducible repeat (first | apply Kd.R_alloc | apply Kd.R_drewN | apply Kd.R_drew)); exact HO307.out) hb)
        have n2_ := Aside0.mk (blk_below (g := gb280) (o := .cells #[.int .i64 a0_0, .int .i64 a0_1, .bool a0_2, .slice A0_3 l0_3.length c0_3] 34 (0, 0)) (by (with_reducible repeat (first | refine blk_drewN ?_ _ | refine blk_drew ?_ | refine blk_alloc ?_ _)); exact BK280.out) hb)
        have n3_ := Aside0.mk (blk_below (g := gb301) (o := .cells #[.int .i64 t294, .int .i64 t295, .bool t296, .slice Ao48 t297.length co48] 34 (0, 0)) (by (with_reducible repeat (first | refine blk_drewN ?_ _ | refine blk_drew ?_ | refine blk_alloc ?_ _)); exact BK301.out) hb)
        have n4_ := Aside0.mk (blk_below (g := gb309) (o := .cells #[.int .i64 t302, .int .i64 t303, .bool t304, .slice Ao54 t305.length co54] 34 (0, 0)) (by (with_reducible repeat (first | refine blk_drewN ?_ _ | refine blk_drew ?_ | refine blk_alloc ?_ _)); exact BK309.out) hb)
        have n5_ := Aside0.mk (below_step (by repeat (first | (with_reducible first | exact HB.out | apply below_alloc | apply pw_below_drewN | apply below_drew1 | refine below_set ?_ GE280.out | refine below_set ?_ GE301.out | refine below_set ?_ GE309.out) | exact HB.out)) hb)
        clear HO299
        clear HO307
        clear BK280
        clear BK301
        clear BK309
        clear HB
        have HO299 := n0_
        have HO307 := n1_
        have BK280 := n2_
        have BK301 := n3_
        have BK309 := n4_
        have HB := n5_
        clear n0_ n1_ n2_ n3_ n4_ n5_
        (try clear hb)
        (try clear hb2)
        (try clear hk)
        (try clear hi)
        refine hK.out _ _ ⟨(blk_cell BK301.out 0).trans rfl, (blk_cell BK301.out 1).trans rfl, (blk_cell BK301.out 2).trans rfl, (blk_cell BK301.out 3).trans rfl, (blk_cell BK309.out 0).trans rfl, (blk_cell BK309.out 1).trans rfl, (blk_cell BK309.out 2).trans rfl, (blk_cell BK309.out 3).trans rfl, (blk_cell BK280.out 0).trans rfl, (blk_cell BK280.out 1).trans rfl, (blk_cell BK280.out 2).trans rfl, (blk_cell BK280.out 3).trans rfl⟩ (fun hHeld => ?_)
        clear hK K
        refine norm_ (a' := ?_) ?_ ?_
        rotate_left
        ·show Act.put _ (some 72) _ = _
         simp only [Act.put, List.setIfInBounds_toArray, List.set_cons_zero, List.set_cons_succ, i64_w, i32_w]
         rfl
        refine one_ (i := 15) (N := some 75) #[true, true, true, true, true, true, true, true, true, true, true, true, true, true, true, true, false, false, false] rfl rfl (one_of HT_.out (by kernel_rfl)) (by decide) (fun K hK => ?_)
        refine goes_ Tryd.func20 (by kernel_rfl) rfl #[.agg #[.int .i64 a0_0, .int .i64 a0_1, .bool a0_2, .slice A0_3 l0_3.length c0_3], .agg #[.int .i64 t294, .int .i64 t295, .bool t296, .slice Ao48 t297.length co48]] (by rfl) rfl rfl (by (try simp only [List.map_toArray, List.map_cons, List.map_nil]); first | done | rfl | (simp only [List.length_drop, List.length_take]; rfl)) ?_
        with_reducible refine (shutterref22_Same.calls kj17 a0_0 a0_1 a0_2 _ _ l0_3 t294 t295 t296 _ _ t297 t313 _ ?side1 ?side2 ?side3 ?side4 A43.out).mono ?_
        (case side1 => repeat (first | exact (Kd.C_below HR0_3.out HB.out) | (with_reducible refine Kd.C_alloc ?_ _) | (with_reducible refine Kd.C_drewN ?_ _) | (with_reducible refine Kd.C_drew ?_)))
        (case side2 => exact HC0_3.out)
        (case side3 => repeat (first | exact (Kd.R_reads' HO299.out).2.2 | (with_reducible refine Kd.C_alloc ?_ _) | (with_reducible refine Kd.C_drewN ?_ _) | (with_reducible refine Kd.C_drew ?_)))
        (case side4 => exact (Kd.R_reads' HO299.out).2.1)
        rintro e w60 ⟨rfl, hb⟩
        refine ⟨_, rfl, ?_⟩
        have n0_ := Aside0.mk (Kd.R_below (by (with_reducible repeat (first | apply Kd.R_alloc | apply Kd.R_drewN | apply Kd.R_drew)); exact HO299.out) hb)
        have n1_ := Aside0.mk (Kd.R_below (by (with_reducible repeat (first | apply Kd.R_alloc | apply Kd.R_drewN | apply Kd.R_drew)); exact HO307.out) hb)
        have n2_ := Aside0.mk (blk_below (g := gb280) (o := .cells #[.int .i64 a0_0, .int .i64 a0_1, .bool a0_2, .slice A0_3 l0_3.length c0_3] 34 (0, 0)) (by (with_reducible repeat (first | refine blk_drewN ?_ _ | refine blk_drew ?_ | refine blk_alloc ?_ _)); exact BK280.out) hb)
        have n3_ := Aside0.mk (blk_below (g := gb301) (o := .cells #[.int .i64 t294, .int .i64 t295, .bool t296, .slice Ao48 t297.length co48] 34 (0, 0)) (by (with_reducible repeat (first | refine blk_drewN ?_ _ | refine blk_drew ?_ | refine blk_alloc ?_ _)); exact BK301.out) hb)
        have n4_ := Aside0.mk (blk_below (g := gb309) (o := .cells #[.int .i64 t302, .int .i64 t303, .bool t304, .slice Ao54 t305.length co54] 34 (0, 0)) (by (with_reducible repeat (first | refine blk_drewN ?_ _ | refine blk_drew ?_ | refine blk_alloc ?_ _)); exact BK309.out) hb)
        have n5_ := Aside0.mk (below_step (by repeat (first | (with_reducible first | exact HB.out | apply below_alloc | apply pw_below_drewN | apply below_drew1 | refine below_set ?_ GE280.out | refine below_set ?_ GE301.out | refine below_set ?_ GE309.out) | exact HB.out)) hb)
        clear HO299
        clear HO307
        clear BK280
        clear BK301
        clear BK309
        clear HB
        have HO299 := n0_
        have HO307 := n1_
        have BK280 := n2_
        have BK301 := n3_
        have BK309 := n4_
        have HB := n5_
        clear n0_ n1_ n2_ n3_ n4_ n5_
        (try clear hb)
        (try clear hb2)
        (try clear hk)
        (try clear hi)
        refine hK.out _ _ ⟨(blk_cell BK301.out 0).trans rfl, (blk_cell BK301.out 1).trans rfl, (blk_cell BK301.out 2).trans rfl, (blk_cell BK301.out 3).trans rfl, (blk_cell BK309.out 0).trans rfl, (blk_cell BK309.out 1).trans rfl, (blk_cell BK309.out 2).trans rfl, (blk_cell BK309.out 3).trans rfl, (blk_cell BK280.out 0).trans rfl, (blk_cell BK280.out 1).trans rfl, (blk_cell BK280.out 2).trans rfl, (blk_cell BK280.out 3).trans rfl⟩ (fun hHeld => ?_)
        clear hK K
        refine norm_ (a' := ?_) ?_ ?_
        rotate_left
        ·show Act.put _ (some 75) _ = _
         simp only [Act.put, List.setIfInBounds_toArray, List.set_cons_zero, List.set_cons_succ, i64_w, i32_w]
         rfl
        refine pure_ (i := 16) (N := some 76) (v := ?_) (a' := ?_) #[true, true, true, true, true, true, true, true, true, true, true, true, true, true, true, true, true, false, false] rfl rfl (any_of HT_.out (by kernel_rfl)) (fun _ _ _ h => h) (Or.inl ⟨by rfl, ?_⟩) ?_ ?_
        rotate_left
        ·intro w'
         go_simp
         with_reducible rfl
        rotate_left
        ·simp only [Act.put, List.setIfInBounds_toArray, List.set_cons_zero, List.set_cons_succ, i64_w, i32_w]
         rfl
        refine pure_ (i := 17) (N := some 77) (v := ?_) (a' := ?_) #[true, true, true, true, true, true, true, true, true, true, true, true, true, true, true, true, true, true, false] rfl rfl (any_of HT_.out (by kernel_rfl)) (fun _ _ _ h => h) (Or.inl ⟨by rfl, ?_⟩) ?_ ?_
        rotate_left
        ·intro w'
         go_simp
         with_reducible rfl
        rotate_left
        ·simp only [Act.put, List.setIfInBounds_toArray, List.set_cons_zero, List.set_cons_succ, i64_w, i32_w]
         rfl
        refine pure_ (i := 18) (N := some 4) (v := ?_) (a' := ?_) #[true, true, true, true, true, true, true, true, true, true, true, true, true, true, true, true, true, true, true] rfl rfl (any_of HT_.out (by kernel_rfl)) (fun _ _ _ h => h) (Or.inl ⟨by rfl, ?_⟩) ?_ ?_
        rotate_left
        ·intro w'
         go_simp
         with_reducible rfl
        rotate_left
        ·simp only [Act.put, List.setIfInBounds_toArray, List.set_cons_zero, List.set_cons_succ, i64_w, i32_w]
         rfl
        refine done_ (done_of HT_.out (by kernel_rfl)) ?_
        try go_wp2
        go_ret
        exact ⟨by first | rfl | (simp [errW_none, errW_some] <;> rfl) | (simp [*, errW_none, errW_some] <;> rfl), by repeat (first | (with_reducible first | exact HB.out | apply below_alloc | apply pw_below_drewN | apply below_drew1 | refine below_set ?_ GE280.out | refine below_set ?_ GE301.out | refine below_set ?_ GE309.out) | exact HB.out)⟩
       ·rw [if_neg c41] at H
        have c41b0 : (t311 == t308) = false := beq_eq_false_iff_ne.mpr c41
        have c41b1 : (t311 != t308) = true := bne_iff_ne.mpr c41
        exact absurd H (by simp)
      ·replace c39 := Bool.eq_false_iff.mpr c39
       subst c39
       have H1 : (none) = some r := by rw [if_neg (show ¬ (false = true) by decide)] at H; exact H
       clear H
       have H := H1
       clear H1
       exact absurd H (by simp)

end Go.Proofs.YtfmlndkibnjbmaaDoor.YPiece

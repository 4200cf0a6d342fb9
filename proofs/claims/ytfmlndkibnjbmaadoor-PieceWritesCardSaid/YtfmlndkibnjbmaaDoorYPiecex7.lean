-- Own text, made by this session out of the translation by wip/tools/xprint.sh: Lean functions with the answers of Go functions, and their walks.
import Derived.Test.YtfmlndkibnjbmaaDoorYPiecex0
namespace Go.Proofs.YtfmlndkibnjbmaaDoor.YPiece
open Go.RowKit Go.Proofs.YtfmlndkibnjbmaaDoorW.PrintWords Go.Proofs.YtfmlndkibnjbmaaDoorW.PrintLast Go.Proofs.YtfmlndkibnjbmaaDoorW.PrintMore
attribute [local go_sem] max2_int min2_int max_two min_two max_three min_three max_four min_four   -- for this text's walks alone
set_option linter.unusedVariables false
set_option linter.unusedSimpArgs false

/-! ### shutterref22_May: function 15 -/
def shutterref22_May.j0 : Nat → Bool → Int → Int → Bool → List Int → Option (Bool)
 | 0, _, _, _, _, _ => none
 | k + 1, x20, x246000, x246001, x246002, x246003 => if x20 = true then (some false) else (if x246001 = 0 then (if x246002 = true then (some false) else (some ((x246003.length : Int) == 0))) else (if (x246003.length : Int) ≥ 1 then (if (x246003.length : Int) ≤ 64 then (if x246002 = true then (some true) else (some ((x246003.length : Int) == 64))) else (some false)) else (some false)))
def shutterref22_May.f (k : Nat) (a0_0 : Int) (a0_1 : Int) (a0_2 : Bool) (l0_3 : List Int) : Option (Bool) := if a0_0 < 0 then (shutterref22_May.j0 k true a0_0 a0_1 a0_2 l0_3) else (if a0_0 > 2147483647 then (shutterref22_May.j0 k true a0_0 a0_1 a0_2 l0_3) else (if a0_1 < 0 then (shutterref22_May.j0 k true a0_0 a0_1 a0_2 l0_3) else (shutterref22_May.j0 k (decide (a0_1 > 2147483647)) a0_0 a0_1 a0_2 l0_3)))
theorem shutterref22_May.mono_l : ∀ k, (∀ y0 y1 y2 y3 y4, LeO (shutterref22_May.j0 k y0 y1 y2 y3 y4) (shutterref22_May.j0 (k + 1) y0 y1 y2 y3 y4))
 | 0 => fun _ _ _ _ _ r h => by simp [shutterref22_May.j0] at h
 | k + 1 => by
  have ih0 := shutterref22_May.mono_l k
  ·intro y0 y1 y2 y3 y4
   unfold shutterref22_May.j0
   repeat' first
   | (with_reducible exact ih0 _ _ _ _ _)
   | (with_reducible exact LeO.refl _)
   | (with_reducible exact LeO.none _)
   | (with_reducible refine LeO.ite ?_ ?_)
   | (with_reducible refine LeO.bind ?_ (fun _ => ?_))
   | exact ih0 _ _ _ _ _
   | exact LeO.none _
   | refine LeO.ite ?_ ?_
   | refine LeO.bind ?_ (fun _ => ?_)
theorem shutterref22_May.mono : ∀ a0 a1 a2 a3 k, LeO (shutterref22_May.f k a0 a1 a2 a3) (shutterref22_May.f (k + 1) a0 a1 a2 a3) := by
 intro a0 a1 a2 a3 k
 have ih0 := shutterref22_May.mono_l k
 unfold shutterref22_May.f
 repeat' first
   | (with_reducible exact ih0 _ _ _ _ _)
   | (with_reducible exact LeO.refl _)
   | (with_reducible exact LeO.none _)
   | (with_reducible refine LeO.ite ?_ ?_)
   | (with_reducible refine LeO.bind ?_ (fun _ => ?_))
   | exact ih0 _ _ _ _ _
   | exact LeO.none _
   | refine LeO.ite ?_ ?_
   | refine LeO.bind ?_ (fun _ => ?_)
set_option maxHeartbeats 8000000 in
set_option maxRecDepth 100000 in
theorem shutterref22_May.calls (k : Nat) (a0_0 : Int) (a0_1 : Int) (a0_2 : Bool) (A0_3 : Option Addr) (c0_3 : Nat) (l0_3 : List Int) (r : Bool) (w : World) (hr0_3 : Kd.C (Kd.int .u8) w A0_3 l0_3.length l0_3) (hc0_3 : l0_3.length ≤ c0_3) (h : shutterref22_May.f k a0_0 a0_1 a0_2 l0_3 = some r) :
  Calls Tryd.prog 15 #[.agg #[.int .i64 a0_0, .int .i64 a0_1, .bool a0_2, .slice A0_3 l0_3.length c0_3]] w fun e w' => e = .returned (.bool r) ∧ Below w.heap.size w w' := by
 have hu34 := Tryd.underlying34
 have HR0_3 := Aside0.mk hr0_3
 have HC0_3 := Aside0.mk hc0_3
 clear hr0_3 hc0_3
 have HB := Aside0.mk (Below.refl w.heap.size w)
 have H : (if a0_0 < 0 then (shutterref22_May.j0 k true a0_0 a0_1 a0_2 l0_3) else (if a0_0 > 2147483647 then (shutterref22_May.j0 k true a0_0 a0_1 a0_2 l0_3) else (if a0_1 < 0 then (shutterref22_May.j0 k true a0_0 a0_1 a0_2 l0_3) else (shutterref22_May.j0 k (decide (a0_1 > 2147483647)) a0_0 a0_1 a0_2 l0_3)))) = some r := h
 clear h
 have HC2 := Aside0.mk H
 clear H
 go_enter Tryd.func15, Tryd.ntmps15
 go_upto_region 1 with (first | ((with_reducible refine gate_dst (N := 1) rfl ?_); (try (refine gate_guard (by rfl) ?_; dsimp only)); refine box_event ?hg (N := 1) ?hd (cs := #[.int .i64 a0_0, .int .i64 a0_1, .bool a0_2, .slice A0_3 l0_3.length c0_3]) (t := 34) ?hr ?_; (case hd => rfl); (case hg => rfl); (case hr => first | (go_simp; done) | (go_simp; rfl)); intro gb245 hg w3 hbox hb; have n0_ := Aside0.mk (below_step (by repeat (first | (with_reducible first | exact HB.out | apply below_alloc | apply pw_below_drewN | apply below_drew1) | exact HB.out)) hb); have n1_ := Aside0.mk (hbox); have n2_ := Aside0.mk ((by rw [hg]; exact (below_size (by repeat (first | (with_reducible first | exact HB.out | apply below_alloc | apply pw_below_drewN | apply below_drew1) | exact HB.out))) : w.heap.size ≤ gb245)); have n3_ := Aside0.mk ((by rw [hg]; exact (below_size (by repeat (first | (with_reducible first | exact HB.out | apply below_alloc | apply pw_below_drewN | apply below_drew1) | exact HB.out))) : w.heap.size ≤ gb245)); clear HB; have HB := n0_; have BK245 := n1_; have GW245 := n2_; have GE245 := n3_; clear n0_ n1_ n2_ n3_; clear hb hbox hg))
 (try simp only [Act.put, List.setIfInBounds_toArray, List.set_cons_zero, List.set_cons_succ])
 go_cut [20] (fun v20 wc => ∃ (kq : Nat) (x20_1 : Bool), v20 = .bool x20_1 ∧ Aside0 (shutterref22_May.j0 kq x20_1 a0_0 a0_1 a0_2 l0_3 = some r) ∧ Aside0 (kq ≤ k) ∧ Aside0 (wc.heap[gb245]? = some (.cells #[.int .i64 a0_0, .int .i64 a0_1, .bool a0_2, (.slice A0_3 l0_3.length c0_3)] 34 (0, 0))) ∧ Aside0 (Below w.heap.size w wc))
 case first =>
  have H := HC2.out
  clear HC2
  by_cases c4 : a0_0 < 0
  ·rw [if_pos c4] at H
   have c4b0 : decide (a0_0 < 0) = true := decide_eq_true c4
   clear c4
   (first | rw [c4b0] | (simp only [i64_w, i32_w]; rw [c4b0]) | skip)
   have H' := Aside0.mk H
   clear H
   have hcz5_0 : w3.cell? ⟨gb245, 0, none⟩ = some (.int .i64 a0_0) := (blk_cell BK245.out 0).trans rfl
   have hcz5_1 : w3.cell? ⟨gb245, 1, none⟩ = some (.int .i64 a0_1) := (blk_cell BK245.out 1).trans rfl
   have hcz5_2 : w3.cell? ⟨gb245, 2, none⟩ = some (.bool a0_2) := (blk_cell BK245.out 2).trans rfl
   have hcz5_3 : w3.cell? ⟨gb245, 3, none⟩ = some (.slice A0_3 l0_3.length c0_3) := (blk_cell BK245.out 3).trans rfl
   have hfz5_0 := blk_frozen BK245.out 0
   have hfz5_1 := blk_frozen BK245.out 1
   have hfz5_2 := blk_frozen BK245.out 2
   have hfz5_3 := blk_frozen BK245.out 3
   go_wp2
   go_meet
   case rel => exact ⟨_, (true), (by first | rfl | (simp; done) | (simp [*]; done)), H', ⟨by first | omega | exact Nat.le_refl _⟩, ⟨by (with_reducible repeat (first | refine blk_drewN ?_ _ | refine blk_drew ?_ | refine blk_alloc ?_ _)); exact BK245.out⟩, ⟨by repeat (first | (with_reducible first | exact HB.out | apply below_alloc | apply pw_below_drewN | apply below_drew1 | refine below_set ?_ GE245.out) | exact HB.out)⟩⟩
  ·rw [if_neg c4] at H
   have c4b0 : decide (a0_0 < 0) = false := decide_eq_false c4
   clear c4
   (first | rw [c4b0] | (simp only [i64_w, i32_w]; rw [c4b0]) | skip)
   by_cases c6 : a0_0 > 2147483647
   ·rw [if_pos c6] at H
    have c6b0 : decide (2147483647 < a0_0) = true := decide_eq_true c6
    clear c6
    have H' := Aside0.mk H
    clear H
    have hcz7_0 : w3.cell? ⟨gb245, 0, none⟩ = some (.int .i64 a0_0) := (blk_cell BK245.out 0).trans rfl
    have hcz7_1 : w3.cell? ⟨gb245, 1, none⟩ = some (.int .i64 a0_1) := (blk_cell BK245.out 1).trans rfl
    have hcz7_2 : w3.cell? ⟨gb245, 2, none⟩ = some (.bool a0_2) := (blk_cell BK245.out 2).trans rfl
    have hcz7_3 : w3.cell? ⟨gb245, 3, none⟩ = some (.slice A0_3 l0_3.length c0_3) := (blk_cell BK245.out 3).trans rfl
    have hfz7_0 := blk_frozen BK245.out 0
    have hfz7_1 := blk_frozen BK245.out 1
    have hfz7_2 := blk_frozen BK245.out 2
    have hfz7_3 := blk_frozen BK245.out 3
    go_wp2
    go_meet
    case rel => exact ⟨_, (true), (by first | rfl | (simp; done) | (simp [*]; done)), H', ⟨by first | omega | exact Nat.le_refl _⟩, ⟨by (with_reducible repeat (first | refine blk_drewN ?_ _ | refine blk_drew ?_ | refine blk_alloc ?_ _)); exact BK245.out⟩, ⟨by repeat (first | (with_reducible first | exact HB.out | apply below_alloc | apply pw_below_drewN | apply below_drew1 | refine below_set ?_ GE245.out) | exact HB.out)⟩⟩
   ·rw [if_neg c6] at H
    have c6b0 : decide (2147483647 < a0_0) = false := decide_eq_false c6
    clear c6
    by_cases c8 : a0_1 < 0
    ·rw [if_pos c8] at H
     have c8b0 : decide (a0_1 < 0) = true := decide_eq_true c8
     clear c8
     have H' := Aside0.mk H
     clear H
     have hcz9_0 : w3.cell? ⟨gb245, 0, none⟩ = some (.int .i64 a0_0) := (blk_cell BK245.out 0).trans rfl
     have hcz9_1 : w3.cell? ⟨gb245, 1, none⟩ = some (.int .i64 a0_1) := (blk_cell BK245.out 1).trans rfl
     have hcz9_2 : w3.cell? ⟨gb245, 2, none⟩ = some (.bool a0_2) := (blk_cell BK245.out 2).trans rfl
     have hcz9_3 : w3.cell? ⟨gb245, 3, none⟩ = some (.slice A0_3 l0_3.length c0_3) := (blk_cell BK245.out 3).trans rfl
     have hfz9_0 := blk_frozen BK245.out 0
     have hfz9_1 := blk_frozen BK245.out 1
     have hfz9_2 := blk_frozen BK245.out 2
     have hfz9_3 := blk_frozen BK245.out 3
     go_wp2
     go_meet
     case rel => exact ⟨_, (true), (by first | rfl | (simp; done) | (simp [*]; done)), H', ⟨by first | omega | exact Nat.le_refl _⟩, ⟨by (with_reducible repeat (first | refine blk_drewN ?_ _ | refine blk_drew ?_ | refine blk_alloc ?_ _)); exact BK245.out⟩, ⟨by repeat (first | (with_reducible first | exact HB.out | apply below_alloc | apply pw_below_drewN | apply below_drew1 | refine below_set ?_ GE245.out) | exact HB.out)⟩⟩
    ·rw [if_neg c8] at H
     have c8b0 : decide (a0_1 < 0) = false := decide_eq_false c8
     clear c8
     have H' := Aside0.mk H
     clear H
     have hcz10_0 : w3.cell? ⟨gb245, 0, none⟩ = some (.int .i64 a0_0) := (blk_cell BK245.out 0).trans rfl
     have hcz10_1 : w3.cell? ⟨gb245, 1, none⟩ = some (.int .i64 a0_1) := (blk_cell BK245.out 1).trans rfl
     have hcz10_2 : w3.cell? ⟨gb245, 2, none⟩ = some (.bool a0_2) := (blk_cell BK245.out 2).trans rfl
     have hcz10_3 : w3.cell? ⟨gb245, 3, none⟩ = some (.slice A0_3 l0_3.length c0_3) := (blk_cell BK245.out 3).trans rfl
     have hfz10_0 := blk_frozen BK245.out 0
     have hfz10_1 := blk_frozen BK245.out 1
     have hfz10_2 := blk_frozen BK245.out 2
     have hfz10_3 := blk_frozen BK245.out 3
     go_wp2
     go_meet
     case rel => exact ⟨_, (decide (a0_1 > 2147483647)), (by first | rfl | (simp; done) | (simp [*]; done)), H', ⟨by first | omega | exact Nat.le_refl _⟩, ⟨by (with_reducible repeat (first | refine blk_drewN ?_ _ | refine blk_drew ?_ | refine blk_alloc ?_ _)); exact BK245.out⟩, ⟨by repeat (first | (with_reducible first | exact HB.out | apply below_alloc | apply pw_below_drewN | apply below_drew1 | refine below_set ?_ GE245.out) | exact HB.out)⟩⟩
 case rest =>
  clear HC2
  try clear c1
  try clear p2
  try clear c4
  try clear c4b0
  try clear c6
  try clear c6b0
  try clear c8
  try clear c8b0
  try clear hcz10_0
  try clear hcz10_1
  try clear hcz10_2
  try clear hcz10_3
  try clear hcz5_0
  try clear hcz5_1
  try clear hcz5_2
  try clear hcz5_3
  try clear hcz7_0
  try clear hcz7_1
  try clear hcz7_2
  try clear hcz7_3
  try clear hcz9_0
  try clear hcz9_1
  try clear hcz9_2
  try clear hcz9_3
  try clear hfz10_0
  try clear hfz10_1
  try clear hfz10_2
  try clear hfz10_3
  try clear hfz5_0
  try clear hfz5_1
  try clear hfz5_2
  try clear hfz5_3
  try clear hfz7_0
  try clear hfz7_1
  try clear hfz7_2
  try clear hfz7_3
  try clear hfz9_0
  try clear hfz9_1
  try clear hfz9_2
  try clear hfz9_3
  obtain ⟨kq, x20_1, rfl, HA, HJ1, BK245, HB⟩ := hcut
  cases kq with
  | zero => exact absurd HA.out (by simp [shutterref22_May.j0])
  | succ kj1 =>
   have H := HA.out
   clear HA
   simp only [shutterref22_May.j0] at H
   by_cases c11 : x20_1 = true
   ·subst c11
    have H1 : (some false) = some r := by rw [if_pos rfl] at H; exact H
    clear H
    have H := H1
    clear H1
    obtain rfl := Option.some.inj H
    go_wp2
    go_ret
    exact ⟨by first | rfl | (simp [errW_none, errW_some] <;> rfl) | (simp [*, errW_none, errW_some] <;> rfl), by repeat (first | (with_reducible first | exact HB.out | apply below_alloc | apply pw_below_drewN | apply below_drew1 | refine below_set ?_ GE245.out) | exact HB.out)⟩
   ·replace c11 := Bool.eq_false_iff.mpr c11
    subst c11
    have H1 : (if a0_1 = 0 then (if a0_2 = true then (some false) else (some ((l0_3.length : Int) == 0))) else (if (l0_3.length : Int) ≥ 1 then (if (l0_3.length : Int) ≤ 64 then (if a0_2 = true then (some true) else (some ((l0_3.length : Int) == 64))) else (some false)) else (some false))) = some r := by rw [if_neg (show ¬ (false = true) by decide)] at H; exact H
    clear H
    have H := H1
    clear H1
    by_cases c12 : a0_1 = 0
    ·rw [if_pos c12] at H
     have c12b0 : (a0_1 == 0) = true := beq_iff_eq.mpr c12
     have c12b1 : (a0_1 != 0) = false := bne_eq_false_iff_eq.mpr c12
     clear c12
     by_cases c13 : a0_2 = true
     ·subst c13
      have H1 : (some false) = some r := by rw [if_pos rfl] at H; exact H
      clear H
      have H := H1
      clear H1
      obtain rfl := Option.some.inj H
      have hcz14_0 : wc.cell? ⟨gb245, 0, none⟩ = some (.int .i64 a0_0) := (blk_cell BK245.out 0).trans rfl
      have hcz14_1 : wc.cell? ⟨gb245, 1, none⟩ = some (.int .i64 a0_1) := (blk_cell BK245.out 1).trans rfl
      have hcz14_2 : wc.cell? ⟨gb245, 2, none⟩ = some (.bool true) := (blk_cell BK245.out 2).trans rfl
      have hcz14_3 : wc.cell? ⟨gb245, 3, none⟩ = some (.slice A0_3 l0_3.length c0_3) := (blk_cell BK245.out 3).trans rfl
      have hfz14_0 := blk_frozen BK245.out 0
      have hfz14_1 := blk_frozen BK245.out 1
      have hfz14_2 := blk_frozen BK245.out 2
      have hfz14_3 := blk_frozen BK245.out 3
      go_wp2
      go_ret
      exact ⟨by first | rfl | (simp [errW_none, errW_some] <;> rfl) | (simp [*, errW_none, errW_some] <;> rfl), by repeat (first | (with_reducible first | exact HB.out | apply below_alloc | apply pw_below_drewN | apply below_drew1 | refine below_set ?_ GE245.out) | exact HB.out)⟩
     ·replace c13 := Bool.eq_false_iff.mpr c13
      subst c13
      have H1 : (some ((l0_3.length : Int) == 0)) = some r := by rw [if_neg (show ¬ (false = true) by decide)] at H; exact H
      clear H
      have H := H1
      clear H1
      obtain rfl := Option.some.inj H
      have hcz15_0 : wc.cell? ⟨gb245, 0, none⟩ = some (.int .i64 a0_0) := (blk_cell BK245.out 0).trans rfl
      have hcz15_1 : wc.cell? ⟨gb245, 1, none⟩ = some (.int .i64 a0_1) := (blk_cell BK245.out 1).trans rfl
      have hcz15_2 : wc.cell? ⟨gb245, 2, none⟩ = some (.bool false) := (blk_cell BK245.out 2).trans rfl
      have hcz15_3 : wc.cell? ⟨gb245, 3, none⟩ = some (.slice A0_3 l0_3.length c0_3) := (blk_cell BK245.out 3).trans rfl
      have hfz15_0 := blk_frozen BK245.out 0
      have hfz15_1 := blk_frozen BK245.out 1
      have hfz15_2 := blk_frozen BK245.out 2
      have hfz15_3 := blk_frozen BK245.out 3
      go_wp2
      go_ret
      exact ⟨by first | rfl | (simp [errW_none, errW_some] <;> rfl) | (simp [*, errW_none, errW_some] <;> rfl), by repeat (first | (with_reducible first | exact HB.out | apply below_alloc | apply pw_below_drewN | apply below_drew1 | refine below_set ?_ GE245.out) | exact HB.out)⟩
    ·rw [if_neg c12] at H
     have c12b0 : (a0_1 == 0) = false := beq_eq_false_iff_ne.mpr c12
     have c12b1 : (a0_1 != 0) = true := bne_iff_ne.mpr c12
     by_cases c16 : (l0_3.length : Int) ≥ 1
     ·rw [if_pos c16] at H
      have c16b0 : decide (1 ≤ (l0_3.length : Int)) = true := decide_eq_true c16
      have c16b1 : decide (1 ≤ l0_3.length) = true := decide_eq_true (by omega)
      clear c16
      by_cases c17 : (l0_3.length : Int) ≤ 64
      ·rw [if_pos c17] at H
       have c17b0 : decide ((l0_3.length : Int) ≤ 64) = true := decide_eq_true c17
       have c17b1 : decide (l0_3.length ≤ 64) = true := decide_eq_true (by omega)
       clear c17
       by_cases c18 : a0_2 = true
       ·subst c18
        have H1 : (some true) = some r := by rw [if_pos rfl] at H; exact H
        clear H
        have H := H1
        clear H1
        obtain rfl := Option.some.inj H
        have hcz19_0 : wc.cell? ⟨gb245, 0, none⟩ = some (.int .i64 a0_0) := (blk_cell BK245.out 0).trans rfl
        have hcz19_1 : wc.cell? ⟨gb245, 1, none⟩ = some (.int .i64 a0_1) := (blk_cell BK245.out 1).trans rfl
        have hcz19_2 : wc.cell? ⟨gb245, 2, none⟩ = some (.bool true) := (blk_cell BK245.out 2).trans rfl
        have hcz19_3 : wc.cell? ⟨gb245, 3, none⟩ = some (.slice A0_3 l0_3.length c0_3) := (blk_cell BK245.out 3).trans rfl
        have hfz19_0 := blk_frozen BK245.out 0
        have hfz19_1 := blk_frozen BK245.out 1
        have hfz19_2 := blk_frozen BK245.out 2
        have hfz19_3 := blk_frozen BK245.out 3
        go_wp2
        go_ret
        exact ⟨by first | rfl | (simp [errW_none, errW_some] <;> rfl) | (simp [*, errW_none, errW_some] <;> rfl), by repeat (first | (with_reducible first | exact HB.out | apply below_alloc | apply pw_below_drewN | apply below_drew1 | refine below_set ?_ GE245.out) | exact HB.out)⟩
       ·replace c18 := Bool.eq_false_iff.mpr c18
        subst c18
        have H1 : (some ((l0_3.length : Int) == 64)) = some r := by rw [if_neg (show ¬ (false = true) by decide)] at H; exact H
        clear H
        have H := H1
        clear H1
        obtain rfl := Option.some.inj H
        have hcz20_0 : wc.cell? ⟨gb245, 0, none⟩ = some (.int .i64 a0_0) := (blk_cell BK245.out 0).trans rfl
        have hcz20_1 : wc.cell? ⟨gb245, 1, none⟩ = some (.int .i64 a0_1) := (blk_cell BK245.out 1).trans rfl
        have hcz20_2 : wc.cell? ⟨gb245, 2, none⟩ = some (.bool false) := (blk_cell BK245.out 2).trans rfl
        have hcz20_3 : wc.cell? ⟨gb245, 3, none⟩ = some (.slice A0_3 l0_3.length c0_3) := (blk_cell BK245.out 3).trans rfl
        have hfz20_0 := blk_frozen BK245.out 0
        have hfz20_1 := blk_frozen BK245.out 1
        have hfz20_2 := blk_frozen BK245.out 2
        have hfz20_3 := blk_frozen BK245.out 3
        go_wp2
        go_ret
        exact ⟨by first | rfl | (simp [errW_none, errW_some] <;> rfl) | (simp [*, errW_none, errW_some] <;> rfl), by repeat (first | (with_reducible first | exact HB.out | apply below_alloc | apply pw_below_drewN | apply below_drew1 | refine below_set ?_ GE245.out) | exact HB.out)⟩
      ·rw [if_neg c17] at H
       have c17b0 : decide ((l0_3.length : Int) ≤ 64) = false := decide_eq_false c17
       have c17b1 : decide (l0_3.length ≤ 64) = false := decide_eq_false (by omega)
       clear c17
       obtain rfl := Option.some.inj H
       have hcz21_0 : wc.cell? ⟨gb245, 0, none⟩ = some (.int .i64 a0_0) := (blk_cell BK245.out 0).trans rfl
       have hcz21_1 : wc.cell? ⟨gb245, 1, none⟩ = some (.int .i64 a0_1) := (blk_cell BK245.out 1).trans rfl
       have hcz21_2 : wc.cell? ⟨gb245, 2, none⟩ = some (.bool a0_2) := (blk_cell BK245.out 2).trans rfl
       have hcz21_3 : wc.cell? ⟨gb245, 3, none⟩ = some (.slice A0_3 l0_3.length c0_3) := (blk_cell BK245.out 3).trans rfl
       have hfz21_0 := blk_frozen BK245.out 0
       have hfz21_1 := blk_frozen BK245.out 1
       have hfz21_2 := blk_frozen BK245.out 2
       have hfz21_3 := blk_frozen BK245.out 3
       go_wp2
       go_ret
       exact ⟨by first | rfl | (simp [errW_none, errW_some] <;> rfl) | (simp [*, errW_none, errW_some] <;> rfl), by repeat (first | (with_reducible first | exact HB.out | apply below_alloc | apply pw_below_drewN | apply below_drew1 | refine below_set ?_ GE245.out) | exact HB.out)⟩
     ·rw [if_neg c16] at H
      have c16b0 : decide (1 ≤ (l0_3.length : Int)) = false := decide_eq_false c16
      have c16b1 : decide (1 ≤ l0_3.length) = false := decide_eq_false (by omega)
      clear c16
      obtain rfl := Option.some.inj H
      have hcz22_0 : wc.cell? ⟨gb245, 0, none⟩ = some (.int .i64 a0_0) := (blk_cell BK245.out 0).trans rfl
      have hcz22_1 : wc.cell? ⟨gb245, 1, none⟩ = some (.int .i64 a0_1) := (blk_cell BK245.out 1).trans rfl
      have hcz22_2 : wc.cell? ⟨gb245, 2, none⟩ = some (.bool a0_2) := (blk_cell BK245.out 2).trans rfl
      have hcz22_3 : wc.cell? ⟨gb245, 3, none⟩ = some (.slice A0_3 l0_3.length c0_3) := (blk_cell BK245.out 3).trans rfl
      have hfz22_0 := blk_frozen BK245.out 0
      have hfz22_1 := blk_frozen BK245.out 1
      have hfz22_2 := blk_frozen BK245.out 2
      have hfz22_3 := blk_frozen BK245.out 3
      go_wp2
      go_ret
      exact ⟨by first | rfl | (simp [errW_none, errW_some] <;> rfl) | (simp [*, errW_none, errW_some] <;> rfl), by repeat (first | (with_reducible first | exact HB.out | apply below_alloc | apply pw_below_drewN | apply below_drew1 | refine below_set ?_ GE245.out) | exact HB.out)⟩

/-! ### shutterref22_Write: function 17 -/
mutual
def shutterref22_Write.l0 : Nat → List Int → Int → Int → Int → Bool → List Int → Option (List Int)
 | 0, _, _, _, _, _, _ => none
 | k + 1, x3, x4, x247000, x247001, x247002, x247003 => if x4 ≥ 0 then (if 0 ≤ (IntKind.u64.wrap (wrap64 (8 * x4))) then (if x3.length < 140737488355328 then (shutterref22_Write.l0 k (x3 ++ [(Go.bits .and .i64 (shr .i64 x247000 (IntKind.u64.wrap (wrap64 (8 * x4)))) 255) % 256]) (wrap64 (x4 - 1)) x247000 x247001 x247002 x247003) else (none)) else (none)) else (shutterref22_Write.l1 k x3 3 x247000 x247001 x247002 x247003)
def shutterref22_Write.l1 : Nat → List Int → Int → Int → Int → Bool → List Int → Option (List Int)
 | 0, _, _, _, _, _, _ => none
 | k + 1, x3, x5, x247000, x247001, x247002, x247003 => if x5 ≥ 0 then (if 0 ≤ (IntKind.u64.wrap (wrap64 (8 * x5))) then (if x3.length < 140737488355328 then (shutterref22_Write.l1 k (x3 ++ [(Go.bits .and .i64 (shr .i64 x247001 (IntKind.u64.wrap (wrap64 (8 * x5)))) 255) % 256]) (wrap64 (x5 - 1)) x247000 x247001 x247002 x247003) else (none)) else (none)) else (if x247002 = true then (if x3.length < 140737488355328 then ((some (x3 ++ [1] : List Int)).bind fun y253 => (if y253.length + x247003.length < 140737488355328 then (some (y253 ++ x247003)) else (none))) else (none)) else (if x3.length < 140737488355328 then ((some (x3 ++ [0] : List Int)).bind fun y259 => (if y259.length + x247003.length < 140737488355328 then (some (y259 ++ x247003)) else (none))) else (none)))
end
def shutterref22_Write.f (k : Nat) (a0_0 : Int) (a0_1 : Int) (a0_2 : Bool) (l0_3 : List Int) : Option (List Int) := shutterref22_Write.l0 k ([] : List Int) 3 a0_0 a0_1 a0_2 l0_3
theorem shutterref22_Write.mono_l : ∀ k, (∀ y0 y1 y2 y3 y4 y5, LeO (shutterref22_Write.l0 k y0 y1 y2 y3 y4 y5) (shutterref22_Write.l0 (k + 1) y0 y1 y2 y3 y4 y5)) ∧ (∀ y0 y1 y2 y3 y4 y5, LeO (shutterref22_Write.l1 k y0 y1 y2 y3 y4 y5) (shutterref22_Write.l1 (k + 1) y0 y1 y2 y3 y4 y5))
 | 0 => ⟨fun _ _ _ _ _ _ r h => by simp [shutterref22_Write.l0] at h, fun _ _ _ _ _ _ r h => by simp [shutterref22_Write.l1] at h⟩
 | k + 1 => by
  obtain ⟨ih0, ih1⟩ := shutterref22_Write.mono_l k
  refine ⟨?_, ?_⟩
  ·intro y0 y1 y2 y3 y4 y5
   unfold shutterref22_Write.l0
   repeat' first
   | (with_reducible exact ih0 _ _ _ _ _ _)
   | (with_reducible exact ih1 _ _ _ _ _ _)
   | (with_reducible exact LeO.refl _)
   | (with_reducible exact LeO.none _)
   | (with_reducible refine LeO.ite ?_ ?_)
   | (with_reducible refine LeO.bind ?_ (fun _ => ?_))
   | exact ih0 _ _ _ _ _ _
   | exact ih1 _ _ _ _ _ _
   | exact LeO.none _
   | refine LeO.ite ?_ ?_
   | refine LeO.bind ?_ (fun _ => ?_)
  ·intro y0 y1 y2 y3 y4 y5
   unfold shutterref22_Write.l1
   repeat' first
   | (with_reducible exact ih0 _ _ _ _ _ _)
   | (with_reducible exact ih1 _ _ _ _ _ _)
   | (with_reducible exact LeO.refl _)
   | (with_reducible exact LeO.none _)
   | (with_reducible refine LeO.ite ?_ ?_)
   | (with_reducible refine LeO.bind ?_ (fun _ => ?_))
   | exact ih0 _ _ _ _ _ _
   | exact ih1 _ _ _ _ _ _
   | exact LeO.none _
   | refine LeO.ite ?_ ?_
   | refine LeO.bind ?_ (fun _ => ?_)
theorem shutterref22_Write.mono : ∀ a0 a1 a2 a3 k, LeO (shutterref22_Write.f k a0 a1 a2 a3) (shutterref22_Write.f (k + 1) a0 a1 a2 a3) := by
 intro a0 a1 a2 a3 k
 obtain ⟨ih0, ih1⟩ := shutterref22_Write.mono_l k
 unfold shutterref22_Write.f
 repeat' first
   | (with_reducible exact ih0 _ _ _ _ _ _)
   | (with_reducible exact ih1 _ _ _ _ _ _)
   | (with_reducible exact LeO.refl _)
   | (with_reducible exact LeO.none _)
   | (with_reducible refine LeO.ite ?_ ?_)
   | (with_reducible refine LeO.bind ?_ (fun _ => ?_))
   | exact ih0 _ _ _ _ _ _
   | exact ih1 _ _ _ _ _ _
   | exact LeO.none _
   | refine LeO.ite ?_ ?_
   | refine LeO.bind ?_ (fun _ => ?_)
set_option maxHeartbeats 8000000 in
set_option maxRecDepth 100000 in
theorem shutterref22_Write.calls (k : Nat) (a0_0 : Int) (a0_1 : Int) (a0_2 : Bool) (A0_3 : Option Addr) (c0_3 : Nat) (l0_3 : List Int) (r : List Int) (w : World) (hr0_3 : Kd.C (Kd.int .u8) w A0_3 l0_3.length l0_3) (hc0_3 : l0_3.length ≤ c0_3) (h : shutterref22_Write.f k a0_0 a0_1 a0_2 l0_3 = some r) :
  Calls Tryd.prog 17 #[.agg #[.int .i64 a0_0, .int .i64 a0_1, .bool a0_2, .slice A0_3 l0_3.length c0_3]] w fun e w' => ∃ v0_ : Value, e = .returned (v0_) ∧ Kd.R (Kd.int .u8) 5 w' w.heap.size (fun _ => True) v0_ r ∧ Below w.heap.size w w' := by
 have hu34 := Tryd.underlying34
 have HR0_3 := Aside0.mk hr0_3
 have HC0_3 := Aside0.mk hc0_3
 clear hr0_3 hc0_3
 have HB := Aside0.mk (Below.refl w.heap.size w)
 have H : (shutterref22_Write.l0 k ([] : List Int) 3 a0_0 a0_1 a0_2 l0_3) = some r := h
 clear h
 have H' := Aside0.mk H
 clear H
 go_enter Tryd.func17, Tryd.ntmps17
 go_wp2_with (first | ((with_reducible refine gate_dst (N := 1) rfl ?_); refine box_event ?hg (N := 1) ?hd (cs := #[.int .i64 a0_0, .int .i64 a0_1, .bool a0_2, .slice A0_3 l0_3.length c0_3]) (t := 34) ?hr ?_; (case hd => rfl); (case hg => rfl); (case hr => first | (go_simp; done) | (go_simp; rfl)); intro gb246 hg w2 hbox hb; have n0_ := Aside0.mk (below_step (by repeat (first | (with_reducible first | exact HB.out | apply below_alloc | apply pw_below_drewN | apply below_drew1) | exact HB.out)) hb); have n1_ := Aside0.mk (hbox); have n2_ := Aside0.mk ((by rw [hg]; exact (below_size (by repeat (first | (with_reducible first | exact HB.out | apply below_alloc | apply pw_below_drewN | apply below_drew1) | exact HB.out))) : w.heap.size ≤ gb246)); have n3_ := Aside0.mk ((by rw [hg]; exact (below_size (by repeat (first | (with_reducible first | exact HB.out | apply below_alloc | apply pw_below_drewN | apply below_drew1) | exact HB.out))) : w.heap.size ≤ gb246)); clear HB; have HB := n0_; have BK246 := n1_; have GW246 := n2_; have GE246 := n3_; clear n0_ n1_ n2_ n3_; clear hb hbox hg))
 (try simp only [add_plain])
 go_loopg [3, 4] k (fun kq v3 v4 w' => ∃ (x3_1 : List Int) (x4_1 : Int), v4 = .int .i64 x4_1 ∧ Aside0 (shutterref22_Write.l0 kq x3_1 x4_1 a0_0 a0_1 a0_2 l0_3 = some r) ∧ Aside0 (kq ≤ k) ∧ Aside0 (Kd.R (Kd.int .u8) 5 w' w.heap.size (fun _ => True) v3 x3_1) ∧ Aside0 (w'.heap[gb246]? = some (.cells #[.int .i64 a0_0, .int .i64 a0_1, .bool a0_2, (.slice A0_3 l0_3.length c0_3)] 34 (0, 0))) ∧ Aside0 (Below w.heap.size w w'))
 case atStart => exact ⟨(([] : List Int)), (3), (by first | rfl | (simp; done) | (simp [*]; done)), H', ⟨Nat.le_refl _⟩, ⟨by first | exact Kd.R_nil _ _ _ _ _ | exact Kd.N_nil _ _ _ _ _ | exact Kd.V_nil _ _ _ _ _ | exact Kd.Q_nil _ _ _ _ _ | exact Kd.S_nil _ _ _ _ _⟩, ⟨by (with_reducible repeat (first | refine blk_drewN ?_ _ | refine blk_drew ?_ | refine blk_alloc ?_ _)); exact BK246.out⟩, ⟨by repeat (first | (with_reducible first | exact HB.out | apply below_alloc | apply pw_below_drewN | apply below_drew1 | refine below_set ?_ GE246.out) | exact HB.out)⟩⟩
 case round =>
  clear H'
  try clear c1
  try clear p2
  obtain ⟨x3_1, x4_1, rfl, HA, HK1, HO_3, BK246, HB⟩ := hrel
  cases gk with
  | zero => exact absurd HA.out (by simp [shutterref22_Write.l0])
  | succ k1 =>
   have H := HA.out
   clear HA
   simp only [shutterref22_Write.l0] at H
   by_cases c3 : x4_1 ≥ 0
   ·rw [if_pos c3] at H
    have c3b0 : decide (0 ≤ x4_1) = true := decide_eq_true c3
    clear c3
    obtain ⟨ji4, hji4⟩ : ∃ j_ : Int, (IntKind.u64.wrap (wrap64 (8 * x4_1))) = j_ := ⟨_, rfl⟩
    replace H : (if 0 ≤ (ji4) then (if x3_1.length < 140737488355328 then (shutterref22_Write.l0 k1 (x3_1 ++ [(Go.bits .and .i64 (shr .i64 a0_0 (ji4)) 255) % 256]) (wrap64 (x4_1 - 1)) a0_0 a0_1 a0_2 l0_3) else (none)) else (none)) = some r := by first | (rw [hji4] at H; exact H) | (simp only [hji4] at H ⊢; exact H)
    by_cases c5 : 0 ≤ (ji4)
    ·rw [if_pos c5] at H
     have c5b0 := eq_true c5
     have c5b1 : decide (0 ≤ (ji4)) = true := decide_eq_true c5
     clear c5
     obtain ⟨ji6, hji6⟩ : ∃ j_ : Int, (shr .i64 a0_0 (ji4)) = j_ := ⟨_, rfl⟩
     replace H : (if x3_1.length < 140737488355328 then (shutterref22_Write.l0 k1 (x3_1 ++ [(Go.bits .and .i64 (ji6) 255) % 256]) (wrap64 (x4_1 - 1)) a0_0 a0_1 a0_2 l0_3) else (none)) = some r := by first | (rw [hji6] at H; exact H) | (simp only [hji6] at H ⊢; exact H)
     have hji6_ : (a0_0 / 2 ^ min (ji4).toNat 64) = ji6 := hji6
     have hji6z : (ji4) ≤ 64 → (a0_0 / 2 ^ (ji4).toNat) = ji6 := shr_small hji6
     by_cases c7 : x3_1.length < 140737488355328
     ·rw [if_pos c7] at H
      have LMc7 := Aside0.mk c7
      clear c7
      obtain ⟨y247, hy247⟩ : ∃ y_ : List Int, y_ = (x3_1 ++ [(Go.bits .and .i64 (ji6) 255) % 256]) := ⟨_, rfl⟩
      replace H : (shutterref22_Write.l0 k1 y247 (wrap64 (x4_1 - 1)) a0_0 a0_1 a0_2 l0_3) = some r := by first | (rw [hy247]; with_reducible exact H) | (have H2_ := (Option.bind_some _ _).symm.trans H; rw [hy247]; with_reducible exact H2_) | (have H2_ := (Option.bind_some _ _).symm.trans H; with_reducible exact H2_) | with_reducible exact H | (rw [hy247]; exact H) | exact H
      have Ny247 := Aside0.mk hy247
      clear hy247
      have H' := Aside0.mk H
      clear H
      have hcz8_0 : wr.cell? ⟨gb246, 0, none⟩ = some (.int .i64 a0_0) := (blk_cell BK246.out 0).trans rfl
      have hcz8_1 : wr.cell? ⟨gb246, 1, none⟩ = some (.int .i64 a0_1) := (blk_cell BK246.out 1).trans rfl
      have hcz8_2 : wr.cell? ⟨gb246, 2, none⟩ = some (.bool a0_2) := (blk_cell BK246.out 2).trans rfl
      have hcz8_3 : wr.cell? ⟨gb246, 3, none⟩ = some (.slice A0_3 l0_3.length c0_3) := (blk_cell BK246.out 3).trans rfl
      have hfz8_0 := blk_frozen BK246.out 0
      have hfz8_1 := blk_frozen BK246.out 1
      have hfz8_2 := blk_frozen BK246.out 2
      have hfz8_3 := blk_frozen BK246.out 3
      go_wp2_with (first | ((with_reducible refine gate_builtin (b := .append) (xs := #[.tmp 10, .tmp 19]) rfl ?_); at_builtin; refine Kd.R_append (Kd.int .u8) (w0 := w) w.heap.size rfl (.tmp 10) (.tmp 19) 22 5 (.int .u8 0) 1 rfl Tryd.underlying22 info5 rfl (by decide) (by omega) u3 x3_1 ((Go.bits .and .i64 (ji6) 255) % 256) [.int .u8 ((Go.bits .and .i64 (ji6) 255) % 256)] (fun _ => True) (fun _ => False) rfl rfl ?aP (fun _ hk => hk.elim) ?aF ?aO ?aB ?aS ?aL ?_; (case aP => exact rfl); (case aB => exact (by repeat (first | (with_reducible first | exact HB.out | apply below_alloc | apply pw_below_drewN | apply below_drew1 | refine below_set ?_ GE246.out) | exact HB.out))); (case aF => exact (fun _ _ => trivial)); (case aO => exact (by (with_reducible repeat (first | apply Kd.R_alloc | apply Kd.R_drewN | apply Kd.R_drew)); exact HO_3.out)); (case aS => exact (below_size (by repeat (first | (with_reducible first | exact HB.out | apply below_alloc | apply pw_below_drewN | apply below_drew1 | refine below_set ?_ GE246.out) | exact HB.out)))); (case aL => have := LMc7.out; omega); intro v248 w9 ho hb hg hat; rw [← Ny247.out] at ho; have n0_ := Aside0.mk (blk_grown (g := gb246) (o := .cells #[.int .i64 a0_0, .int .i64 a0_1, .bool a0_2, .slice A0_3 l0_3.length c0_3] 34 (0, 0)) (by (with_reducible repeat (first | refine blk_drewN ?_ _ | refine blk_drew ?_ | refine blk_alloc ?_ _)); exact BK246.out) hg (Kd.R_ne HO_3.out BK246.out (by decide))); have n1_ := Aside0.mk (hb); have n2_ := Aside0.mk (ho); clear BK246; clear HB; clear HO_3; have BK246 := n0_; have HB := n1_; have HO249 := n2_; clear n0_ n1_ n2_; clear ho hb hg hat))
      (try simp only [add_plain])
      go_roundg k1
      case measure => have := HK1.out; omega
      case rel => exact ⟨(y247), (wrap64 (x4_1 - 1)), (by first | rfl | (simp; done) | (simp [*]; done)), H', ⟨by have := HK1.out; omega⟩, ⟨by (with_reducible repeat (first | apply Kd.R_alloc | apply Kd.R_drewN | apply Kd.R_drew)); exact HO249.out⟩, ⟨by (with_reducible repeat (first | refine blk_drewN ?_ _ | refine blk_drew ?_ | refine blk_alloc ?_ _)); exact BK246.out⟩, ⟨by repeat (first | (with_reducible first | exact HB.out | apply below_alloc | apply pw_below_drewN | apply below_drew1 | refine below_set ?_ GE246.out) | exact HB.out)⟩⟩
     ·rw [if_neg c7] at H
      exact absurd H (by simp)
    ·rw [if_neg c5] at H
     exact absurd H (by simp)
   ·rw [if_neg c3] at H
    have c3b0 : decide (0 ≤ x4_1) = false := decide_eq_false c3
    clear c3
    have H' := Aside0.mk H
    clear H
    go_wp2
    (try simp only [add_plain])
    go_loopg [3, 5] k1 (fun kq v3 v5 w' => ∃ (x3_2 : List Int) (x5_2 : Int), v5 = .int .i64 x5_2 ∧ Aside0 (shutterref22_Write.l1 kq x3_2 x5_2 a0_0 a0_1 a0_2 l0_3 = some r) ∧ Aside0 (kq ≤ k1) ∧ Aside0 (Kd.R (Kd.int .u8) 5 w' w.heap.size (fun _ => True) v3 x3_2) ∧ Aside0 (w'.heap[gb246]? = some (.cells #[.int .i64 a0_0, .int .i64 a0_1, .bool a0_2, (.slice A0_3 l0_3.length c0_3)] 34 (0, 0))) ∧ Aside0 (Below w.heap.size w w'))
    case atStart => exact ⟨(x3_1), (3), (by first | rfl | (simp; done) | (simp [*]; done)), H', ⟨Nat.le_refl _⟩, ⟨by (with_reducible repeat (first | apply Kd.R_alloc | apply Kd.R_drewN | apply Kd.R_drew)); exact HO_3.out⟩, ⟨by (with_reducible repeat (first | refine blk_drewN ?_ _ | refine blk_drew ?_ | refine blk_alloc ?_ _)); exact BK246.out⟩, ⟨by repeat (first | (with_reducible first | exact HB.out | apply below_alloc | apply pw_below_drewN | apply below_drew1 | refine below_set ?_ GE246.out) | exact HB.out)⟩⟩
    case round =>
     clear H'
     try clear c1
     try clear p2
     try clear c3
     try clear c3b0
     try clear c5
     try clear c5b0
     try clear c5b1
     try clear p6
     try clear c7
     try clear hcz8_0
     try clear hcz8_1
     try clear hcz8_2
     try clear hcz8_3
     try clear hfz8_0
     try clear hfz8_1
     try clear hfz8_2
     try clear hfz8_3
     try clear p2
     obtain ⟨x3_2, x5_2, rfl, HA, HK2, HO_3, BK246, HB⟩ := hrel
     cases gk with
     | zero => exact absurd HA.out (by simp [shutterref22_Write.l1])
     | succ k2 =>
      have H := HA.out
      clear HA
      simp only [shutterref22_Write.l1] at H
      by_cases c10 : x5_2 ≥ 0
      ·rw [if_pos c10] at H
       have c10b0 : decide (0 ≤ x5_2) = true := decide_eq_true c10
       clear c10
       obtain ⟨ji11, hji11⟩ : ∃ j_ : Int, (IntKind.u64.wrap (wrap64 (8 * x5_2))) = j_ := ⟨_, rfl⟩
       replace H : (if 0 ≤ (ji11) then (if x3_2.length < 140737488355328 then (shutterref22_Write.l1 k2 (x3_2 ++ [(Go.bits .and .i64 (shr .i64 a0_1 (ji11)) 255) % 256]) (wrap64 (x5_2 - 1)) a0_0 a0_1 a0_2 l0_3) else (none)) else (none)) = some r := by first | (rw [hji11] at H; exact H) | (simp only [hji11] at H ⊢; exact H)
       by_cases c12 : 0 ≤ (ji11)
       ·rw [if_pos c12] at H
        have c12b0 := eq_true c12
        have c12b1 : decide (0 ≤ (ji11)) = true := decide_eq_true c12
        clear c12
        obtain ⟨ji13, hji13⟩ : ∃ j_ : Int, (shr .i64 a0_1 (ji11)) = j_ := ⟨_, rfl⟩
        replace H : (if x3_2.length < 140737488355328 then (shutterref22_Write.l1 k2 (x3_2 ++ [(Go.bits .and .i64 (ji13) 255) % 256]) (wrap64 (x5_2 - 1)) a0_0 a0_1 a0_2 l0_3) else (none)) = some r := by first | (rw [hji13] at H; exact H) | (simp only [hji13] at H ⊢; exact H)
        have hji13_ : (a0_1 / 2 ^ min (ji11).toNat 64) = ji13 := hji13
        have hji13z : (ji11) ≤ 64 → (a0_1 / 2 ^ (ji11).toNat) = ji13 := shr_small hji13
        by_cases c14 : x3_2.length < 140737488355328
        ·rw [if_pos c14] at H
         have LMc14 := Aside0.mk c14
         clear c14
         obtain ⟨y250, hy250⟩ : ∃ y_ : List Int, y_ = (x3_2 ++ [(Go.bits .and .i64 (ji13) 255) % 256]) := ⟨_, rfl⟩
         replace H : (shutterref22_Write.l1 k2 y250 (wrap64 (x5_2 - 1)) a0_0 a0_1 a0_2 l0_3) = some r := by first | (rw [hy250]; with_reducible exact H) | (have H2_ := (Option.bind_some _ _).symm.trans H; rw [hy250]; with_reducible exact H2_) | (have H2_ := (Option.bind_some _ _).symm.trans H; with_reducible exact H2_) | with_reducible exact H | (rw [hy250]; exact H) | exact H
         have Ny250 := Aside0.mk hy250
         clear hy250
         have H' := Aside0.mk H
         clear H
         have hcz15_0 : wr.cell? ⟨gb246, 0, none⟩ = some (.int .i64 a0_0) := (blk_cell BK246.out 0).trans rfl
         have hcz15_1 : wr.cell? ⟨gb246, 1, none⟩ = some (.int .i64 a0_1) := (blk_cell BK246.out 1).trans rfl
         have hcz15_2 : wr.cell? ⟨gb246, 2, none⟩ = some (.bool a0_2) := (blk_cell BK246.out 2).trans rfl
         have hcz15_3 : wr.cell? ⟨gb246, 3, none⟩ = some (.slice A0_3 l0_3.length c0_3) := (blk_cell BK246.out 3).trans rfl
         have hfz15_0 := blk_frozen BK246.out 0
         have hfz15_1 := blk_frozen BK246.out 1
         have hfz15_2 := blk_frozen BK246.out 2
         have hfz15_3 := blk_frozen BK246.out 3
         go_wp2_with (first | ((with_reducible refine gate_builtin (b := .append) (xs := #[.tmp 25, .tmp 34]) rfl ?_); at_builtin; refine Kd.R_append (Kd.int .u8) (w0 := w) w.heap.size rfl (.tmp 25) (.tmp 34) 22 5 (.int .u8 0) 1 rfl Tryd.underlying22 info5 rfl (by decide) (by omega) u3 x3_2 ((Go.bits .and .i64 (ji13) 255) % 256) [.int .u8 ((Go.bits .and .i64 (ji13) 255) % 256)] (fun _ => True) (fun _ => False) rfl rfl ?aP (fun _ hk => hk.elim) ?aF ?aO ?aB ?aS ?aL ?_; (case aP => exact rfl); (case aB => exact (by repeat (first | (with_reducible first | exact HB.out | apply below_alloc | apply pw_below_drewN | apply below_drew1 | refine below_set ?_ GE246.out) | exact HB.out))); (case aF => exact (fun _ _ => trivial)); (case aO => exact (by (with_reducible repeat (first | apply Kd.R_alloc | apply Kd.R_drewN | apply Kd.R_drew)); exact HO_3.out)); (case aS => exact (below_size (by repeat (first | (with_reducible first | exact HB.out | apply below_alloc | apply pw_below_drewN | apply below_drew1 | refine below_set ?_ GE246.out) | exact HB.out)))); (case aL => have := LMc14.out; omega); intro v251 w16 ho hb hg hat; rw [← Ny250.out] at ho; have n0_ := Aside0.mk (blk_grown (g := gb246) (o := .cells #[.int .i64 a0_0, .int .i64 a0_1, .bool a0_2, .slice A0_3 l0_3.length c0_3] 34 (0, 0)) (by (with_reducible repeat (first | refine blk_drewN ?_ _ | refine blk_drew ?_ | refine blk_alloc ?_ _)); exact BK246.out) hg (Kd.R_ne HO_3.out BK246.out (by decide))); have n1_ := Aside0.mk (hb); have n2_ := Aside0.mk (ho); clear BK246; clear HB; clear HO_3; have BK246 := n0_; have HB := n1_; have HO252 := n2_; clear n0_ n1_ n2_; clear ho hb hg hat))
         (try simp only [add_plain])
         go_roundg k2
         case measure => have := HK1.out; have := HK2.out; omega
         case rel => exact ⟨(y250), (wrap64 (x5_2 - 1)), (by first | rfl | (simp; done) | (simp [*]; done)), H', ⟨by have := HK1.out; have := HK2.out; omega⟩, ⟨by (with_reducible repeat (first | apply Kd.R_alloc | apply Kd.R_drewN | apply Kd.R_drew)); exact HO252.out⟩, ⟨by (with_reducible repeat (first | refine blk_drewN ?_ _ | refine blk_drew ?_ | refine blk_alloc ?_ _)); exact BK246.out⟩, ⟨by repeat (first | (with_reducible first | exact HB.out | apply below_alloc | apply pw_below_drewN | apply below_drew1 | refine below_set ?_ GE246.out) | exact HB.out)⟩⟩
        ·rw [if_neg c14] at H
         exact absurd H (by simp)
       ·rw [if_neg c12] at H
        exact absurd H (by simp)
      ·rw [if_neg c10] at H
       have c10b0 : decide (0 ≤ x5_2) = false := decide_eq_false c10
       clear c10
       by_cases c17 : a0_2 = true
       ·subst c17
        have H1 : (if x3_2.length < 140737488355328 then ((some (x3_2 ++ [1] : List Int)).bind fun y253 => (if y253.length + l0_3.length < 140737488355328 then (some (y253 ++ l0_3)) else (none))) else (none)) = some r := by rw [if_pos rfl] at H; exact H
        clear H
        have H := H1
        clear H1
        by_cases c18 : x3_2.length < 140737488355328
        ·rw [if_pos c18] at H
         have LMc18 := Aside0.mk c18
         clear c18
         obtain ⟨y253, hy253⟩ : ∃ y_ : List Int, y_ = (x3_2 ++ [1]) := ⟨_, rfl⟩
         replace H : (if y253.length + l0_3.length < 140737488355328 then (some (y253 ++ l0_3)) else (none)) = some r := by first | (rw [hy253]; with_reducible exact H) | (have H2_ := (Option.bind_some _ _).symm.trans H; rw [hy253]; with_reducible exact H2_) | (have H2_ := (Option.bind_some _ _).symm.trans H; with_reducible exact H2_) | with_reducible exact H | (rw [hy253]; exact H) | exact H
         have Ny253 := Aside0.mk hy253
         clear hy253
         by_cases c19 : y253.length + l0_3.length < 140737488355328
         ·rw [if_pos c19] at H
          have LMc19 := Aside0.mk c19
          clear c19
          obtain ⟨y256, hy256⟩ : ∃ y_ : List Int, y_ = (y253 ++ l0_3) := ⟨_, rfl⟩
          replace H : (some y256) = some r := by first | (rw [hy256]; with_reducible exact H) | (have H2_ := (Option.bind_some _ _).symm.trans H; rw [hy256]; with_reducible exact H2_) | (have H2_ := (Option.bind_some _ _).symm.trans H; with_reducible exact H2_) | with_reducible exact H | (rw [hy256]; exact H) | exact H
          have Ny256 := Aside0.mk hy256
          clear hy256
          obtain rfl := Option.some.inj H
          have hcz20_0 : wr.cell? ⟨gb246, 0, none⟩ = some (.int .i64 a0_0) := (blk_cell BK246.out 0).trans rfl
          have hcz20_1 : wr.cell? ⟨gb246, 1, none⟩ = some (.int .i64 a0_1) := (blk_cell BK246.out 1).trans rfl
          have hcz20_2 : wr.cell? ⟨gb246, 2, none⟩ = some (.bool true) := (blk_cell BK246.out 2).trans rfl
          have hcz20_3 : wr.cell? ⟨gb246, 3, none⟩ = some (.slice A0_3 l0_3.length c0_3) := (blk_cell BK246.out 3).trans rfl
          have hfz20_0 := blk_frozen BK246.out 0
          have hfz20_1 := blk_frozen BK246.out 1
          have hfz20_2 := blk_frozen BK246.out 2
          have hfz20_3 := blk_frozen BK246.out 3
          go_wp2_with (first | ((with_reducible refine gate_builtin (b := .append) (xs := #[.tmp 38, .tmp 39]) rfl ?_); at_builtin; refine Kd.R_append (Kd.int .u8) (w0 := w) w.heap.size rfl (.tmp 38) (.tmp 39) 22 5 (.int .u8 0) 1 rfl Tryd.underlying22 info5 rfl (by decide) (by omega) u3 x3_2 1 [.int .u8 1] (fun _ => True) (fun _ => False) rfl rfl ?aP (fun _ hk => hk.elim) ?aF ?aO ?aB ?aS ?aL ?_; (case aP => exact rfl); (case aB => exact (by repeat (first | (with_reducible first | exact HB.out | apply below_alloc | apply pw_below_drewN | apply below_drew1 | refine below_set ?_ GE246.out) | exact HB.out))); (case aF => exact (fun _ _ => trivial)); (case aO => exact (by (with_reducible repeat (first | apply Kd.R_alloc | apply Kd.R_drewN | apply Kd.R_drew)); exact HO_3.out)); (case aS => exact (below_size (by repeat (first | (with_reducible first | exact HB.out | apply below_alloc | apply pw_below_drewN | apply below_drew1 | refine below_set ?_ GE246.out) | exact HB.out)))); (case aL => have := LMc18.out; omega); intro v254 w21 ho hb hg hat; rw [← Ny253.out] at ho; have n0_ := Aside0.mk (blk_grown (g := gb246) (o := .cells #[.int .i64 a0_0, .int .i64 a0_1, .bool true, .slice A0_3 l0_3.length c0_3] 34 (0, 0)) (by (with_reducible repeat (first | refine blk_drewN ?_ _ | refine blk_drew ?_ | refine blk_alloc ?_ _)); exact BK246.out) hg (Kd.R_ne HO_3.out BK246.out (by decide))); have n1_ := Aside0.mk (hb); have n2_ := Aside0.mk (ho); clear BK246; clear HB; clear HO_3; have BK246 := n0_; have HB := n1_; have HO255 := n2_; clear n0_ n1_ n2_; clear ho hb hg hat; have hcz22_0 : w21.cell? ⟨gb246, 0, none⟩ = some (.int .i64 a0_0) := (blk_cell BK246.out 0).trans rfl; have hcz22_1 : w21.cell? ⟨gb246, 1, none⟩ = some (.int .i64 a0_1) := (blk_cell BK246.out 1).trans rfl; have hcz22_2 : w21.cell? ⟨gb246, 2, none⟩ = some (.bool true) := (blk_cell BK246.out 2).trans rfl; have hcz22_3 : w21.cell? ⟨gb246, 3, none⟩ = some (.slice A0_3 l0_3.length c0_3) := (blk_cell BK246.out 3).trans rfl; have hfz22_0 := blk_frozen BK246.out 0; have hfz22_1 := blk_frozen BK246.out 1; have hfz22_2 := blk_frozen BK246.out 2; have hfz22_3 := blk_frozen BK246.out 3) | ((with_reducible refine gate_builtin (b := .append) (xs := #[.tmp 44, .tmp 46]) rfl ?_); at_builtin; refine Kd.R_append_rows (Kd.int .u8) (w0 := w) w.heap.size rfl (.tmp 44) (.tmp 46) 22 5 (.int .u8 0) 1 rfl Tryd.underlying22 info5 rfl (by decide) (by omega) v254 y253 l0_3 _ _ _ (fun _ => True) (fun _ => False) rfl rfl ?aO ?aR (fun _ _ h => h) (fun _ h => h.elim) ?aF ?aB ?aS ?aL ?_; (case aR => repeat (first | exact (Kd.C_below HR0_3.out HB.out) | (with_reducible refine Kd.C_alloc ?_ _) | (with_reducible refine Kd.C_drewN ?_ _) | (with_reducible refine Kd.C_drew ?_))); (case aB => exact (by repeat (first | (with_reducible first | exact HB.out | apply below_alloc | apply pw_below_drewN | apply below_drew1 | refine below_set ?_ GE246.out) | exact HB.out))); (case aF => exact (fun _ _ => trivial)); (case aO => exact (by (with_reducible repeat (first | apply Kd.R_alloc | apply Kd.R_drewN | apply Kd.R_drew)); exact HO255.out)); (case aS => exact (below_size (by repeat (first | (with_reducible first | exact HB.out | apply below_alloc | apply pw_below_drewN | apply below_drew1 | refine below_set ?_ GE246.out) | exact HB.out)))); (case aL => have := LMc19.out; omega); intro v257 w23 ho hb hg hat; rw [← Ny256.out] at ho; have n0_ := Aside0.mk (blk_grown (g := gb246) (o := .cells #[.int .i64 a0_0, .int .i64 a0_1, .bool true, .slice A0_3 l0_3.length c0_3] 34 (0, 0)) (by (with_reducible repeat (first | refine blk_drewN ?_ _ | refine blk_drew ?_ | refine blk_alloc ?_ _)); exact BK246.out) hg (Kd.R_ne HO255.out BK246.out (by decide))); have n1_ := Aside0.mk (hb); have n2_ := Aside0.mk (ho); clear BK246; clear HB; clear HO255; have BK246 := n0_; have HB := n1_; have HO258 := n2_; clear n0_ n1_ n2_; clear ho hb hg hat))
          go_ret
          exact ⟨_, by first | rfl | (simp [errW_none, errW_some] <;> rfl) | (simp [*, errW_none, errW_some] <;> rfl), by (with_reducible repeat (first | apply Kd.R_alloc | apply Kd.R_drewN | apply Kd.R_drew)); exact HO258.out, by repeat (first | (with_reducible first | exact HB.out | apply below_alloc | apply pw_below_drewN | apply below_drew1 | refine below_set ?_ GE246.out) | exact HB.out)⟩
         ·rw [if_neg c19] at H
          exact absurd H (by simp)
        ·rw [if_neg c18] at H
         exact absurd H (by simp)
       ·replace c17 := Bool.eq_false_iff.mpr c17
        subst c17
        have H1 : (if x3_2.length < 140737488355328 then ((some (x3_2 ++ [0] : List Int)).bind fun y259 => (if y259.length + l0_3.length < 140737488355328 then (some (y259 ++ l0_3)) else (none))) else (none)) = some r := by rw [if_neg (show ¬ (false = true) by decide)] at H; exact H
        clear H
        have H := H1
        clear H1
        by_cases c24 : x3_2.length < 140737488355328
        ·rw [if_pos c24] at H
         have LMc24 := Aside0.mk c24
         clear c24
         obtain ⟨y259, hy259⟩ : ∃ y_ : List Int, y_ = (x3_2 ++ [0]) := ⟨_, rfl⟩
         replace H : (if y259.length + l0_3.length < 140737488355328 then (some (y259 ++ l0_3)) else (none)) = some r := by first | (rw [hy259]; with_reducible exact H) | (have H2_ := (Option.bind_some _ _).symm.trans H; rw [hy259]; with_reducible exact H2_) | (have H2_ := (Option.bind_some _ _).symm.trans H; with_reducible exact H2_) | with_reducible exact H | (rw [hy259]; exact H) | exact H
         have Ny259 := Aside0.mk hy259
         clear hy259
         by_cases c25 : y259.length + l0_3.length < 140737488355328
         ·rw [if_pos c25] at H
          have LMc25 := Aside0.mk c25
          clear c25
          obtain ⟨y262, hy262⟩ : ∃ y_ : List Int, y_ = (y259 ++ l0_3) := ⟨_, rfl⟩
          replace H : (some y262) = some r := by first | (rw [hy262]; with_reducible exact H) | (have H2_ := (Option.bind_some _ _).symm.trans H; rw [hy262]; with_reducible exact H2_) | (have H2_ := (Option.bind_some _ _).symm.trans H; with_reducible exact H2_) | with_reducible exact H | (rw [hy262]; exact H) | exact H
          have Ny262 := Aside0.mk hy262
          clear hy262
          obtain rfl := Option.some.inj H
          have hcz26_0 : wr.cell? ⟨gb246, 0, none⟩ = some (.int .i64 a0_0) := (blk_cell BK246.out 0).trans rfl
          have hcz26_1 : wr.cell? ⟨gb246, 1, none⟩ = some (.int .i64 a0_1) := (blk_cell BK246.out 1).trans rfl
          have hcz26_2 : wr.cell? ⟨gb246, 2, none⟩ = some (.bool false) := (blk_cell BK246.out 2).trans rfl
          have hcz26_3 : wr.cell? ⟨gb246, 3, none⟩ = some (.slice A0_3 l0_3.length c0_3) := (blk_cell BK246.out 3).trans rfl
          have hfz26_0 := blk_frozen BK246.out 0
          have hfz26_1 := blk_frozen BK246.out 1
          have hfz26_2 := blk_frozen BK246.out 2
          have hfz26_3 := blk_frozen BK246.out 3
          go_wp2_with (first | ((with_reducible refine gate_builtin (b := .append) (xs := #[.tmp 41, .tmp 42]) rfl ?_); at_builtin; refine Kd.R_append (Kd.int .u8) (w0 := w) w.heap.size rfl (.tmp 41) (.tmp 42) 22 5 (.int .u8 0) 1 rfl Tryd.underlying22 info5 rfl (by decide) (by omega) u3 x3_2 0 [.int .u8 0] (fun _ => True) (fun _ => False) rfl rfl ?aP (fun _ hk => hk.elim) ?aF ?aO ?aB ?aS ?aL ?_; (case aP => exact rfl); (case aB => exact (by repeat (first | (with_reducible first | exact HB.out | apply below_alloc | apply pw_below_drewN | apply below_drew1 | refine below_set ?_ GE246.out) | exact HB.out))); (case aF => exact (fun _ _ => trivial)); (case aO => exact (by (with_reducible repeat (first | apply Kd.R_alloc | apply Kd.R_drewN | apply Kd.R_drew)); exact HO_3.out)); (case aS => exact (below_size (by repeat (first | (with_reducible first | exact HB.out | apply below_alloc | apply pw_below_drewN | apply below_drew1 | refine below_set ?_ GE246.out) | exact HB.out)))); (case aL => have := LMc24.out; omega); intro v260 w27 ho hb hg hat; rw [← Ny259.out] at ho; have n0_ := Aside0.mk (blk_grown (g := gb246) (o := .cells #[.int .i64 a0_0, .int .i64 a0_1, .bool false, .slice A0_3 l0_3.length c0_3] 34 (0, 0)) (by (with_reducible repeat (first | refine blk_drewN ?_ _ | refine blk_drew ?_ | refine blk_alloc ?_ _)); exact BK246.out) hg (Kd.R_ne HO_3.out BK246.out (by decide))); have n1_ := Aside0.mk (hb); have n2_ := Aside0.mk (ho); clear BK246; clear HB; clear HO_3; have BK246 := n0_; have HB := n1_; have HO261 := n2_; clear n0_ n1_ n2_; clear ho hb hg hat; have hcz28_0 : w27.cell? ⟨gb246, 0, none⟩ = some (.int .i64 a0_0) := (blk_cell BK246.out 0).trans rfl; have hcz28_1 : w27.cell? ⟨gb246, 1, none⟩ = some (.int .i64 a0_1) := (blk_cell BK246.out 1).trans rfl; have hcz28_2 : w27.cell? ⟨gb246, 2, none⟩ = some (.bool false) := (blk_cell BK246.out 2).trans rfl; have hcz28_3 : w27.cell? ⟨gb246, 3, none⟩ = some (.slice A0_3 l0_3.length c0_3) := (blk_cell BK246.out 3).trans rfl; have hfz28_0 := blk_frozen BK246.out 0; have hfz28_1 := blk_frozen BK246.out 1; have hfz28_2 := blk_frozen BK246.out 2; have hfz28_3 := blk_frozen BK246.out 3) | ((with_reducible refine gate_builtin (b := .append) (xs := #[.tmp 44, .tmp 46]) rfl ?_); at_builtin; refine Kd.R_append_rows (Kd.int .u8) (w0 := w) w.heap.size rfl (.tmp 44) (.tmp 46) 22 5 (.int .u8 0) 1 rfl Tryd.underlying22 info5 rfl (by decide) (by omega) v260 y259 l0_3 _ _ _ (fun _ => True) (fun _ => False) rfl rfl ?aO ?aR (fun _ _ h => h) (fun _ h => h.elim) ?aF ?aB ?aS ?aL ?_; (case aR => repeat (first | exact (Kd.C_below HR0_3.out HB.out) | (with_reducible refine Kd.C_alloc ?_ _) | (with_reducible refine Kd.C_drewN ?_ _) | (with_reducible refine Kd.C_drew ?_))); (case aB => exact (by repeat (first | (with_reducible first | exact HB.out | apply below_alloc | apply pw_below_drewN | apply below_drew1 | refine below_set ?_ GE246.out) | exact HB.out))); (case aF => exact (fun _ _ => trivial)); (case aO => exact (by (with_reducible repeat (first | apply Kd.R_alloc | apply Kd.R_drewN | apply Kd.R_drew)); exact HO261.out)); (case aS => exact (below_size (by repeat (first | (with_reducible first | exact HB.out | apply below_alloc | apply pw_below_drewN | apply below_drew1 | refine below_set ?_ GE246.out) | exact HB.out)))); (case aL => have := LMc25.out; omega); intro v263 w29 ho hb hg hat; rw [← Ny262.out] at ho; have n0_ := Aside0.mk (blk_grown (g := gb246) (o := .cells #[.int .i64 a0_0, .int .i64 a0_1, .bool false, .slice A0_3 l0_3.length c0_3] 34 (0, 0)) (by (with_reducible repeat (first | refine blk_drewN ?_ _ | refine blk_drew ?_ | refine blk_alloc ?_ _)); exact BK246.out) hg (Kd.R_ne HO261.out BK246.out (by decide))); have n1_ := Aside0.mk (hb); have n2_ := Aside0.mk (ho); clear BK246; clear HB; clear HO261; have BK246 := n0_; have HB := n1_; have HO264 := n2_; clear n0_ n1_ n2_; clear ho hb hg hat))
          go_ret
          exact ⟨_, by first | rfl | (simp [errW_none, errW_some] <;> rfl) | (simp [*, errW_none, errW_some] <;> rfl), by (with_reducible repeat (first | apply Kd.R_alloc | apply Kd.R_drewN | apply Kd.R_drew)); exact HO264.out, by repeat (first | (with_reducible first | exact HB.out | apply below_alloc | apply pw_below_drewN | apply below_drew1 | refine below_set ?_ GE246.out) | exact HB.out)⟩
         ·rw [if_neg c25] at H
          exact absurd H (by simp)
        ·rw [if_neg c24] at H
         exact absurd H (by simp)

end Go.Proofs.YtfmlndkibnjbmaaDoor.YPiece

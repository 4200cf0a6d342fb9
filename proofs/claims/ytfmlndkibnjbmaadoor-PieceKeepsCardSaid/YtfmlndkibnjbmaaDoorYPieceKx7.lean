-- Own text, made by this session out of the translation by wip/tools/xprint.sh: Lean functions with the answers of Go functions, and their walks.
import Derived.Test.YtfmlndkibnjbmaaDoorYPieceKx0
import Derived.Test.YtfmlndkibnjbmaaDoorYPieceKx1
import Derived.Test.YtfmlndkibnjbmaaDoorYPieceKx5
import Derived.Test.YtfmlndkibnjbmaaDoorYPieceKx6
namespace Go.Proofs.YtfmlndkibnjbmaaDoor.YPieceK
open Go.RowKit Go.Proofs.YtfmlndkibnjbmaaDoorW.PrintWords Go.Proofs.YtfmlndkibnjbmaaDoorW.PrintLast Go.Proofs.YtfmlndkibnjbmaaDoorW.PrintMore
attribute [local go_sem] max2_int min2_int max_two min_two max_three min_three max_four min_four   -- for this text's walks alone
set_option linter.unusedVariables false
set_option linter.unusedSimpArgs false

/-! ### shutterlaw22_PieceKeeps: function 7 -/
mutual
def shutterlaw22_PieceKeeps.j0 : Nat → List Int → Bool → Option (Bool)
 | 0, _, _ => none
 | k + 1, x0, x22 => if x22 = true then ((shutterlaw22_awake.f k).bind fun t233 => (some t233)) else ((some (([] : List Int) : List Int)).bind fun y234 => (if y234.length + x0.length < 140737488355328 then ((some (y234 ++ x0 : List Int)).bind fun y237 => ((piece_Cut.f y237).bind fun bt240 => (shutterlaw22_PieceKeeps.l0 k x0 y237 bt240.1 bt240.2 0))) else (none)))
def shutterlaw22_PieceKeeps.l0 : Nat → List Int → List Int → List (S34) → Option Int → Int → Option (Bool)
 | 0, _, _, _, _, _ => none
 | k + 1, x0, x3, x4, x5, x6 => if x6 < (x3.length : Int) then (if 0 ≤ x6 then (shutterlaw22_PieceKeeps.l0 k x0 (x3.set (x6 : Int).toNat (Go.bits .xor .u8 (rd x3 x6) 255)) x4 x5 (wrap64 (x6 + 1))) else (none)) else ((piece_Cut.f x0).bind fun bt246 => (if x5.isNone = true then (if bt246.2.isNone = true then ((shutterref22_SameAll.f k x4 bt246.1).bind fun t252 => (shutterlaw22_PieceKeeps.j2 k x0 x4 bt246.1 (!t252))) else (shutterlaw22_PieceKeeps.j2 k x0 x4 bt246.1 true)) else (shutterlaw22_PieceKeeps.j2 k x0 x4 bt246.1 true)))
def shutterlaw22_PieceKeeps.j2 : Nat → List Int → List (S34) → List (S34) → Bool → Option (Bool)
 | 0, _, _, _, _ => none
 | k + 1, x0, x4, x7, x62 => if x62 = true then (none) else (shutterlaw22_PieceKeeps.l1 k x0 x4 x7 0)
def shutterlaw22_PieceKeeps.l1 : Nat → List Int → List (S34) → List (S34) → Int → Option (Bool)
 | 0, _, _, _, _ => none
 | k + 1, x0, x4, x7, x9 => if x9 < (x7.length : Int) then (shutterlaw22_PieceKeeps.l2 k x0 x4 x7 x9 0) else ((shutterref22_Cut.f k x0).bind fun t253 => ((shutterref22_SameAll.f k x4 t253).bind fun t256 => (some t256)))
def shutterlaw22_PieceKeeps.l2 : Nat → List Int → List (S34) → List (S34) → Int → Int → Option (Bool)
 | 0, _, _, _, _, _ => none
 | k + 1, x0, x4, x7, x9, x10 => if 0 ≤ x9 then (if x9 < (x7.length : Int) then (if x10 < (((rd_T34 x7 x9).f3).length : Int) then (if 0 ≤ x10 then (shutterlaw22_PieceKeeps.l2 k x0 x4 (x7.set (x9 : Int).toNat (⟨(rd_T34 x7 x9).f0, (rd_T34 x7 x9).f1, (rd_T34 x7 x9).f2, (((rd_T34 x7 x9).f3).set (x10 : Int).toNat 7)⟩ : S34)) x9 (wrap64 (x10 + 1))) else (none)) else (shutterlaw22_PieceKeeps.l1 k x0 x4 x7 (wrap64 (x9 + 1)))) else (none)) else (none)
end
def shutterlaw22_PieceKeeps.f (k : Nat) (l0 : List Int) : Option (Bool) := (shutterlaw22_awake.f k).bind fun t232 => (if t232 = true then (if (l0.length : Int) < 1 then (shutterlaw22_PieceKeeps.j0 k l0 true) else (shutterlaw22_PieceKeeps.j0 k l0 (decide ((l0.length : Int) > 300)))) else (shutterlaw22_PieceKeeps.j0 k l0 true))
/-- An elder row of rows, and a younger one: a number that parts their blocks. -/
theorem two_apart {α β : Type} {d : Kd α} {d' : Kd β} {e e' base : Nat} {W w1 : World} {ok ok' : Nat → Prop} {u v : Value} {xs : List α} {ys : List β} (h : Kd.S d e W base ok u xs) (h2 : Kd.S d' e' w1 W.heap.size ok' v ys) (hb : Below W.heap.size W w1) (hs : base ≤ W.heap.size) :
    ∃ b, Kd.S d e w1 base (fun k => ok k ∧ (some k ≠ v.ownBlock ∧ k < b)) u xs ∧ Kd.S d' e' w1 base (fun k => ok' k ∧ (some k ≠ u.ownBlock ∧ b ≤ k)) v ys :=
  ⟨W.heap.size, Kd.S_mono (Kd.S_old h hb) (fun k hk => ⟨hk.1, fun e_ => absurd (Kd.S_base h2 k e_.symm) (Nat.not_le.2 hk.2), hk.2⟩),
   Kd.S_mono (Kd.S_lower (Kd.S_bound h2) hs) (fun k hk => ⟨hk.1, fun e_ => absurd (Kd.S_lt h k e_.symm) (Nat.not_lt.2 hk.2.1), hk.2.1⟩)⟩
theorem shutterlaw22_PieceKeeps.mono_l : ∀ k, (∀ y0 y1, LeO (shutterlaw22_PieceKeeps.j0 k y0 y1) (shutterlaw22_PieceKeeps.j0 (k + 1) y0 y1)) ∧ (∀ y0 y1 y2 y3 y4, LeO (shutterlaw22_PieceKeeps.l0 k y0 y1 y2 y3 y4) (shutterlaw22_PieceKeeps.l0 (k + 1) y0 y1 y2 y3 y4)) ∧ (∀ y0 y1 y2 y3, LeO (shutterlaw22_PieceKeeps.j2 k y0 y1 y2 y3) (shutterlaw22_PieceKeeps.j2 (k + 1) y0 y1 y2 y3)) ∧ (∀ y0 y1 y2 y3, LeO (shutterlaw22_PieceKeeps.l1 k y0 y1 y2 y3) (shutterlaw22_PieceKeeps.l1 (k + 1) y0 y1 y2 y3)) ∧ (∀ y0 y1 y2 y3 y4, LeO (shutterlaw22_PieceKeeps.l2 k y0 y1 y2 y3 y4) (shutterlaw22_PieceKeeps.l2 (k + 1) y0 y1 y2 y3 y4))
 | 0 => ⟨fun _ _ r h => by simp [shutterlaw22_PieceKeeps.j0] at h, fun _ _ _ _ _ r h => by simp [shutterlaw22_PieceKeeps.l0] at h, fun _ _ _ _ r h => by simp [shutterlaw22_PieceKeeps.j2] at h, fun _ _ _ _ r h => by simp [shutterlaw22_PieceKeeps.l1] at h, fun _ _ _ _ _ r h => by simp [shutterlaw22_PieceKeeps.l2] at h⟩
 | k + 1 => by
  obtain ⟨ih0, ih1, ih2, ih3, ih4⟩ := shutterlaw22_PieceKeeps.mono_l k
  refine ⟨?_, ?_, ?_, ?_, ?_⟩
  ·intro y0 y1
   unfold shutterlaw22_PieceKeeps.j0
   repeat' first
   | (with_reducible exact ih0 _ _)
   | (with_reducible exact ih1 _ _ _ _ _)
   | (with_reducible exact ih2 _ _ _ _)
   | (with_reducible exact ih3 _ _ _ _)
   | (with_reducible exact ih4 _ _ _ _ _)
   | (with_reducible exact shutterlaw22_awake.mono _)
   | (with_reducible exact shutterref22_Cut.mono _ _)
   | (with_reducible exact shutterref22_SameAll.mono _ _ _)
   | (with_reducible exact LeO.refl _)
   | (with_reducible exact LeO.none _)
   | (with_reducible refine LeO.ite ?_ ?_)
   | (with_reducible refine LeO.bind ?_ (fun _ => ?_))
   | exact ih0 _ _
   | exact ih1 _ _ _ _ _
   | exact ih2 _ _ _ _
   | exact ih3 _ _ _ _
   | exact ih4 _ _ _ _ _
   | exact shutterlaw22_awake.mono _
   | exact shutterref22_Cut.mono _ _
   | exact shutterref22_SameAll.mono _ _ _
   | exact LeO.none _
   | refine LeO.ite ?_ ?_
   | refine LeO.bind ?_ (fun _ => ?_)
  ·intro y0 y1 y2 y3 y4
   unfold shutterlaw22_PieceKeeps.l0
   repeat' first
   | (with_reducible exact ih0 _ _)
   | (with_reducible exact ih1 _ _ _ _ _)
   | (with_reducible exact ih2 _ _ _ _)
   | (with_reducible exact ih3 _ _ _ _)
   | (with_reducible exact ih4 _ _ _ _ _)
   | (with_reducible exact shutterlaw22_awake.mono _)
   | (with_reducible exact shutterref22_Cut.mono _ _)
   | (with_reducible exact shutterref22_SameAll.mono _ _ _)
   | (with_reducible exact LeO.refl _)
   | (with_reducible exact LeO.none _)
   | (with_reducible refine LeO.ite ?_ ?_)
   | (with_reducible refine LeO.bind ?_ (fun _ => ?_))
   | exact ih0 _ _
   | exact ih1 _ _ _ _ _
   | exact ih2 _ _ _ _
   | exact ih3 _ _ _ _
   | exact ih4 _ _ _ _ _
   | exact shutterlaw22_awake.mono _
   | exact shutterref22_Cut.mono _ _
   | exact shutterref22_SameAll.mono _ _ _
   | exact LeO.none _
   | refine LeO.ite ?_ ?_
   | refine LeO.bind ?_ (fun _ => ?_)
  ·intro y0 y1 y2 y3
   unfold shutterlaw22_PieceKeeps.j2
   repeat' first
   | (with_reducible exact ih0 _ _)
   | (with_reducible exact ih1 _ _ _ _ _)
   | (with_reducible exact ih2 _ _ _ _)
   | (with_reducible exact ih3 _ _ _ _)
   | (with_reducible exact ih4 _ _ _ _ _)
   | (with_reducible exact shutterlaw22_awake.mono _)
   | (with_reducible exact shutterref22_Cut.mono _ _)
   | (with_reducible exact shutterref22_SameAll.mono _ _ _)
   | (with_reducible exact LeO.refl _)
   | (with_reducible exact LeO.none _)
   | (with_reducible refine LeO.ite ?_ ?_)
   | (with_reducible refine LeO.bind ?_ (fun _ => ?_))
   | exact ih0 _ _
   | exact ih1 _ _ _ _ _
   | exact ih2 _ _ _ _
   | exact ih3 _ _ _ _
   | exact ih4 _ _ _ _ _
   | exact shutterlaw22_awake.mono _
   | exact shutterref22_Cut.mono _ _
   | exact shutterref22_SameAll.mono _ _ _
   | exact LeO.none _
   | refine LeO.ite ?_ ?_
   | refine LeO.bind ?_ (fun _ => ?_)
  ·intro y0 y1 y2 y3
   unfold shutterlaw22_PieceKeeps.l1
   repeat' first
   | (with_reducible exact ih0 _ _)
   | (with_reducible exact ih1 _ _ _ _ _)
   | (with_reducible exact ih2 _ _ _ _)
   | (with_reducible exact ih3 _ _ _ _)
   | (with_reducible exact ih4 _ _ _ _ _)
   | (with_reducible exact shutterlaw22_awake.mono _)
   | (with_reducible exact shutterref22_Cut.mono _ _)
   | (with_reducible exact shutterref22_SameAll.mono _ _ _)
   | (with_reducible exact LeO.refl _)
   | (with_reducible exact LeO.none _)
   | (with_reducible refine LeO.ite ?_ ?_)
   | (with_reducible refine LeO.bind ?_ (fun _ => ?_))
   | exact ih0 _ _
   | exact ih1 _ _ _ _ _
   | exact ih2 _ _ _ _
   | exact ih3 _ _ _ _
   | exact ih4 _ _ _ _ _
   | exact shutterlaw22_awake.mono _
   | exact shutterref22_Cut.mono _ _
   | exact shutterref22_SameAll.mono _ _ _
   | exact LeO.none _
   | refine LeO.ite ?_ ?_
   | refine LeO.bind ?_ (fun _ => ?_)
  ·intro y0 y1 y2 y3 y4
   unfold shutterlaw22_PieceKeeps.l2
   repeat' first
   | (with_reducible exact ih0 _ _)
   | (with_reducible exact ih1 _ _ _ _ _)
   | (with_reducible exact ih2 _ _ _ _)
   | (with_reducible exact ih3 _ _ _ _)
   | (with_reducible exact ih4 _ _ _ _ _)
   | (with_reducible exact shutterlaw22_awake.mono _)
   | (with_reducible exact shutterref22_Cut.mono _ _)
   | (with_reducible exact shutterref22_SameAll.mono _ _ _)
   | (with_reducible exact LeO.refl _)
   | (with_reducible exact LeO.none _)
   | (with_reducible refine LeO.ite ?_ ?_)
   | (with_reducible refine LeO.bind ?_ (fun _ => ?_))
   | exact ih0 _ _
   | exact ih1 _ _ _ _ _
   | exact ih2 _ _ _ _
   | exact ih3 _ _ _ _
   | exact ih4 _ _ _ _ _
   | exact shutterlaw22_awake.mono _
   | exact shutterref22_Cut.mono _ _
   | exact shutterref22_SameAll.mono _ _ _
   | exact LeO.none _
   | refine LeO.ite ?_ ?_
   | refine LeO.bind ?_ (fun _ => ?_)
theorem shutterlaw22_PieceKeeps.mono : ∀ a0 k, LeO (shutterlaw22_PieceKeeps.f k a0) (shutterlaw22_PieceKeeps.f (k + 1) a0) := by
 intro a0 k
 obtain ⟨ih0, ih1, ih2, ih3, ih4⟩ := shutterlaw22_PieceKeeps.mono_l k
 unfold shutterlaw22_PieceKeeps.f
 repeat' first
   | (with_reducible exact ih0 _ _)
   | (with_reducible exact ih1 _ _ _ _ _)
   | (with_reducible exact ih2 _ _ _ _)
   | (with_reducible exact ih3 _ _ _ _)
   | (with_reducible exact ih4 _ _ _ _ _)
   | (with_reducible exact shutterlaw22_awake.mono _)
   | (with_reducible exact shutterref22_Cut.mono _ _)
   | (with_reducible exact shutterref22_SameAll.mono _ _ _)
   | (with_reducible exact LeO.refl _)
   | (with_reducible exact LeO.none _)
   | (with_reducible refine LeO.ite ?_ ?_)
   | (with_reducible refine LeO.bind ?_ (fun _ => ?_))
   | exact ih0 _ _
   | exact ih1 _ _ _ _ _
   | exact ih2 _ _ _ _
   | exact ih3 _ _ _ _
   | exact ih4 _ _ _ _ _
   | exact shutterlaw22_awake.mono _
   | exact shutterref22_Cut.mono _ _
   | exact shutterref22_SameAll.mono _ _ _
   | exact LeO.none _
   | refine LeO.ite ?_ ?_
   | refine LeO.bind ?_ (fun _ => ?_)
set_option maxHeartbeats 8000000 in
set_option maxRecDepth 100000 in
theorem shutterlaw22_PieceKeeps.calls (k : Nat) (A0 : Option Addr) (c0 : Nat) (l0 : List Int) (r : Bool) (w : World) (hGl : Aside0 (Code.Gl w)) (hr0 : Kd.C (Kd.int .u8) w A0 l0.length l0) (hc0 : l0.length ≤ c0) (h : shutterlaw22_PieceKeeps.f k l0 = some r) :
  Calls Tryd.prog 7 #[.slice A0 l0.length c0] w fun e w' => e = .returned (.bool r) ∧ Below w.heap.size w w' := by
 have hu26 := Tryd.underlying26
 have hu46 := Tryd.underlying46
 have HR0 := Aside0.mk hr0
 have HC0 := Aside0.mk hc0
 clear hr0 hc0
 have HB := Aside0.mk (Below.refl w.heap.size w)
 have H : ((shutterlaw22_awake.f k).bind fun t232 => (if t232 = true then (if (l0.length : Int) < 1 then (shutterlaw22_PieceKeeps.j0 k l0 true) else (shutterlaw22_PieceKeeps.j0 k l0 (decide ((l0.length : Int) > 300)))) else (shutterlaw22_PieceKeeps.j0 k l0 true))) = some r := h
 clear h
 have HC2 := Aside0.mk H
 clear H
 go_enter Tryd.func7, Tryd.ntmps7
 go_upto_region 1 with (fail)
 go_cut [22] (fun v22 wc => ∃ (kq : Nat) (x22_1 : Bool), v22 = .bool x22_1 ∧ Aside0 (shutterlaw22_PieceKeeps.j0 kq l0 x22_1 = some r) ∧ Aside0 (kq ≤ k) ∧ Aside0 (Below w.heap.size w wc))
 case first =>
  have H := HC2.out
  clear HC2
  replace H := Option.bind_eq_some_iff.mp H
  obtain ⟨t232, A30, H⟩ := H
  replace H : (if t232 = true then (if (l0.length : Int) < 1 then (shutterlaw22_PieceKeeps.j0 k l0 true) else (shutterlaw22_PieceKeeps.j0 k l0 (decide ((l0.length : Int) > 300)))) else (shutterlaw22_PieceKeeps.j0 k l0 true)) = some r := H
  have A3 := Aside0.mk A30
  clear A30
  by_cases c4 : t232 = true
  ·subst c4
   have H1 : (if (l0.length : Int) < 1 then (shutterlaw22_PieceKeeps.j0 k l0 true) else (shutterlaw22_PieceKeeps.j0 k l0 (decide ((l0.length : Int) > 300)))) = some r := by rw [if_pos rfl] at H; exact H
   clear H
   have H := H1
   clear H1
   by_cases c5 : (l0.length : Int) < 1
   ·rw [if_pos c5] at H
    have c5b0 : decide ((l0.length : Int) < 1) = true := decide_eq_true c5
    have c5b1 : decide (l0.length < 1) = true := decide_eq_true (by omega)
    clear c5
    (first | rw [c5b0] | (simp only [i64_w, i32_w]; rw [c5b0]) | skip)
    have H' := Aside0.mk H
    clear H
    go_wp2_with (first | ((with_reducible refine gate_callee (f := 9) rfl ?_); refine goesL_ (some 11) rfl rfl Tryd.func9 (by kernel_rfl) rfl #[] rfl (by (try simp only [List.map_toArray, List.map_cons, List.map_nil]); first | done | rfl | (simp only [List.length_drop, List.length_take]; rfl)) ?_; (with_reducible refine (shutterlaw22_awake.calls k  true _ (by exact Aside0.mk (Code.Gl.below hGl.out (by repeat (first | (with_reducible first | exact HB.out | apply below_alloc | apply pw_below_drewN | apply below_drew1 | refine below_set ?_ (Aside0.out (by assumption))) | exact HB.out)) (Code.Gl.lt hGl.out))) A3.out).mono ?_); rintro e w6 ⟨rfl, hb⟩; refine ⟨_, rfl, ?_⟩; have n0_ := Aside0.mk (below_step (by repeat (first | (with_reducible first | exact HB.out | apply below_alloc | apply pw_below_drewN | apply below_drew1) | exact HB.out)) hb); clear HB; have HB := n0_; clear n0_; (try clear hb); (try clear hb2); (try clear hk); (try clear hi)))
    go_meet
    case rel => exact ⟨_, (true), (by first | rfl | (simp; done) | (simp [*]; done)), H', ⟨by first | omega | exact Nat.le_refl _⟩, ⟨by repeat (first | (with_reducible first | exact HB.out | apply below_alloc | apply pw_below_drewN | apply below_drew1) | exact HB.out)⟩⟩
   ·rw [if_neg c5] at H
    have c5b0 : decide ((l0.length : Int) < 1) = false := decide_eq_false c5
    have c5b1 : decide (l0.length < 1) = false := decide_eq_false (by omega)
    clear c5
    (first | rw [c5b0] | (simp only [i64_w, i32_w]; rw [c5b0]) | skip)
    have H' := Aside0.mk H
    clear H
    go_wp2_with (first | ((with_reducible refine gate_callee (f := 9) rfl ?_); refine goesL_ (some 11) rfl rfl Tryd.func9 (by kernel_rfl) rfl #[] rfl (by (try simp only [List.map_toArray, List.map_cons, List.map_nil]); first | done | rfl | (simp only [List.length_drop, List.length_take]; rfl)) ?_; (with_reducible refine (shutterlaw22_awake.calls k  true _ (by exact Aside0.mk (Code.Gl.below hGl.out (by repeat (first | (with_reducible first | exact HB.out | apply below_alloc | apply pw_below_drewN | apply below_drew1 | refine below_set ?_ (Aside0.out (by assumption))) | exact HB.out)) (Code.Gl.lt hGl.out))) A3.out).mono ?_); rintro e w7 ⟨rfl, hb⟩; refine ⟨_, rfl, ?_⟩; have n0_ := Aside0.mk (below_step (by repeat (first | (with_reducible first | exact HB.out | apply below_alloc | apply pw_below_drewN | apply below_drew1) | exact HB.out)) hb); clear HB; have HB := n0_; clear n0_; (try clear hb); (try clear hb2); (try clear hk); (try clear hi)))
    go_meet
    case rel => exact ⟨_, (decide ((l0.length : Int) > 300)), (by first | rfl | (simp; done) | (simp [*]; done)), H', ⟨by first | omega | exact Nat.le_refl _⟩, ⟨by repeat (first | (with_reducible first | exact HB.out | apply below_alloc | apply pw_below_drewN | apply below_drew1) | exact HB.out)⟩⟩
  ·replace c4 := Bool.eq_false_iff.mpr c4
   subst c4
   have H1 : (shutterlaw22_PieceKeeps.j0 k l0 true) = some r := by rw [if_neg (show ¬ (false = true) by decide)] at H; exact H
   clear H
   have H := H1
   clear H1
   have H' := Aside0.mk H
   clear H
   go_wp2_with (first | ((with_reducible refine gate_callee (f := 9) rfl ?_); refine goesL_ (some 11) rfl rfl Tryd.func9 (by kernel_rfl) rfl #[] rfl (by (try simp only [List.map_toArray, List.map_cons, List.map_nil]); first | done | rfl | (simp only [List.length_drop, List.length_take]; rfl)) ?_; (with_reducible refine (shutterlaw22_awake.calls k  false _ (by exact Aside0.mk (Code.Gl.below hGl.out (by repeat (first | (with_reducible first | exact HB.out | apply below_alloc | apply pw_below_drewN | apply below_drew1 | refine below_set ?_ (Aside0.out (by assumption))) | exact HB.out)) (Code.Gl.lt hGl.out))) A3.out).mono ?_); rintro e w8 ⟨rfl, hb⟩; refine ⟨_, rfl, ?_⟩; have n0_ := Aside0.mk (below_step (by repeat (first | (with_reducible first | exact HB.out | apply below_alloc | apply pw_below_drewN | apply below_drew1) | exact HB.out)) hb); clear HB; have HB := n0_; clear n0_; (try clear hb); (try clear hb2); (try clear hk); (try clear hi)))
   go_meet
   case rel => exact ⟨_, (true), (by first | rfl | (simp; done) | (simp [*]; done)), H', ⟨by first | omega | exact Nat.le_refl _⟩, ⟨by repeat (first | (with_reducible first | exact HB.out | apply below_alloc | apply pw_below_drewN | apply below_drew1) | exact HB.out)⟩⟩
 case rest =>
  clear HC2
  try clear p2
  try clear c4
  try clear c5
  try clear c5b0
  try clear c5b1
  try clear c7
  obtain ⟨kq, x22_1, rfl, HA, HJ1, HB⟩ := hcut
  cases kq with
  | zero => exact absurd HA.out (by simp [shutterlaw22_PieceKeeps.j0])
  | succ kj1 =>
   have H := HA.out
   clear HA
   simp only [shutterlaw22_PieceKeeps.j0] at H
   by_cases c9 : x22_1 = true
   ·subst c9
    have H1 : ((shutterlaw22_awake.f kj1).bind fun t233 => (some t233)) = some r := by rw [if_pos rfl] at H; exact H
    clear H
    have H := H1
    clear H1
    replace H := Option.bind_eq_some_iff.mp H
    obtain ⟨t233, A100, H⟩ := H
    replace H : (some t233) = some r := H
    have A10 := Aside0.mk A100
    clear A100
    obtain rfl := Option.some.inj H
    go_wp2_with (first | ((with_reducible refine gate_callee (f := 9) rfl ?_); refine goesL_ (some 23) rfl rfl Tryd.func9 (by kernel_rfl) rfl #[] rfl (by (try simp only [List.map_toArray, List.map_cons, List.map_nil]); first | done | rfl | (simp only [List.length_drop, List.length_take]; rfl)) ?_; (with_reducible refine (shutterlaw22_awake.calls kj1  t233 _ (by exact Aside0.mk (Code.Gl.below hGl.out (by repeat (first | (with_reducible first | exact HB.out | apply below_alloc | apply pw_below_drewN | apply below_drew1 | refine below_set ?_ (Aside0.out (by assumption))) | exact HB.out)) (Code.Gl.lt hGl.out))) A10.out).mono ?_); rintro e w11 ⟨rfl, hb⟩; refine ⟨_, rfl, ?_⟩; have n0_ := Aside0.mk (below_step (by repeat (first | (with_reducible first | exact HB.out | apply below_alloc | apply pw_below_drewN | apply below_drew1) | exact HB.out)) hb); clear HB; have HB := n0_; clear n0_; (try clear hb); (try clear hb2); (try clear hk); (try clear hi)))
    go_ret
    exact ⟨by first | rfl | (simp [errW_none, errW_some] <;> rfl) | (simp [*, errW_none, errW_some] <;> rfl), by repeat (first | (with_reducible first | exact HB.out | apply below_alloc | apply pw_below_drewN | apply below_drew1) | exact HB.out)⟩
   ·replace c9 := Bool.eq_false_iff.mpr c9
    subst c9
    have H1 : ((some (([] : List Int) : List Int)).bind fun y234 => (if y234.length + l0.length < 140737488355328 then ((some (y234 ++ l0 : List Int)).bind fun y237 => ((piece_Cut.f y237).bind fun bt240 => (shutterlaw22_PieceKeeps.l0 kj1 l0 y237 bt240.1 bt240.2 0))) else (none))) = some r := by rw [if_neg (show ¬ (false = true) by decide)] at H; exact H
    clear H
    have H := H1
    clear H1
    obtain ⟨y234, hy234⟩ : ∃ y_ : List Int, y_ = (([] : List Int)) := ⟨_, rfl⟩
    replace H : (if y234.length + l0.length < 140737488355328 then ((some (y234 ++ l0 : List Int)).bind fun y237 => ((piece_Cut.f y237).bind fun bt240 => (shutterlaw22_PieceKeeps.l0 kj1 l0 y237 bt240.1 bt240.2 0))) else (none)) = some r := by first | (rw [hy234]; with_reducible exact H) | (have H2_ := (Option.bind_some _ _).symm.trans H; rw [hy234]; with_reducible exact H2_) | (have H2_ := (Option.bind_some _ _).symm.trans H; with_reducible exact H2_) | with_reducible exact H | (rw [hy234]; exact H) | exact H
    have Ny234 := Aside0.mk hy234
    clear hy234
    by_cases c12 : y234.length + l0.length < 140737488355328
    ·rw [if_pos c12] at H
     have LMc12 := Aside0.mk c12
     clear c12
     obtain ⟨y237, hy237⟩ : ∃ y_ : List Int, y_ = (y234 ++ l0) := ⟨_, rfl⟩
     replace H : ((piece_Cut.f y237).bind fun bt240 => (shutterlaw22_PieceKeeps.l0 kj1 l0 y237 bt240.1 bt240.2 0)) = some r := by first | (rw [hy237]; with_reducible exact H) | (have H2_ := (Option.bind_some _ _).symm.trans H; rw [hy237]; with_reducible exact H2_) | (have H2_ := (Option.bind_some _ _).symm.trans H; with_reducible exact H2_) | with_reducible exact H | (rw [hy237]; exact H) | exact H
     have Ny237 := Aside0.mk hy237
     clear hy237
     replace H := Option.bind_eq_some_iff.mp H
     obtain ⟨⟨t240, t241⟩, A130, H⟩ := H
     replace H : (shutterlaw22_PieceKeeps.l0 kj1 l0 y237 t240 t241 0) = some r := H
     have A13 := Aside0.mk A130
     clear A130
     have H' := Aside0.mk H
     clear H
     go_wp2_with (first | ((with_reducible refine gate_dst (N := 24) rfl ?_); (try (refine gate_guard (by rfl) ?_; dsimp only)); refine Kd.R_lit (Kd.int .u8) _ 5 ?hg (N := 24) ?hd (xs := ([] : List Int)) (inner := []) (ok := fun _ => True) (okp := fun _ => True) ?hr ?hp (fun _ hk => hk) trivial (Below.refl _ _) (Nat.le_refl _) (by simp) ?_; (case hd => rfl); (case hg => rfl); (case hr => first | (go_simp; done) | (go_simp; rfl)); (case hp => exact (Reps.none _ _)); intro v235 w14 ho15 hb hg_ hnew_; clear hg_ hnew_; (first | rw [← Ny234.out] at ho15 | (simp only [Int.reduceToNat] at ho15; rw [← Ny234.out] at ho15)); have n0_ := Aside0.mk (Kd.R_lower ho15 (below_size (by repeat (first | (with_reducible first | exact HB.out | apply below_alloc | apply pw_below_drewN | apply below_drew1) | exact HB.out)))); have n1_ := Aside0.mk (below_step (by repeat (first | (with_reducible first | exact HB.out | apply below_alloc | apply pw_below_drewN | apply below_drew1) | exact HB.out)) hb); clear HB; have HO236 := n0_; have HB := n1_; clear n0_ n1_; clear hb ho15) | ((with_reducible refine gate_builtin (b := .append) (xs := #[.tmp 24, .tmp 25]) rfl ?_); (try (refine gate_guard (by rfl) ?_; dsimp only)); at_builtin; refine Kd.R_append_rows (Kd.int .u8) (w0 := w) w.heap.size rfl (.tmp 24) (.tmp 25) 22 5 (.int .u8 0) 1 rfl Tryd.underlying22 info5 rfl (by decide) (by omega) v235 y234 l0 _ _ _ (fun _ => True) (fun _ => False) rfl rfl ?aO ?aR (fun _ _ h => h) (fun _ h => h.elim) ?aF ?aB ?aS ?aL ?_; (case aR => repeat (first | exact (Kd.C_below HR0.out HB.out) | (with_reducible refine Kd.C_alloc ?_ _) | (with_reducible refine Kd.C_drewN ?_ _) | (with_reducible refine Kd.C_drew ?_))); (case aB => exact (by repeat (first | (with_reducible first | exact HB.out | apply below_alloc | apply pw_below_drewN | apply below_drew1) | exact HB.out))); (case aF => exact (fun _ _ => trivial)); (case aO => exact (by (with_reducible repeat (first | apply Kd.R_alloc | apply Kd.R_drewN | apply Kd.R_drew)); exact HO236.out)); (case aS => exact (below_size (by repeat (first | (with_reducible first | exact HB.out | apply below_alloc | apply pw_below_drewN | apply below_drew1) | exact HB.out)))); (case aL => have := LMc12.out; omega); intro v238 w16 ho hb hg hat; rw [← Ny237.out] at ho; have n0_ := Aside0.mk (hb); have n1_ := Aside0.mk (ho); clear HB; clear HO236; have HB := n0_; have HO239 := n1_; clear n0_ n1_; clear ho hb hg hat; obtain ⟨Ao17, co17, eo17⟩ := Kd.R_slice HO239.out; subst eo17) | ((with_reducible refine gate_callee (f := 10) rfl ?_); refine goesL_ (some 29) rfl rfl Tryd.func10 (by kernel_rfl) rfl #[.slice Ao17 y237.length co17] rfl (by (try simp only [List.map_toArray, List.map_cons, List.map_nil]); first | done | rfl | (simp only [List.length_drop, List.length_take]; rfl)) ?_; (with_reducible refine (piece_Cut.calls _ _ y237 t240 t241 _ ?side1 ?side2 A13.out).mono ?_); (case side1 => repeat (first | exact (Kd.R_reads' HO239.out).2.2 | (with_reducible refine Kd.C_alloc ?_ _) | (with_reducible refine Kd.C_drewN ?_ _) | (with_reducible refine Kd.C_drew ?_))); (case side2 => exact (Kd.R_reads' HO239.out).2.1); rintro e w18 ⟨v242, rfl, ho0, hb⟩; refine ⟨_, rfl, ?_⟩; have n0_ := Aside0.mk (Kd.R_below (by (with_reducible repeat (first | apply Kd.R_alloc | apply Kd.R_drewN | apply Kd.R_drew)); exact HO239.out) hb); have n1_ := Aside0.mk (Kd.S_lower (Kd.S_new' ho0 (Kd.R_lt (by (with_reducible repeat (first | apply Kd.R_alloc | apply Kd.R_drewN | apply Kd.R_drew)); exact HO239.out))) (below_size (by repeat (first | (with_reducible first | exact HB.out | apply below_alloc | apply pw_below_drewN | apply below_drew1) | exact HB.out)))); have n2_ := Aside0.mk (below_step (by repeat (first | (with_reducible first | exact HB.out | apply below_alloc | apply pw_below_drewN | apply below_drew1) | exact HB.out)) hb); clear HO239; clear HB; have HO239 := n0_; have HO243 := n1_; have HB := n2_; clear n0_ n1_ n2_; (try clear hb); (try clear hb2); (try clear hk); (try clear hi); (try clear ho0); (try simp only [errW_none, errW_some])))
     (try simp only [add_plain])
     go_loopg [6] kj1 (fun kq v6 w' => ∃ (x3_2 : List Int) (x6_2 : Int), v6 = .int .i64 x6_2 ∧ Aside0 (shutterlaw22_PieceKeeps.l0 kq l0 x3_2 t240 t241 x6_2 = some r) ∧ Aside0 (kq ≤ kj1) ∧ Aside0 (Kd.R (Kd.int .u8) 5 w' w.heap.size (fun _ => True) (.slice Ao17 y237.length co17) x3_2) ∧ Aside0 (Kd.S k34 34 w' w.heap.size (fun k_ => some k_ ≠ ((.slice Ao17 y237.length co17) : Value).ownBlock) v242 t240) ∧ Aside0 (Below w.heap.size w w'))
     case atStart => exact ⟨(y237), (0), (by first | rfl | (simp; done) | (simp [*]; done)), H', ⟨Nat.le_refl _⟩, ⟨by (with_reducible repeat (first | apply Kd.R_alloc | apply Kd.R_drewN | apply Kd.R_drew)); exact HO239.out⟩, ⟨by (with_reducible repeat (first | apply Kd.S_alloc | apply Kd.S_drewN | apply Kd.S_drew)); exact Kd.S_mono HO243.out (fun _ hk => hk.2)⟩, ⟨by repeat (first | (with_reducible first | exact HB.out | apply below_alloc | apply pw_below_drewN | apply below_drew1) | exact HB.out)⟩⟩
     case round =>
      clear H'
      try clear c1
      try clear p2
      try clear c4
      try clear c5
      try clear c5b0
      try clear c5b1
      try clear c7
      try clear c9
      try clear c10
      try clear c12
      try clear p2
      obtain ⟨x3_2, x6_2, rfl, HA, HK2, HO_3, HO_4, HB⟩ := hrel
      have hl3_2 := (Kd.R_reads' HO_3.out).1
      rw [hl3_2] at HO_3
      (try simp only [hl3_2])
      (try simp only [hl3_2] at HO_4)
      cases gk with
      | zero => exact absurd HA.out (by simp [shutterlaw22_PieceKeeps.l0])
      | succ k2 =>
       have H := HA.out
       clear HA
       simp only [shutterlaw22_PieceKeeps.l0] at H
       by_cases c19 : x6_2 < (x3_2.length : Int)
       ·rw [if_pos c19] at H
        have c19b0 : decide (x6_2 < (x3_2.length : Int)) = true := decide_eq_true c19
        clear c19
        by_cases c20 : 0 ≤ x6_2
        ·rw [if_pos c20] at H
         have c20b0 : decide (0 ≤ x6_2) = true := decide_eq_true c20
         clear c20
         obtain ⟨y245, hy245⟩ : ∃ y_ : List Int, y_ = (x3_2.set (x6_2 : Int).toNat (Go.bits .xor .u8 (rd x3_2 x6_2) 255)) := ⟨_, rfl⟩
         replace H : (shutterlaw22_PieceKeeps.l0 k2 l0 y245 t240 t241 (wrap64 (x6_2 + 1))) = some r := by first | (rw [hy245]; with_reducible exact H) | (have H2_ := (Option.bind_some _ _).symm.trans H; rw [hy245]; with_reducible exact H2_) | (have H2_ := (Option.bind_some _ _).symm.trans H; with_reducible exact H2_) | with_reducible exact H | (rw [hy245]; exact H) | exact H
         have Ny245 := Aside0.mk hy245
         clear hy245
         have H' := Aside0.mk H
         clear H
         have p244 : 0 ≤ (x6_2 : Int) := of_decide_eq_true (by first | (with_reducible assumption) | assumption)
         have q244 : x6_2 < (x3_2.length : Int) := of_decide_eq_true (by first | (with_reducible assumption) | assumption)
         obtain ⟨ad244, e244, hx244_0⟩ := Kd.at_int (Kd.R_reads' HO_3.out).2.2 x6_2 p244 q244
         cases e244
         replace p244 := eq_true p244
         replace q244 := eq_true q244
         have p21 : 0 ≤ (x6_2 : Int) := of_decide_eq_true (by first | (with_reducible assumption) | assumption)
         have q21 : (x6_2 : Int) < ((x3_2.length : Int) : Int) := of_decide_eq_true (by first | (with_reducible assumption) | assumption)
         obtain ⟨go21, co21, eo21, gb21, gl21, cl21, HG21⟩ := Kd.R_form HO_3.out (by omega)
         (first | cases eo21 | (injection eo21 with ea_ en_ ec_; (first | subst ea_ | (injection ea_ with ea_; subst ea_)); subst ec_; clear en_))
         have GB21 := Aside0.mk gb21
         have GG21 := Aside0.mk HG21
         clear gb21 gl21 HG21
         (first | simp only [add_plain] at hx244_0 | skip)
         obtain ⟨hx21_0, hf21_0⟩ := Kd.R_celln 0 HO_3.out (x6_2 : Int) p21 q21
         replace p21 := eq_true p21
         replace q21 := eq_true q21
         have HP22 := Kd.R_putg HO_3.out (x6_2 : Int) (Go.bits .xor .u8 (rd x3_2 x6_2) 255)
         go_wp2_with (first | ((with_reducible refine gate_store (t := 5) (p := 45) rfl ?_); refine store_event (t := 5) (p := 45) (v := ?vo_w23) (w1 := (wr.setCell ⟨go21, (x6_2 : Int).toNat, none⟩ (.int .u8 (Go.bits .xor .u8 (rd x3_2 x6_2) 255)))) ?hg ?ho ?hn ?hr ?_; (case ho => rfl); (case hg => rfl); (case hn => rfl); (case hr => first | (go_simp; done) | (go_simp; rfl)); intro w23 hw; have hg : wr.grownBy w23 (some go21) := (by rw [hw]; exact HP22.2); have hp_ : Kd.R (Kd.int .u8) 5 w23 w.heap.size (fun _ => True) (.slice (some ⟨go21, 0, none⟩) x3_2.length co17) y245 := (by rw [hw, Ny245.out]; exact HP22.1); clear HP22; have n0_ := Aside0.mk (hp_); have n1_ := Aside0.mk (Kd.S_after (v := (.slice (some ⟨go21, 0, none⟩) x3_2.length co17)) (v1 := (.slice (some ⟨go21, 0, none⟩) x3_2.length co17)) (ok := (fun _ => True)) (by (with_reducible repeat (first | apply Kd.S_alloc | apply Kd.S_drewN | apply Kd.S_drew)); exact Kd.S_mono HO_4.out (fun _ hk => ⟨trivial, hk⟩)) hg (.inl rfl)); have n2_ := Aside0.mk ((by rw [hw]; exact below_set (HB.out) GB21.out : Below w.heap.size w w23)); clear HO_3; clear HO_4; clear HB; have HO_3 := n0_; have HO_4 := n1_; have HB := n2_; clear n0_ n1_ n2_; clear hg hw hp_))
         (try simp only [← hl3_2])
         (try simp only [add_plain])
         go_roundg k2
         case measure => have := HJ1.out; have := HK2.out; omega
         case rel => exact ⟨(y245), (wrap64 (x6_2 + 1)), (by first | rfl | (simp; done) | (simp [*]; done)), H', ⟨by have := HJ1.out; have := HK2.out; omega⟩, ⟨by (try simp only [hl3_2]); (with_reducible repeat (first | apply Kd.R_alloc | apply Kd.R_drewN | apply Kd.R_drew)); exact HO_3.out⟩, ⟨by (try simp only [hl3_2]); (with_reducible repeat (first | apply Kd.S_alloc | apply Kd.S_drewN | apply Kd.S_drew)); exact Kd.S_mono HO_4.out (fun _ hk => hk.2)⟩, ⟨by repeat (first | (with_reducible first | exact HB.out | apply below_alloc | apply pw_below_drewN | apply below_drew1) | exact HB.out)⟩⟩
        ·rw [if_neg c20] at H
         exact absurd H (by simp)
       ·rw [if_neg c19] at H
        have c19b0 : decide (x6_2 < (x3_2.length : Int)) = false := decide_eq_false c19
        clear c19
        replace H := Option.bind_eq_some_iff.mp H
        obtain ⟨⟨t246, t247⟩, A240, H⟩ := H
        replace H : (if t241.isNone = true then (if t247.isNone = true then ((shutterref22_SameAll.f k2 t240 t246).bind fun t252 => (shutterlaw22_PieceKeeps.j2 k2 l0 t240 t246 (!t252))) else (shutterlaw22_PieceKeeps.j2 k2 l0 t240 t246 true)) else (shutterlaw22_PieceKeeps.j2 k2 l0 t240 t246 true)) = some r := H
        have A24 := Aside0.mk A240
        clear A240
        have HC25 := Aside0.mk H
        clear H
        go_upto_region 10 with (first | ((with_reducible refine gate_callee (f := 10) rfl ?_); refine goesL_ (some 48) rfl rfl Tryd.func10 (by kernel_rfl) rfl #[.slice A0 l0.length c0] rfl (by (try simp only [List.map_toArray, List.map_cons, List.map_nil]); first | done | rfl | (simp only [List.length_drop, List.length_take]; rfl)) ?_; (with_reducible refine (piece_Cut.calls _ _ l0 t246 t247 _ ?side1 ?side2 A24.out).mono ?_); (case side1 => repeat (first | exact (Kd.C_below HR0.out HB.out) | (with_reducible refine Kd.C_alloc ?_ _) | (with_reducible refine Kd.C_drewN ?_ _) | (with_reducible refine Kd.C_drew ?_))); (case side2 => exact HC0.out); rintro e w26 ⟨v248, rfl, ho0, hb⟩; refine ⟨_, rfl, ?_⟩; have n0_ := Aside0.mk (Kd.R_below (by (with_reducible repeat (first | apply Kd.R_alloc | apply Kd.R_drewN | apply Kd.R_drew)); exact HO_3.out) hb); obtain ⟨bN, hbL, hbM⟩ := two_apart (by (with_reducible repeat (first | apply Kd.S_alloc | apply Kd.S_drewN | apply Kd.S_drew)); exact HO_4.out) (Kd.S_new' ho0 (Kd.R_lt (by (with_reducible repeat (first | apply Kd.R_alloc | apply Kd.R_drewN | apply Kd.R_drew)); exact HO_3.out))) hb (below_size (by repeat (first | (with_reducible first | exact HB.out | apply below_alloc | apply pw_below_drewN | apply below_drew1) | exact HB.out))); have n1_ := Aside0.mk hbL; have n2_ := Aside0.mk hbM; clear hbL hbM; have n3_ := Aside0.mk (below_step (by repeat (first | (with_reducible first | exact HB.out | apply below_alloc | apply pw_below_drewN | apply below_drew1) | exact HB.out)) hb); clear HO_3; clear HO_4; clear HB; have HO_3 := n0_; have HO_4 := n1_; have HO249 := n2_; have HB := n3_; clear n0_ n1_ n2_ n3_; (try clear hb); (try clear hb2); (try clear hk); (try clear hi); (try clear ho0); (try simp only [errW_none, errW_some])))
        (try simp only [Act.put, List.setIfInBounds_toArray, List.set_cons_zero, List.set_cons_succ])
        go_cut [62] (fun v62 wc => ∃ (kq : Nat) (x62_24 : Bool), v62 = .bool x62_24 ∧ Aside0 (shutterlaw22_PieceKeeps.j2 kq l0 t240 t246 x62_24 = some r) ∧ Aside0 (kq ≤ k2) ∧ Aside0 (Kd.S k34 34 wc w.heap.size (fun k_ => some k_ ≠ (v248 : Value).ownBlock ∧ k_ < bN) v242 t240) ∧ Aside0 (Kd.S k34 34 wc w.heap.size (fun k_ => some k_ ≠ (v242 : Value).ownBlock ∧ bN ≤ k_) v248 t246) ∧ Aside0 (Below w.heap.size w wc))
        case first =>
         have H := HC25.out
         clear HC25
         rcases t241 with _ | q250
         ·have H1 : (if t247.isNone = true then ((shutterref22_SameAll.f k2 t240 t246).bind fun t252 => (shutterlaw22_PieceKeeps.j2 k2 l0 t240 t246 (!t252))) else (shutterlaw22_PieceKeeps.j2 k2 l0 t240 t246 true)) = some r := by rw [if_pos (show (none : Option Int).isNone = true by rfl)] at H; exact H
          clear H
          have H := H1
          clear H1
          try simp only [errW_none, errW_some]
          rcases t247 with _ | q251
          ·have H1 : ((shutterref22_SameAll.f k2 t240 t246).bind fun t252 => (shutterlaw22_PieceKeeps.j2 k2 l0 t240 t246 (!t252))) = some r := by rw [if_pos (show (none : Option Int).isNone = true by rfl)] at H; exact H
           clear H
           have H := H1
           clear H1
           try simp only [errW_none, errW_some]
           replace H := Option.bind_eq_some_iff.mp H
           obtain ⟨t252, A270, H⟩ := H
           replace H : (shutterlaw22_PieceKeeps.j2 k2 l0 t240 t246 (!t252)) = some r := H
           have A27 := Aside0.mk A270
           clear A270
           have H' := Aside0.mk H
           clear H
           obtain ⟨Ao28, co28, eo28⟩ := Kd.S_slice HO_4.out
           subst eo28
           obtain ⟨Ao29, co29, eo29⟩ := Kd.S_slice HO249.out
           subst eo29
           go_wp2_with (first | (go_at_call 12; (with_reducible refine (shutterref22_SameAll.calls k2 _ _ t240 _ _ t246 t252 _ ?side1 ?side2 ?side3 ?side4 A27.out).mono ?_); (case side1 => repeat (first | exact (Kd.S_reads' HO_4.out).2.2 | (with_reducible refine Kd.C_alloc ?_ _) | (with_reducible refine Kd.C_drewN ?_ _) | (with_reducible refine Kd.C_drew ?_))); (case side2 => exact (Kd.S_reads' HO_4.out).2.1); (case side3 => repeat (first | exact (Kd.S_reads' HO249.out).2.2 | (with_reducible refine Kd.C_alloc ?_ _) | (with_reducible refine Kd.C_drewN ?_ _) | (with_reducible refine Kd.C_drew ?_))); (case side4 => exact (Kd.S_reads' HO249.out).2.1); rintro e w30 ⟨rfl, hb⟩; have n0_ := Aside0.mk (Kd.R_below (by (with_reducible repeat (first | apply Kd.R_alloc | apply Kd.R_drewN | apply Kd.R_drew)); exact HO_3.out) hb); have n1_ := Aside0.mk (Kd.S_below (by (with_reducible repeat (first | apply Kd.S_alloc | apply Kd.S_drewN | apply Kd.S_drew)); exact HO_4.out) hb); have n2_ := Aside0.mk (Kd.S_below (by (with_reducible repeat (first | apply Kd.S_alloc | apply Kd.S_drewN | apply Kd.S_drew)); exact HO249.out) hb); have n3_ := Aside0.mk (below_step (by repeat (first | (with_reducible first | exact HB.out | apply below_alloc | apply pw_below_drewN | apply below_drew1) | exact HB.out)) hb); clear HO_3; clear HO_4; clear HO249; clear HB; have HO_3 := n0_; have HO_4 := n1_; have HO249 := n2_; have HB := n3_; clear n0_ n1_ n2_ n3_; (try clear hb); (try clear hb2); (try clear hk); (try clear hi)))
           go_meet
           case rel => exact ⟨_, (!t252), (by first | rfl | (simp; done) | (simp [*]; done)), H', ⟨by have := HJ1.out; have := HK2.out; first | omega | exact Nat.le_refl _⟩, ⟨by (try simp only [hl3_2]); (with_reducible repeat (first | apply Kd.S_alloc | apply Kd.S_drewN | apply Kd.S_drew)); exact Kd.S_mono HO_4.out (fun _ hk => hk.2)⟩, ⟨by (try simp only [hl3_2]); (with_reducible repeat (first | apply Kd.S_alloc | apply Kd.S_drewN | apply Kd.S_drew)); exact Kd.S_mono HO249.out (fun _ hk => hk.2)⟩, ⟨by repeat (first | (with_reducible first | exact HB.out | apply below_alloc | apply pw_below_drewN | apply below_drew1) | exact HB.out)⟩⟩
          ·have H1 : (shutterlaw22_PieceKeeps.j2 k2 l0 t240 t246 true) = some r := by rw [if_neg (show ¬ (some q251).isNone = true by simp)] at H; exact H
           clear H
           have H := H1
           clear H1
           try simp only [errW_none, errW_some]
           have H' := Aside0.mk H
           clear H
           go_wp2
           go_meet
           case rel => exact ⟨_, (true), (by first | rfl | (simp; done) | (simp [*]; done)), H', ⟨by have := HJ1.out; have := HK2.out; first | omega | exact Nat.le_refl _⟩, ⟨by (try simp only [hl3_2]); (with_reducible repeat (first | apply Kd.S_alloc | apply Kd.S_drewN | apply Kd.S_drew)); exact Kd.S_mono HO_4.out (fun _ hk => hk.2)⟩, ⟨by (try simp only [hl3_2]); (with_reducible repeat (first | apply Kd.S_alloc | apply Kd.S_drewN | apply Kd.S_drew)); exact Kd.S_mono HO249.out (fun _ hk => hk.2)⟩, ⟨by repeat (first | (with_reducible first | exact HB.out | apply below_alloc | apply pw_below_drewN | apply below_drew1) | exact HB.out)⟩⟩
         ·have H1 : (shutterlaw22_PieceKeeps.j2 k2 l0 t240 t246 true) = some r := by rw [if_neg (show ¬ (some q250).isNone = true by simp)] at H; exact H
          clear H
          have H := H1
          clear H1
          try simp only [errW_none, errW_some]
          have H' := Aside0.mk H
          clear H
          go_wp2
          go_meet
          case rel => exact ⟨_, (true), (by first | rfl | (simp; done) | (simp [*]; done)), H', ⟨by have := HJ1.out; have := HK2.out; first | omega | exact Nat.le_refl _⟩, ⟨by (try simp only [hl3_2]); (with_reducible repeat (first | apply Kd.S_alloc | apply Kd.S_drewN | apply Kd.S_drew)); exact Kd.S_mono HO_4.out (fun _ hk => hk.2)⟩, ⟨by (try simp only [hl3_2]); (with_reducible repeat (first | apply Kd.S_alloc | apply Kd.S_drewN | apply Kd.S_drew)); exact Kd.S_mono HO249.out (fun _ hk => hk.2)⟩, ⟨by repeat (first | (with_reducible first | exact HB.out | apply below_alloc | apply pw_below_drewN | apply below_drew1) | exact HB.out)⟩⟩
        case rest =>
         clear HC25
         try clear c1
         try clear c2
         try clear p2
         try clear q2
         try clear hx2
         try clear hf2
         try clear c4
         try clear c5
         try clear c5b0
         try clear c5b1
         try clear p6
         try clear c7
         try clear c9
         try clear c10
         try clear c12
         try clear c19
         try clear c19b0
         try clear c20
         try clear c20b0
         try clear p21
         try clear q21
         try clear hx21
         try clear hf21
         try clear p24
         try clear q24
         try clear hx24
         try clear q25
         try clear hx21_0
         try clear hx244_0
         try clear p2
         try clear p21
         try clear p244
         try clear q21
         try clear q244
         try clear q250
         try clear q251
         obtain ⟨kq, x62_24, rfl, HA, HJ24, HO_4, HO_7, HB⟩ := hcut
         cases kq with
         | zero => exact absurd HA.out (by simp [shutterlaw22_PieceKeeps.j2])
         | succ kj24 =>
          have H := HA.out
          clear HA
          simp only [shutterlaw22_PieceKeeps.j2] at H
          by_cases c31 : x62_24 = true
          ·subst c31
           have H1 : (none) = some r := by rw [if_pos rfl] at H; exact H
           clear H
           have H := H1
           clear H1
           exact absurd H (by simp)
          ·replace c31 := Bool.eq_false_iff.mpr c31
           subst c31
           have H1 : (shutterlaw22_PieceKeeps.l1 kj24 l0 t240 t246 0) = some r := by rw [if_neg (show ¬ (false = true) by decide)] at H; exact H
           clear H
           have H := H1
           clear H1
           have H' := Aside0.mk H
           clear H
           go_wp2
           (try simp only [add_plain])
           go_loopg [9] kj24 (fun kq v9 w' => ∃ (x7_4 : List (S34)) (x9_4 : Int), v9 = .int .i64 x9_4 ∧ Aside0 (shutterlaw22_PieceKeeps.l1 kq l0 t240 x7_4 x9_4 = some r) ∧ Aside0 (kq ≤ kj24) ∧ Aside0 (Kd.S k34 34 w' w.heap.size (fun k_ => some k_ ≠ (v248 : Value).ownBlock ∧ k_ < bN) v242 t240) ∧ Aside0 (Kd.S k34 34 w' w.heap.size (fun k_ => some k_ ≠ (v242 : Value).ownBlock ∧ bN ≤ k_) v248 x7_4) ∧ Aside0 (Below w.heap.size w w'))
           case atStart => exact ⟨(t246), (0), (by first | rfl | (simp; done) | (simp [*]; done)), H', ⟨Nat.le_refl _⟩, ⟨by (try simp only [hl3_2]); (with_reducible repeat (first | apply Kd.S_alloc | apply Kd.S_drewN | apply Kd.S_drew)); exact HO_4.out⟩, ⟨by (try simp only [hl3_2]); (with_reducible repeat (first | apply Kd.S_alloc | apply Kd.S_drewN | apply Kd.S_drew)); exact HO_7.out⟩, ⟨by repeat (first | (with_reducible first | exact HB.out | apply below_alloc | apply pw_below_drewN | apply below_drew1) | exact HB.out)⟩⟩
           case round =>
            clear H'
            try clear c1
            try clear c2
            try clear p2
            try clear q2
            try clear hx2
            try clear hf2
            try clear c3
            try clear c4
            try clear c5
            try clear c5b0
            try clear c5b1
            try clear p6
            try clear c7
            try clear c9
            try clear c10
            try clear c12
            try clear c19
            try clear c19b0
            try clear c20
            try clear c20b0
            try clear p21
            try clear q21
            try clear hx21
            try clear hf21
            try clear p24
            try clear q24
            try clear hx24
            try clear q25
            try clear c31
            try clear hx21_0
            try clear hx244_0
            try clear p2
            try clear p21
            try clear p24
            try clear p244
            try clear p6
            try clear q2
            try clear q21
            try clear q24
            try clear q244
            try clear q25
            try clear q250
            try clear q251
            obtain ⟨x7_4, x9_4, rfl, HA, HK4, HO_4, HO_7, HB⟩ := hrel
            cases gk with
            | zero => exact absurd HA.out (by simp [shutterlaw22_PieceKeeps.l1])
            | succ k4 =>
             have H := HA.out
             clear HA
             simp only [shutterlaw22_PieceKeeps.l1] at H
             by_cases c32 : x9_4 < (x7_4.length : Int)
             ·rw [if_pos c32] at H
              have c32b0 : decide (x9_4 < (x7_4.length : Int)) = true := decide_eq_true c32
              clear c32
              have H' := Aside0.mk H
              clear H
              obtain ⟨Ao33, co33, eo33⟩ := Kd.S_slice HO_7.out
              subst eo33
              go_wp2
              (try simp only [add_plain])
              go_loopg [10] k4 (fun kq v10 w' => ∃ (x7_5 : List (S34)) (x10_5 : Int), v10 = .int .i64 x10_5 ∧ Aside0 (shutterlaw22_PieceKeeps.l2 kq l0 t240 x7_5 x9_4 x10_5 = some r) ∧ Aside0 (kq ≤ k4) ∧ Aside0 (Kd.S k34 34 w' w.heap.size (fun k_ => some k_ ≠ ((.slice Ao33 x7_4.length co33) : Value).ownBlock ∧ k_ < bN) v242 t240) ∧ Aside0 (Kd.S k34 34 w' w.heap.size (fun k_ => some k_ ≠ (v242 : Value).ownBlock ∧ bN ≤ k_) (.slice Ao33 x7_4.length co33) x7_5) ∧ Aside0 (Below w.heap.size w w'))
              case atStart => exact ⟨(x7_4), (0), (by first | rfl | (simp; done) | (simp [*]; done)), H', ⟨Nat.le_refl _⟩, ⟨by (try simp only [hl3_2]); (with_reducible repeat (first | apply Kd.S_alloc | apply Kd.S_drewN | apply Kd.S_drew)); exact HO_4.out⟩, ⟨by (try simp only [hl3_2]); (with_reducible repeat (first | apply Kd.S_alloc | apply Kd.S_drewN | apply Kd.S_drew)); exact HO_7.out⟩, ⟨by repeat (first | (with_reducible first | exact HB.out | apply below_alloc | apply pw_below_drewN | apply below_drew1) | exact HB.out)⟩⟩
              case round =>
               clear H'
               try clear c1
               try clear c2
               try clear p2
               try clear q2
               try clear hx2
               try clear hf2
               try clear c3
               try clear c4
               try clear c5
               try clear c5b0
               try clear c5b1
               try clear p6
               try clear c7
               try clear c9
               try clear c10
               try clear c12
               try clear c19
               try clear c19b0
               try clear c20
               try clear c20b0
               try clear p21
               try clear q21
               try clear hx21
               try clear hf21
               try clear p24
               try clear q24
               try clear hx24
               try clear q25
               try clear c31
               try clear c32
               try clear c32b0
               try clear hx21_0
               try clear hx244_0
               try clear p2
               try clear p21
               try clear p24
               try clear p244
               try clear p6
               try clear q2
               try clear q21
               try clear q24
               try clear q244
               try clear q25
               try clear q250
               try clear q251
               obtain ⟨x7_5, x10_5, rfl, HA, HK5, HO_4, HO_7, HB⟩ := hrel
               have hl7_5 := (Kd.S_reads' HO_7.out).1
               rw [hl7_5] at HO_7
               (try simp only [hl7_5])
               (try simp only [hl7_5] at HO_4)
               cases gk with
               | zero => exact absurd HA.out (by simp [shutterlaw22_PieceKeeps.l2])
               | succ k5 =>
                have H := HA.out
                clear HA
                simp only [shutterlaw22_PieceKeeps.l2] at H
                by_cases c34 : 0 ≤ x9_4
                ·rw [if_pos c34] at H
                 have c34b0 : decide (0 ≤ x9_4) = true := decide_eq_true c34
                 clear c34
                 by_cases c35 : x9_4 < (x7_5.length : Int)
                 ·rw [if_pos c35] at H
                  have c35b0 : decide (x9_4 < (x7_5.length : Int)) = true := decide_eq_true c35
                  clear c35
                  by_cases c36 : x10_5 < (((rd_T34 x7_5 x9_4).f3).length : Int)
                  ·rw [if_pos c36] at H
                   have c36b0 : decide (x10_5 < (((rd_T34 x7_5 x9_4).f3).length : Int)) = true := decide_eq_true c36
                   clear c36
                   by_cases c37 : 0 ≤ x10_5
                   ·rw [if_pos c37] at H
                    have c37b0 : decide (0 ≤ x10_5) = true := decide_eq_true c37
                    clear c37
                    obtain ⟨y259, hy259⟩ : ∃ y_ : List Int, y_ = (((rd_T34 x7_5 x9_4).f3).set (x10_5 : Int).toNat 7) := ⟨_, rfl⟩
                    replace H : (shutterlaw22_PieceKeeps.l2 k5 l0 t240 (x7_5.set (x9_4 : Int).toNat (⟨(rd_T34 x7_5 x9_4).f0, (rd_T34 x7_5 x9_4).f1, (rd_T34 x7_5 x9_4).f2, y259⟩ : S34)) x9_4 (wrap64 (x10_5 + 1))) = some r := by first | (rw [hy259]; with_reducible exact H) | (have H2_ := (Option.bind_some _ _).symm.trans H; rw [hy259]; with_reducible exact H2_) | (have H2_ := (Option.bind_some _ _).symm.trans H; with_reducible exact H2_) | with_reducible exact H | (rw [hy259]; exact H) | exact H
                    have Ny259 := Aside0.mk hy259
                    clear hy259
                    obtain ⟨y261, hy261⟩ : ∃ y_ : List (S34), y_ = (x7_5.set (x9_4 : Int).toNat (⟨(rd_T34 x7_5 x9_4).f0, (rd_T34 x7_5 x9_4).f1, (rd_T34 x7_5 x9_4).f2, y259⟩ : S34)) := ⟨_, rfl⟩
                    replace H : (shutterlaw22_PieceKeeps.l2 k5 l0 t240 y261 x9_4 (wrap64 (x10_5 + 1))) = some r := by first | (rw [hy261]; with_reducible exact H) | (have H2_ := (Option.bind_some _ _).symm.trans H; rw [hy261]; with_reducible exact H2_) | (have H2_ := (Option.bind_some _ _).symm.trans H; with_reducible exact H2_) | with_reducible exact H | (rw [hy261]; exact H) | exact H
                    have Ny261 := Aside0.mk hy261
                    clear hy261
                    have H' := Aside0.mk H
                    clear H
                    have p257 : 0 ≤ (x9_4 : Int) := of_decide_eq_true (by first | (with_reducible assumption) | assumption)
                    have q257 : x9_4 < (x7_5.length : Int) := of_decide_eq_true (by first | (with_reducible assumption) | assumption)
                    obtain ⟨ad257, A257_3, c257_3, e257, hx257_0, hx257_1, hx257_2, hx257_3, hl257_3, hi257_3⟩ := at_T34 (Kd.S_reads' HO_7.out).2.2 x9_4 p257 q257
                    cases e257
                    obtain ⟨ce257, hce257, hMe257, hcc257⟩ := Kd.S_get HO_7.out z34 x9_4 p257 (by first | exact q257 | exact of_decide_eq_true (by first | (with_reducible assumption) | assumption) | (have e_ := (Kd.S_reads' HO_7.out).1; omega))
                    obtain ⟨ve257_3, rfl, ge257_3⟩ := k34_openM hMe257
                    have hv257_3 := hcc257 3 _ rfl
                    rw [add_field _ _ 3 (by omega)] at hv257_3
                    replace hv257_3 := Option.some.inj (hv257_3.symm.trans hx257_3)
                    rw [hv257_3] at ge257_3
                    have HL257_3 := Aside0.mk (show Kd.R (Kd.int .u8) 5 _ _ _ _ ((rd_T34 x7_5 x9_4).f3) from ge257_3)
                    clear hv257_3 ge257_3
                    have HX257_3 := Aside0.mk hx257_3
                    clear hcc257 hce257
                    have HR257_3 := Aside0.mk hi257_3
                    have HC257_3 := Aside0.mk hl257_3
                    clear hi257_3 hl257_3
                    replace p257 := eq_true p257
                    replace q257 := eq_true q257
                    have p258 : 0 ≤ (x9_4 : Int) := of_decide_eq_true (by first | (with_reducible assumption) | assumption)
                    have q258 : x9_4 < (x7_5.length : Int) := of_decide_eq_true (by first | (with_reducible assumption) | assumption)
                    obtain ⟨ad258, A258_3, c258_3, e258, hx258_0, hx258_1, hx258_2, hx258_3, hl258_3, hi258_3⟩ := at_T34 (Kd.S_reads' HO_7.out).2.2 x9_4 p258 q258
                    obtain rfl : ad257 = ad258 := (by injection e258)
                    obtain ⟨ce258, hce258, hMe258, hcc258⟩ := Kd.S_get HO_7.out z34 x9_4 p258 (by first | exact q258 | exact of_decide_eq_true (by first | (with_reducible assumption) | assumption) | (have e_ := (Kd.S_reads' HO_7.out).1; omega))
                    obtain ⟨ve258_3, rfl, ge258_3⟩ := k34_openM hMe258
                    have hv258_3 := hcc258 3 _ rfl
                    rw [add_field _ _ 3 (by omega)] at hv258_3
                    replace hv258_3 := Option.some.inj (hv258_3.symm.trans hx258_3)
                    rw [hv258_3] at ge258_3
                    have HL258_3 := Aside0.mk (show Kd.R (Kd.int .u8) 5 _ _ _ _ ((rd_T34 x7_5 x9_4).f3) from ge258_3)
                    clear hv258_3 ge258_3
                    have HX258_3 := Aside0.mk hx258_3
                    clear hcc258 hce258
                    have HR258_3 := Aside0.mk hi258_3
                    have HC258_3 := Aside0.mk hl258_3
                    clear hi258_3 hl258_3
                    replace p258 := eq_true p258
                    replace q258 := eq_true q258
                    have ea_ := Option.some.inj (hx257_3.symm.trans hx258_3)
                    injection ea_ with ea_ en_ ec_
                    subst ea_
                    subst ec_
                    clear en_
                    have p38 : 0 ≤ (x10_5 : Int) := of_decide_eq_true (by first | (with_reducible assumption) | assumption)
                    have q38 : (x10_5 : Int) < ((((rd_T34 x7_5 x9_4).f3).length : Int) : Int) := of_decide_eq_true (by first | (with_reducible assumption) | assumption)
                    obtain ⟨go38, co38, eo38, gb38, gl38, cl38, HG38⟩ := Kd.R_form HL258_3.out (by omega)
                    (first | cases eo38 | (injection eo38 with ea_ en_ ec_; (first | subst ea_ | (injection ea_ with ea_; subst ea_)); subst ec_; clear en_))
                    have GB38 := Aside0.mk gb38
                    have GG38 := Aside0.mk HG38
                    clear gb38 gl38 HG38
                    obtain ⟨hx38_0, hf38_0⟩ := Kd.R_celln 0 HL258_3.out (x10_5 : Int) p38 q38
                    replace p38 := eq_true p38
                    replace q38 := eq_true q38
                    have hq39 : (x9_4 : Int) < (x7_5.length : Int) := (by have h_ : (x9_4 : Int) < ((x7_5.length : Int) : Int) := of_decide_eq_true (by first | (with_reducible assumption) | assumption); first | exact h_ | (have e_ := (Kd.S_reads' HO_7.out).1; omega) | simpa only [List.length_set, List.length_set] using h_)
                    obtain ⟨oki39, ce39, hcl39, hM39, hcc39, hok39, hbk39⟩ := Kd.S_borrow HO_7.out z34 (x9_4 : Int) (of_decide_eq_true (by first | (with_reducible assumption) | assumption)) hq39
                    obtain ⟨ve39_3, rfl, ge39_3⟩ := k34_openM hM39
                    have hv39 := hcc39 3 _ rfl
                    rw [add_field _ _ 3 (by omega)] at hv39
                    replace hv39 := Option.some.inj (hv39.symm.trans HX258_3.out)
                    subst hv39
                    clear hcc39 hcl39
                    replace ge39_3 := (show Kd.R (Kd.int .u8) 5 _ _ _ _ ((rd_T34 x7_5 x9_4).f3) from ge39_3)
                    have HP39 := Kd.R_putg ge39_3 (x10_5 : Int) 7
                    go_wp2_with (first | ((with_reducible refine gate_store (t := 5) (p := 85) rfl ?_); refine store_event (t := 5) (p := 85) (v := ?vo_w40) (w1 := (wr.setCell ⟨go38, (x10_5 : Int).toNat, none⟩ (.int .u8 7))) ?hg ?ho ?hn ?hr ?_; (case ho => rfl); (case hg => rfl); (case hn => rfl); (case hr => first | (go_simp; done) | (go_simp; rfl)); intro w40 hw; have hg : wr.grownBy w40 (some go38) := (by rw [hw]; exact HP39.2); have hz_ : Kd.R (Kd.int .u8) 5 w40 w.heap.size oki39 (.slice (some ⟨go38, 0, none⟩) ((rd_T34 x7_5 x9_4).f3).length c257_3) y259 := (by rw [hw, Ny259.out]; exact HP39.1); have hp_ : Kd.S k34 34 w40 w.heap.size (fun k_ => some k_ ≠ (v242 : Value).ownBlock ∧ bN ≤ k_) (.slice (some ad257) x7_5.length co33) y261 := (by rw [Ny261.out]; exact hbk39 hg (fun k_ e_ => by injection e_ with e_; subst e_; exact ge39_3.1 _ rfl) (k34_mkM _ _ _ (⟨(rd_T34 x7_5 x9_4).f0, (rd_T34 x7_5 x9_4).f1, (rd_T34 x7_5 x9_4).f2, y259⟩ : S34) hz_)); have hm_ := Kd.R_mono hz_ hok39; clear HP39 hbk39; have n0_ := Aside0.mk ((Kd.S_grown (by (with_reducible repeat (first | apply Kd.S_alloc | apply Kd.S_drewN | apply Kd.S_drew)); exact HO_4.out) hg (by intro k_ h_ e_; exact absurd h_.2 (Nat.not_lt.2 (HL258_3.out.1 k_ e_.symm).1.2)))); have n1_ := Aside0.mk (hp_); have n2_ := Aside0.mk ((by rw [hw]; exact below_set (HB.out) GB38.out : Below w.heap.size w w40)); have n3_ := Aside0.mk (hm_); have n4_ := Aside0.mk ((Kd.R_reads' hm_).2.1); clear HO_4; clear HO_7; clear HB; clear HL257_3; clear HL258_3; have HO_4 := n0_; have HO_7 := n1_; have HB := n2_; have HL262 := n3_; have HC260 := n4_; clear n0_ n1_ n2_ n3_ n4_; clear hg hw hp_ hz_ hm_ hok39))
                    (try simp only [← hl7_5])
                    (try simp only [add_plain])
                    go_roundg k5
                    case measure => have := HJ1.out; have := HK2.out; have := HJ24.out; have := HK4.out; have := HK5.out; omega
                    case rel => exact ⟨(y261), (wrap64 (x10_5 + 1)), (by first | rfl | (simp; done) | (simp [*]; done)), H', ⟨by have := HJ1.out; have := HK2.out; have := HJ24.out; have := HK4.out; have := HK5.out; omega⟩, ⟨by (try simp only [hl3_2]); (try simp only [hl7_5]); (with_reducible repeat (first | apply Kd.S_alloc | apply Kd.S_drewN | apply Kd.S_drew)); exact HO_4.out⟩, ⟨by (try simp only [hl3_2]); (try simp only [hl7_5]); (with_reducible repeat (first | apply Kd.S_alloc | apply Kd.S_drewN | apply Kd.S_drew)); exact HO_7.out⟩, ⟨by repeat (first | (with_reducible first | exact HB.out | apply below_alloc | apply pw_below_drewN | apply below_drew1) | exact HB.out)⟩⟩
                   ·rw [if_neg c37] at H
                    exact absurd H (by simp)
                  ·rw [if_neg c36] at H
                   have c36b0 : decide (x10_5 < (((rd_T34 x7_5 x9_4).f3).length : Int)) = false := decide_eq_false c36
                   clear c36
                   have H' := Aside0.mk H
                   clear H
                   have p257 : 0 ≤ (x9_4 : Int) := of_decide_eq_true (by first | (with_reducible assumption) | assumption)
                   have q257 : x9_4 < (x7_5.length : Int) := of_decide_eq_true (by first | (with_reducible assumption) | assumption)
                   obtain ⟨ad257, A257_3, c257_3, e257, hx257_0, hx257_1, hx257_2, hx257_3, hl257_3, hi257_3⟩ := at_T34 (Kd.S_reads' HO_7.out).2.2 x9_4 p257 q257
                   cases e257
                   obtain ⟨ce257, hce257, hMe257, hcc257⟩ := Kd.S_get HO_7.out z34 x9_4 p257 (by first | exact q257 | exact of_decide_eq_true (by first | (with_reducible assumption) | assumption) | (have e_ := (Kd.S_reads' HO_7.out).1; omega))
                   obtain ⟨ve257_3, rfl, ge257_3⟩ := k34_openM hMe257
                   have hv257_3 := hcc257 3 _ rfl
                   rw [add_field _ _ 3 (by omega)] at hv257_3
                   replace hv257_3 := Option.some.inj (hv257_3.symm.trans hx257_3)
                   rw [hv257_3] at ge257_3
                   have HL257_3 := Aside0.mk (show Kd.R (Kd.int .u8) 5 _ _ _ _ ((rd_T34 x7_5 x9_4).f3) from ge257_3)
                   clear hv257_3 ge257_3
                   have HX257_3 := Aside0.mk hx257_3
                   clear hcc257 hce257
                   have HR257_3 := Aside0.mk hi257_3
                   have HC257_3 := Aside0.mk hl257_3
                   clear hi257_3 hl257_3
                   replace p257 := eq_true p257
                   replace q257 := eq_true q257
                   go_wp2
                   (try simp only [← hl7_5])
                   (try simp only [add_plain])
                   go_roundg k5
                   case measure => have := HJ1.out; have := HK2.out; have := HJ24.out; have := HK4.out; have := HK5.out; omega
                   case rel => exact ⟨(x7_5), (wrap64 (x9_4 + 1)), (by first | rfl | (simp; done) | (simp [*]; done)), H', ⟨by have := HJ1.out; have := HK2.out; have := HJ24.out; have := HK4.out; have := HK5.out; omega⟩, ⟨by (try simp only [hl3_2]); (try simp only [hl7_5]); (with_reducible repeat (first | apply Kd.S_alloc | apply Kd.S_drewN | apply Kd.S_drew)); exact HO_4.out⟩, ⟨by (try simp only [hl3_2]); (try simp only [hl7_5]); (with_reducible repeat (first | apply Kd.S_alloc | apply Kd.S_drewN | apply Kd.S_drew)); exact HO_7.out⟩, ⟨by repeat (first | (with_reducible first | exact HB.out | apply below_alloc | apply pw_below_drewN | apply below_drew1) | exact HB.out)⟩⟩
                 ·rw [if_neg c35] at H
                  exact absurd H (by simp)
                ·rw [if_neg c34] at H
                 exact absurd H (by simp)
             ·rw [if_neg c32] at H
              have c32b0 : decide (x9_4 < (x7_4.length : Int)) = false := decide_eq_false c32
              clear c32
              replace H := Option.bind_eq_some_iff.mp H
              obtain ⟨t253, A410, H⟩ := H
              replace H : ((shutterref22_SameAll.f k4 t240 t253).bind fun t256 => (some t256)) = some r := H
              have A41 := Aside0.mk A410
              clear A410
              replace H := Option.bind_eq_some_iff.mp H
              obtain ⟨t256, A420, H⟩ := H
              replace H : (some t256) = some r := H
              have A42 := Aside0.mk A420
              clear A420
              obtain rfl := Option.some.inj H
              obtain ⟨Ao43, co43, eo43⟩ := Kd.S_slice HO_7.out
              subst eo43
              go_wp2_with (first | ((with_reducible refine gate_callee (f := 13) rfl ?_); refine goesL_ (some 88) rfl rfl Tryd.func13 (by kernel_rfl) rfl #[.slice A0 l0.length c0] rfl (by (try simp only [List.map_toArray, List.map_cons, List.map_nil]); first | done | rfl | (simp only [List.length_drop, List.length_take]; rfl)) ?_; (with_reducible refine (shutterref22_Cut.calls k4 _ _ l0 t253 _ ?side1 ?side2 A41.out).mono ?_); (case side1 => repeat (first | exact (Kd.C_below HR0.out HB.out) | (with_reducible refine Kd.C_alloc ?_ _) | (with_reducible refine Kd.C_drewN ?_ _) | (with_reducible refine Kd.C_drew ?_))); (case side2 => exact HC0.out); rintro e w44 ⟨v254, rfl, ho0, hb⟩; refine ⟨_, rfl, ?_⟩; have n0_ := Aside0.mk (Kd.S_elder' (by (with_reducible repeat (first | apply Kd.S_alloc | apply Kd.S_drewN | apply Kd.S_drew)); exact HO_4.out) (Kd.S_base ho0) hb); have n1_ := Aside0.mk (Kd.S_elder' (by (with_reducible repeat (first | apply Kd.S_alloc | apply Kd.S_drewN | apply Kd.S_drew)); exact HO_7.out) (Kd.S_base ho0) hb); have n2_ := Aside0.mk (Kd.S_lower (Kd.S_new' (Kd.S_new' ho0 (Kd.S_lt (by (with_reducible repeat (first | apply Kd.S_alloc | apply Kd.S_drewN | apply Kd.S_drew)); exact HO_4.out))) (Kd.S_lt (by (with_reducible repeat (first | apply Kd.S_alloc | apply Kd.S_drewN | apply Kd.S_drew)); exact HO_7.out))) (below_size (by repeat (first | (with_reducible first | exact HB.out | apply below_alloc | apply pw_below_drewN | apply below_drew1) | exact HB.out)))); have n3_ := Aside0.mk (below_step (by repeat (first | (with_reducible first | exact HB.out | apply below_alloc | apply pw_below_drewN | apply below_drew1) | exact HB.out)) hb); clear HO_4; clear HO_7; clear HB; have HO_4 := n0_; have HO_7 := n1_; have HO255 := n2_; have HB := n3_; clear n0_ n1_ n2_ n3_; (try clear hb); (try clear hb2); (try clear hk); (try clear hi); (try clear ho0); obtain ⟨Ao45, co45, eo45⟩ := Kd.S_slice HO_4.out; subst eo45; obtain ⟨Ao46, co46, eo46⟩ := Kd.S_slice HO255.out; subst eo46) | ((with_reducible refine gate_callee (f := 12) rfl ?_); refine goesL_ (some 89) rfl rfl Tryd.func12 (by kernel_rfl) rfl #[.slice Ao45 t240.length co45, .slice Ao46 t253.length co46] rfl (by (try simp only [List.map_toArray, List.map_cons, List.map_nil]); first | done | rfl | (simp only [List.length_drop, List.length_take]; rfl)) ?_; (with_reducible refine (shutterref22_SameAll.calls k4 _ _ t240 _ _ t253 t256 _ ?side1 ?side2 ?side3 ?side4 A42.out).mono ?_); (case side1 => repeat (first | exact (Kd.S_reads' HO_4.out).2.2 | (with_reducible refine Kd.C_alloc ?_ _) | (with_reducible refine Kd.C_drewN ?_ _) | (with_reducible refine Kd.C_drew ?_))); (case side2 => exact (Kd.S_reads' HO_4.out).2.1); (case side3 => repeat (first | exact (Kd.S_reads' HO255.out).2.2 | (with_reducible refine Kd.C_alloc ?_ _) | (with_reducible refine Kd.C_drewN ?_ _) | (with_reducible refine Kd.C_drew ?_))); (case side4 => exact (Kd.S_reads' HO255.out).2.1); rintro e w47 ⟨rfl, hb⟩; refine ⟨_, rfl, ?_⟩; have n0_ := Aside0.mk (Kd.S_below (by (with_reducible repeat (first | apply Kd.S_alloc | apply Kd.S_drewN | apply Kd.S_drew)); exact HO_4.out) hb); have n1_ := Aside0.mk (Kd.S_below (by (with_reducible repeat (first | apply Kd.S_alloc | apply Kd.S_drewN | apply Kd.S_drew)); exact HO_7.out) hb); have n2_ := Aside0.mk (Kd.S_below (by (with_reducible repeat (first | apply Kd.S_alloc | apply Kd.S_drewN | apply Kd.S_drew)); exact HO255.out) hb); have n3_ := Aside0.mk (below_step (by repeat (first | (with_reducible first | exact HB.out | apply below_alloc | apply pw_below_drewN | apply below_drew1) | exact HB.out)) hb); clear HO_4; clear HO_7; clear HO255; clear HB; have HO_4 := n0_; have HO_7 := n1_; have HO255 := n2_; have HB := n3_; clear n0_ n1_ n2_ n3_; (try clear hb); (try clear hb2); (try clear hk); (try clear hi)))
              go_ret
              exact ⟨by first | rfl | (simp [errW_none, errW_some] <;> rfl) | (simp [*, errW_none, errW_some] <;> rfl), by repeat (first | (with_reducible first | exact HB.out | apply below_alloc | apply pw_below_drewN | apply below_drew1) | exact HB.out)⟩
    ·rw [if_neg c12] at H
     exact absurd H (by simp)

/-- THE ONE PURE STATEMENT of shutterlaw22_PieceKeeps: yours. -/
def shutterlaw22_PieceKeeps.Pure : Prop := ∀ (l0 : List Int), l0.length ≤ maxLen → l0.length * 1 ≤ 140737488351232 → (∀ x ∈ l0, (Lit.int .u8 x).wf = true) → ∃ k, shutterlaw22_PieceKeeps.f k l0 = some true
theorem shutterlaw22_PieceKeeps.walk (P : shutterlaw22_PieceKeeps.Pure) (a0 : Option Addr) (len0 cap0 : Nat) (z0 : List Int) (w : World) (hGl : Aside0 (Code.Gl w)) (w0 : (a0 = none ∧ len0 = 0 ∧ cap0 = 0 ∧ z0 = []) ∨ ∃ x, a0 = some x ∧ len0 ≤ cap0 ∧ cap0 ≤ maxLen ∧ z0.length = cap0 ∧ (∀ i, i < z0.length → w.cell? (x.add i) = some (.int .u8 (z0.getD i 0))) ∧ ∀ n ∈ z0, (Lit.int .u8 n).wf = true) (y0 : len0 * 1 ≤ 140737488351232) :
  Calls Tryd.prog 7 #[.slice a0 len0 cap0] w fun e w' => e = .returned (.bool true) ∧ Below w.heap.size w w' := by
 obtain ⟨l0, rfl, hr0, hm0, hw0, hc0⟩ := ReadsInt.ofRowC w0
 obtain ⟨k, h⟩ := P l0 hm0 y0 hw0
 refine (shutterlaw22_PieceKeeps.calls k _ _ l0 true w hGl (Kd.C_of_reads (d := (0 : Int)) (h1 := fun _ => rfl) hr0) hc0 h).mono ?_
 rintro e w' ⟨rfl, hd⟩
 exact ⟨rfl, hd⟩

end Go.Proofs.YtfmlndkibnjbmaaDoor.YPieceK

-- Own text, made by this session out of the translation by wip/tools/xprint.sh: Lean functions with the answers of Go functions, and their walks.
import Derived.Test.YtfmlndkibnjbmaaDoorYPiecex0
import Derived.Test.YtfmlndkibnjbmaaDoorYPiecex1
import Derived.Test.YtfmlndkibnjbmaaDoorYPiecex3
import Derived.Test.YtfmlndkibnjbmaaDoorYPiecex4
import Derived.Test.YtfmlndkibnjbmaaDoorYPiecex5
namespace Go.Proofs.YtfmlndkibnjbmaaDoor.YPiece
open Go.RowKit Go.Proofs.YtfmlndkibnjbmaaDoorW.PrintWords Go.Proofs.YtfmlndkibnjbmaaDoorW.PrintLast Go.Proofs.YtfmlndkibnjbmaaDoorW.PrintMore
attribute [local go_sem] max2_int min2_int max_two min_two max_three min_three max_four min_four   -- for this text's walks alone
set_option linter.unusedVariables false
set_option linter.unusedSimpArgs false

/-! ### shutterlaw22_PieceJoin: function 5 -/
mutual
def shutterlaw22_PieceJoin.j0 : Nat → List Int → Bool → Option (Bool)
 | 0, _, _ => none
 | k + 1, x0, x17 => if x17 = true then ((shutterlaw22_awake.f k).bind fun t315 => (some t315)) else ((piece_Cut.f x0).bind fun bt316 => (if bt316.2.isNone = true then (shutterlaw22_PieceJoin.l0 k x0 bt316.1 ([] : List Int) 0) else (some ((bt316.1.length : Int) == 0))))
def shutterlaw22_PieceJoin.l0 : Nat → List Int → List (S34) → List Int → Int → Option (Bool)
 | 0, _, _, _, _ => none
 | k + 1, x0, x3, x5, x6 => if x6 < (x3.length : Int) then (if 0 ≤ x6 then (if (((rd_T34 x3 x6).f2) != ((wrap64 (x6 + 1)) == (x3.length : Int))) = true then (shutterlaw22_PieceJoin.j2 k x0 x3 x5 x6 true) else (if ((rd_T34 x3 x6).f1) = (wrap64 (x6 + 1)) then (shutterlaw22_PieceJoin.j2 k x0 x3 x5 x6 (((rd_T34 x3 x6).f0) != 0)) else (shutterlaw22_PieceJoin.j2 k x0 x3 x5 x6 true))) else (none)) else ((shutterref01_Same.f k x5 x0).bind fun t321 => (some t321))
def shutterlaw22_PieceJoin.j2 : Nat → List Int → List (S34) → List Int → Int → Bool → Option (Bool)
 | 0, _, _, _, _, _ => none
 | k + 1, x0, x3, x5, x6, x63 => if x63 = true then (none) else (if 0 ≤ x6 then (if x6 < (x3.length : Int) then ((piece_Write.f k ((rd_T34 x3 x6).f0) ((rd_T34 x3 x6).f1) ((rd_T34 x3 x6).f2) ((rd_T34 x3 x6).f3)).bind fun bt326 => ((piece_Read.f k bt326.1).bind fun bt330 => (if bt326.2.isNone = true then (if bt330.2.2.2.2.isNone = true then ((piece_Same.f k bt330.1 bt330.2.1 bt330.2.2.1 bt330.2.2.2.1 ((rd_T34 x3 x6).f0) ((rd_T34 x3 x6).f1) ((rd_T34 x3 x6).f2) ((rd_T34 x3 x6).f3)).bind fun t341 => (if t341 = true then (if (wrap64 ((bt326.1.length : Int) + 26)) > 512 then (none) else (if x5.length + bt330.2.2.2.1.length < 140737488355328 then (shutterlaw22_PieceJoin.l0 k x0 x3 (x5 ++ bt330.2.2.2.1) (wrap64 (x6 + 1))) else (none))) else (none))) else (none)) else (none)))) else (none)) else (none))
end
def shutterlaw22_PieceJoin.f (k : Nat) (l0 : List Int) : Option (Bool) := (shutterlaw22_awake.f k).bind fun t314 => (if t314 = true then (shutterlaw22_PieceJoin.j0 k l0 (decide ((l0.length : Int) > 9000))) else (shutterlaw22_PieceJoin.j0 k l0 true))
theorem shutterlaw22_PieceJoin.mono_l : ∀ k, (∀ y0 y1, LeO (shutterlaw22_PieceJoin.j0 k y0 y1) (shutterlaw22_PieceJoin.j0 (k + 1) y0 y1)) ∧ (∀ y0 y1 y2 y3, LeO (shutterlaw22_PieceJoin.l0 k y0 y1 y2 y3) (shutterlaw22_PieceJoin.l0 (k + 1) y0 y1 y2 y3)) ∧ (∀ y0 y1 y2 y3 y4, LeO (shutterlaw22_PieceJoin.j2 k y0 y1 y2 y3 y4) (shutterlaw22_PieceJoin.j2 (k + 1) y0 y1 y2 y3 y4))
 | 0 => ⟨fun _ _ r h => by simp [shutterlaw22_PieceJoin.j0] at h, fun _ _ _ _ r h => by simp [shutterlaw22_PieceJoin.l0] at h, fun _ _ _ _ _ r h => by simp [shutterlaw22_PieceJoin.j2] at h⟩
 | k + 1 => by
  obtain ⟨ih0, ih1, ih2⟩ := shutterlaw22_PieceJoin.mono_l k
  refine ⟨?_, ?_, ?_⟩
  ·intro y0 y1
   unfold shutterlaw22_PieceJoin.j0
   repeat' first
   | (with_reducible exact ih0 _ _)
   | (with_reducible exact ih1 _ _ _ _)
   | (with_reducible exact ih2 _ _ _ _ _)
   | (with_reducible exact piece_Read.mono _ _)
   | (with_reducible exact piece_Same.mono _ _ _ _ _ _ _ _ _)
   | (with_reducible exact piece_Write.mono _ _ _ _ _)
   | (with_reducible exact shutterlaw22_awake.mono _)
   | (with_reducible exact shutterref01_Same.mono _ _ _)
   | (with_reducible exact LeO.refl _)
   | (with_reducible exact LeO.none _)
   | (with_reducible refine LeO.ite ?_ ?_)
   | (with_reducible refine LeO.bind ?_ (fun _ => ?_))
   | exact ih0 _ _
   | exact ih1 _ _ _ _
   | exact ih2 _ _ _ _ _
   | exact piece_Read.mono _ _
   | exact piece_Same.mono _ _ _ _ _ _ _ _ _
   | exact piece_Write.mono _ _ _ _ _
   | exact shutterlaw22_awake.mono _
   | exact shutterref01_Same.mono _ _ _
   | exact LeO.none _
   | refine LeO.ite ?_ ?_
   | refine LeO.bind ?_ (fun _ => ?_)
  ·intro y0 y1 y2 y3
   unfold shutterlaw22_PieceJoin.l0
   repeat' first
   | (with_reducible exact ih0 _ _)
   | (with_reducible exact ih1 _ _ _ _)
   | (with_reducible exact ih2 _ _ _ _ _)
   | (with_reducible exact piece_Read.mono _ _)
   | (with_reducible exact piece_Same.mono _ _ _ _ _ _ _ _ _)
   | (with_reducible exact piece_Write.mono _ _ _ _ _)
   | (with_reducible exact shutterlaw22_awake.mono _)
   | (with_reducible exact shutterref01_Same.mono _ _ _)
   | (with_reducible exact LeO.refl _)
   | (with_reducible exact LeO.none _)
   | (with_reducible refine LeO.ite ?_ ?_)
   | (with_reducible refine LeO.bind ?_ (fun _ => ?_))
   | exact ih0 _ _
   | exact ih1 _ _ _ _
   | exact ih2 _ _ _ _ _
   | exact piece_Read.mono _ _
   | exact piece_Same.mono _ _ _ _ _ _ _ _ _
   | exact piece_Write.mono _ _ _ _ _
   | exact shutterlaw22_awake.mono _
   | exact shutterref01_Same.mono _ _ _
   | exact LeO.none _
   | refine LeO.ite ?_ ?_
   | refine LeO.bind ?_ (fun _ => ?_)
  ·intro y0 y1 y2 y3 y4
   unfold shutterlaw22_PieceJoin.j2
   repeat' first
   | (with_reducible exact ih0 _ _)
   | (with_reducible exact ih1 _ _ _ _)
   | (with_reducible exact ih2 _ _ _ _ _)
   | (with_reducible exact piece_Read.mono _ _)
   | (with_reducible exact piece_Same.mono _ _ _ _ _ _ _ _ _)
   | (with_reducible exact piece_Write.mono _ _ _ _ _)
   | (with_reducible exact shutterlaw22_awake.mono _)
   | (with_reducible exact shutterref01_Same.mono _ _ _)
   | (with_reducible exact LeO.refl _)
   | (with_reducible exact LeO.none _)
   | (with_reducible refine LeO.ite ?_ ?_)
   | (with_reducible refine LeO.bind ?_ (fun _ => ?_))
   | exact ih0 _ _
   | exact ih1 _ _ _ _
   | exact ih2 _ _ _ _ _
   | exact piece_Read.mono _ _
   | exact piece_Same.mono _ _ _ _ _ _ _ _ _
   | exact piece_Write.mono _ _ _ _ _
   | exact shutterlaw22_awake.mono _
   | exact shutterref01_Same.mono _ _ _
   | exact LeO.none _
   | refine LeO.ite ?_ ?_
   | refine LeO.bind ?_ (fun _ => ?_)
theorem shutterlaw22_PieceJoin.mono : ∀ a0 k, LeO (shutterlaw22_PieceJoin.f k a0) (shutterlaw22_PieceJoin.f (k + 1) a0) := by
 intro a0 k
 obtain ⟨ih0, ih1, ih2⟩ := shutterlaw22_PieceJoin.mono_l k
 unfold shutterlaw22_PieceJoin.f
 repeat' first
   | (with_reducible exact ih0 _ _)
   | (with_reducible exact ih1 _ _ _ _)
   | (with_reducible exact ih2 _ _ _ _ _)
   | (with_reducible exact piece_Read.mono _ _)
   | (with_reducible exact piece_Same.mono _ _ _ _ _ _ _ _ _)
   | (with_reducible exact piece_Write.mono _ _ _ _ _)
   | (with_reducible exact shutterlaw22_awake.mono _)
   | (with_reducible exact shutterref01_Same.mono _ _ _)
   | (with_reducible exact LeO.refl _)
   | (with_reducible exact LeO.none _)
   | (with_reducible refine LeO.ite ?_ ?_)
   | (with_reducible refine LeO.bind ?_ (fun _ => ?_))
   | exact ih0 _ _
   | exact ih1 _ _ _ _
   | exact ih2 _ _ _ _ _
   | exact piece_Read.mono _ _
   | exact piece_Same.mono _ _ _ _ _ _ _ _ _
   | exact piece_Write.mono _ _ _ _ _
   | exact shutterlaw22_awake.mono _
   | exact shutterref01_Same.mono _ _ _
   | exact LeO.none _
   | refine LeO.ite ?_ ?_
   | refine LeO.bind ?_ (fun _ => ?_)
def shutterlaw22_PieceJoin.T14 : Bool × List (List Nat × List Nat) := (true, [([], []), ([0], [0]), ([1], [1]), ([2], [2]), ([3, 2], [2, 3]), ([2, 4], [2, 4]), ([5, 2], [5]), ([6], [6]), ([6], [6]), ([6], [6]), ([8, 9, 6], [6, 8, 9]), ([10, 6], [6, 10]), ([7, 11, 6, 6], [6, 7, 11]), ([12, 6], [6, 12]), ([6, 13], [6, 13]), ([14, 12], [14]), ([15], [15]), ([16, 15], [15, 16]), ([17, 15], [15, 17]), ([18, 15], [15, 18]), ([15, 19], [15, 19])])
def shutterlaw22_PieceJoin.B14 : List Nat := [0, 1, 3, 7, 15, 31, 63, 127, 127, 127, 895, 1919, 4095, 8191, 16383, 32767, 65535, 131071, 262143, 524287, 1048575]
theorem shutterlaw22_PieceJoin.tab14 : rtab .any (opsOf Tryd.f5 14) = shutterlaw22_PieceJoin.T14 := by kernel_rfl
theorem shutterlaw22_PieceJoin.bits14 : waitsOk shutterlaw22_PieceJoin.T14.2 shutterlaw22_PieceJoin.B14 = true := by kernel_rfl
set_option maxHeartbeats 8000000 in
set_option maxRecDepth 100000 in
theorem shutterlaw22_PieceJoin.calls (k : Nat) (A0 : Option Addr) (c0 : Nat) (l0 : List Int) (r : Bool) (w : World) (hGl : Aside0 (Code.Gl w)) (hr0 : Kd.C (Kd.int .u8) w A0 l0.length l0) (hc0 : l0.length ≤ c0) (h : shutterlaw22_PieceJoin.f k l0 = some r) :
  Calls Tryd.prog 5 #[.slice A0 l0.length c0] w fun e w' => e = .returned (.bool r) ∧ Below w.heap.size w w' := by
 have hu34 := Tryd.underlying34
 have hu26 := Tryd.underlying26
 have hu46 := Tryd.underlying46
 have HR0 := Aside0.mk hr0
 have HC0 := Aside0.mk hc0
 clear hr0 hc0
 have HB := Aside0.mk (Below.refl w.heap.size w)
 have H : ((shutterlaw22_awake.f k).bind fun t314 => (if t314 = true then (shutterlaw22_PieceJoin.j0 k l0 (decide ((l0.length : Int) > 9000))) else (shutterlaw22_PieceJoin.j0 k l0 true))) = some r := h
 clear h
 have HC2 := Aside0.mk H
 clear H
 go_enter Tryd.func5, Tryd.ntmps5
 go_upto_region 1 with (fail)
 go_cut [17] (fun v17 wc => ∃ (kq : Nat) (x17_1 : Bool), v17 = .bool x17_1 ∧ Aside0 (shutterlaw22_PieceJoin.j0 kq l0 x17_1 = some r) ∧ Aside0 (kq ≤ k) ∧ Aside0 (Below w.heap.size w wc))
 case first =>
  have H := HC2.out
  clear HC2
  replace H := Option.bind_eq_some_iff.mp H
  obtain ⟨t314, A30, H⟩ := H
  replace H : (if t314 = true then (shutterlaw22_PieceJoin.j0 k l0 (decide ((l0.length : Int) > 9000))) else (shutterlaw22_PieceJoin.j0 k l0 true)) = some r := H
  have A3 := Aside0.mk A30
  clear A30
  by_cases c4 : t314 = true
  ·subst c4
   have H1 : (shutterlaw22_PieceJoin.j0 k l0 (decide ((l0.length : Int) > 9000))) = some r := by rw [if_pos rfl] at H; exact H
   clear H
   have H := H1
   clear H1
   have H' := Aside0.mk H
   clear H
   go_wp2_with (first | ((with_reducible refine gate_callee (f := 9) rfl ?_); refine goesL_ (some 11) rfl rfl Tryd.func9 (by kernel_rfl) rfl #[] rfl (by (try simp only [List.map_toArray, List.map_cons, List.map_nil]); first | done | rfl | (simp only [List.length_drop, List.length_take]; rfl)) ?_; (with_reducible refine (shutterlaw22_awake.calls k  true _ (by exact Aside0.mk (Code.Gl.below hGl.out (by repeat (first | (with_reducible first | exact HB.out | apply below_alloc | apply pw_below_drewN | apply below_drew1 | refine below_set ?_ (Aside0.out (by assumption))) | exact HB.out)) (Code.Gl.lt hGl.out))) A3.out).mono ?_); rintro e w5 ⟨rfl, hb⟩; refine ⟨_, rfl, ?_⟩; have n0_ := Aside0.mk (below_step (by repeat (first | (with_reducible first | exact HB.out | apply below_alloc | apply pw_below_drewN | apply below_drew1) | exact HB.out)) hb); clear HB; have HB := n0_; clear n0_; (try clear hb); (try clear hb2); (try clear hk); (try clear hi)))
   go_meet
   case rel => exact ⟨_, (decide ((l0.length : Int) > 9000)), (by first | rfl | (simp; done) | (simp [*]; done)), H', ⟨by first | omega | exact Nat.le_refl _⟩, ⟨by repeat (first | (with_reducible first | exact HB.out | apply below_alloc | apply pw_below_drewN | apply below_drew1) | exact HB.out)⟩⟩
  ·replace c4 := Bool.eq_false_iff.mpr c4
   subst c4
   have H1 : (shutterlaw22_PieceJoin.j0 k l0 true) = some r := by rw [if_neg (show ¬ (false = true) by decide)] at H; exact H
   clear H
   have H := H1
   clear H1
   have H' := Aside0.mk H
   clear H
   go_wp2_with (first | ((with_reducible refine gate_callee (f := 9) rfl ?_); refine goesL_ (some 11) rfl rfl Tryd.func9 (by kernel_rfl) rfl #[] rfl (by (try simp only [List.map_toArray, List.map_cons, List.map_nil]); first | done | rfl | (simp only [List.length_drop, List.length_take]; rfl)) ?_; (with_reducible refine (shutterlaw22_awake.calls k  false _ (by exact Aside0.mk (Code.Gl.below hGl.out (by repeat (first | (with_reducible first | exact HB.out | apply below_alloc | apply pw_below_drewN | apply below_drew1 | refine below_set ?_ (Aside0.out (by assumption))) | exact HB.out)) (Code.Gl.lt hGl.out))) A3.out).mono ?_); rintro e w6 ⟨rfl, hb⟩; refine ⟨_, rfl, ?_⟩; have n0_ := Aside0.mk (below_step (by repeat (first | (with_reducible first | exact HB.out | apply below_alloc | apply pw_below_drewN | apply below_drew1) | exact HB.out)) hb); clear HB; have HB := n0_; clear n0_; (try clear hb); (try clear hb2); (try clear hk); (try clear hi)))
   go_meet
   case rel => exact ⟨_, (true), (by first | rfl | (simp; done) | (simp [*]; done)), H', ⟨by first | omega | exact Nat.le_refl _⟩, ⟨by repeat (first | (with_reducible first | exact HB.out | apply below_alloc | apply pw_below_drewN | apply below_drew1) | exact HB.out)⟩⟩
 case rest =>
  clear HC2
  try clear p2
  try clear c4
  try clear c5
  obtain ⟨kq, x17_1, rfl, HA, HJ1, HB⟩ := hcut
  cases kq with
  | zero => exact absurd HA.out (by simp [shutterlaw22_PieceJoin.j0])
  | succ kj1 =>
   have H := HA.out
   clear HA
   simp only [shutterlaw22_PieceJoin.j0] at H
   by_cases c7 : x17_1 = true
   ·subst c7
    have H1 : ((shutterlaw22_awake.f kj1).bind fun t315 => (some t315)) = some r := by rw [if_pos rfl] at H; exact H
    clear H
    have H := H1
    clear H1
    replace H := Option.bind_eq_some_iff.mp H
    obtain ⟨t315, A80, H⟩ := H
    replace H : (some t315) = some r := H
    have A8 := Aside0.mk A80
    clear A80
    obtain rfl := Option.some.inj H
    go_wp2_with (first | ((with_reducible refine gate_callee (f := 9) rfl ?_); refine goesL_ (some 18) rfl rfl Tryd.func9 (by kernel_rfl) rfl #[] rfl (by (try simp only [List.map_toArray, List.map_cons, List.map_nil]); first | done | rfl | (simp only [List.length_drop, List.length_take]; rfl)) ?_; (with_reducible refine (shutterlaw22_awake.calls kj1  t315 _ (by exact Aside0.mk (Code.Gl.below hGl.out (by repeat (first | (with_reducible first | exact HB.out | apply below_alloc | apply pw_below_drewN | apply below_drew1 | refine below_set ?_ (Aside0.out (by assumption))) | exact HB.out)) (Code.Gl.lt hGl.out))) A8.out).mono ?_); rintro e w9 ⟨rfl, hb⟩; refine ⟨_, rfl, ?_⟩; have n0_ := Aside0.mk (below_step (by repeat (first | (with_reducible first | exact HB.out | apply below_alloc | apply pw_below_drewN | apply below_drew1) | exact HB.out)) hb); clear HB; have HB := n0_; clear n0_; (try clear hb); (try clear hb2); (try clear hk); (try clear hi)))
    go_ret
    exact ⟨by first | rfl | (simp [errW_none, errW_some] <;> rfl) | (simp [*, errW_none, errW_some] <;> rfl), by repeat (first | (with_reducible first | exact HB.out | apply below_alloc | apply pw_below_drewN | apply below_drew1) | exact HB.out)⟩
   ·replace c7 := Bool.eq_false_iff.mpr c7
    subst c7
    have H1 : ((piece_Cut.f l0).bind fun bt316 => (if bt316.2.isNone = true then (shutterlaw22_PieceJoin.l0 kj1 l0 bt316.1 ([] : List Int) 0) else (some ((bt316.1.length : Int) == 0)))) = some r := by rw [if_neg (show ¬ (false = true) by decide)] at H; exact H
    clear H
    have H := H1
    clear H1
    replace H := Option.bind_eq_some_iff.mp H
    obtain ⟨⟨t316, t317⟩, A100, H⟩ := H
    replace H : (if t317.isNone = true then (shutterlaw22_PieceJoin.l0 kj1 l0 t316 ([] : List Int) 0) else (some ((t316.length : Int) == 0))) = some r := H
    have A10 := Aside0.mk A100
    clear A100
    rcases t317 with _ | q320
    ·have H1 : (shutterlaw22_PieceJoin.l0 kj1 l0 t316 ([] : List Int) 0) = some r := by rw [if_pos (show (none : Option Int).isNone = true by rfl)] at H; exact H
     clear H
     have H := H1
     clear H1
     try simp only [errW_none, errW_some]
     have H' := Aside0.mk H
     clear H
     go_wp2_with (first | ((with_reducible refine gate_callee (f := 10) rfl ?_); refine goesL_ (some 21) rfl rfl Tryd.func10 (by kernel_rfl) rfl #[.slice A0 l0.length c0] rfl (by (try simp only [List.map_toArray, List.map_cons, List.map_nil]); first | done | rfl | (simp only [List.length_drop, List.length_take]; rfl)) ?_; (with_reducible refine (piece_Cut.calls _ _ l0 t316 none _ ?side1 ?side2 A10.out).mono ?_); (case side1 => repeat (first | exact (Kd.C_below HR0.out HB.out) | (with_reducible refine Kd.C_alloc ?_ _) | (with_reducible refine Kd.C_drewN ?_ _) | (with_reducible refine Kd.C_drew ?_))); (case side2 => exact HC0.out); rintro e w11 ⟨v318, rfl, ho0, hb⟩; refine ⟨_, rfl, ?_⟩; have n0_ := Aside0.mk (Kd.S_lower ho0 (below_size (by repeat (first | (with_reducible first | exact HB.out | apply below_alloc | apply pw_below_drewN | apply below_drew1) | exact HB.out)))); have n1_ := Aside0.mk (below_step (by repeat (first | (with_reducible first | exact HB.out | apply below_alloc | apply pw_below_drewN | apply below_drew1) | exact HB.out)) hb); clear HB; have HO319 := n0_; have HB := n1_; clear n0_ n1_; (try clear hb); (try clear hb2); (try clear hk); (try clear hi); (try clear ho0); (try simp only [errW_none, errW_some])))
     (try simp only [add_plain])
     go_loopg [5, 6] kj1 (fun kq v5 v6 w' => ∃ (x5_2 : List Int) (x6_2 : Int), v6 = .int .i64 x6_2 ∧ Aside0 (shutterlaw22_PieceJoin.l0 kq l0 t316 x5_2 x6_2 = some r) ∧ Aside0 (kq ≤ kj1) ∧ Aside0 (Kd.S k34 34 w' w.heap.size (fun k_ => some k_ ≠ (v5 : Value).ownBlock) v318 t316) ∧ Aside0 (Kd.R (Kd.int .u8) 5 w' w.heap.size (fun _ => True) v5 x5_2) ∧ Aside0 (Below w.heap.size w w'))
     case atStart => exact ⟨(([] : List Int)), (0), (by first | rfl | (simp; done) | (simp [*]; done)), H', ⟨Nat.le_refl _⟩, ⟨by (with_reducible repeat (first | apply Kd.S_alloc | apply Kd.S_drewN | apply Kd.S_drew)); exact Kd.S_mono HO319.out (fun _ hk => (by simp [Value.ownBlock]))⟩, ⟨by first | exact Kd.R_nil _ _ _ _ _ | exact Kd.N_nil _ _ _ _ _ | exact Kd.V_nil _ _ _ _ _ | exact Kd.Q_nil _ _ _ _ _ | exact Kd.S_nil _ _ _ _ _⟩, ⟨by repeat (first | (with_reducible first | exact HB.out | apply below_alloc | apply pw_below_drewN | apply below_drew1) | exact HB.out)⟩⟩
     case round =>
      clear H'
      try clear c1
      try clear p2
      try clear q3
      try clear c4
      try clear c5
      try clear c7
      try clear c9
      try clear c10
      try clear p2
      try clear q320
      obtain ⟨x5_2, x6_2, rfl, HA, HK2, HO_3, HO_5, HB⟩ := hrel
      cases gk with
      | zero => exact absurd HA.out (by simp [shutterlaw22_PieceJoin.l0])
      | succ k2 =>
       have H := HA.out
       clear HA
       simp only [shutterlaw22_PieceJoin.l0] at H
       by_cases c12 : x6_2 < (t316.length : Int)
       ·rw [if_pos c12] at H
        have c12b0 : decide (x6_2 < (t316.length : Int)) = true := decide_eq_true c12
        clear c12
        have HC13 := Aside0.mk H
        clear H
        obtain ⟨Ao14, co14, eo14⟩ := Kd.S_slice HO_3.out
        subst eo14
        go_upto_region 10 with (fail)
        go_cut [63] (fun v63 wc => ∃ (kq : Nat) (x63_12 : Bool), v63 = .bool x63_12 ∧ Aside0 (shutterlaw22_PieceJoin.j2 kq l0 t316 x5_2 x6_2 x63_12 = some r) ∧ Aside0 (kq ≤ k2) ∧ Aside0 (Kd.S k34 34 wc w.heap.size (fun k_ => some k_ ≠ (u5 : Value).ownBlock) (.slice Ao14 t316.length co14) t316) ∧ Aside0 (Kd.R (Kd.int .u8) 5 wc w.heap.size (fun _ => True) u5 x5_2) ∧ Aside0 (Below w.heap.size w wc))
        case first =>
         have H := HC13.out
         clear HC13
         by_cases c15 : 0 ≤ x6_2
         ·rw [if_pos c15] at H
          have c15b0 : decide (0 ≤ x6_2) = true := decide_eq_true c15
          clear c15
          (first | rw [c15b0] | (simp only [i64_w, i32_w]; rw [c15b0]) | skip)
          by_cases c16 : (((rd_T34 t316 x6_2).f2) != ((wrap64 (x6_2 + 1)) == (t316.length : Int))) = true
          ·rw [if_pos c16] at H
           have c16b0 : (((rd_T34 t316 x6_2).f2) != ((wrap64 (x6_2 + 1)) == (t316.length : Int))) = true := c16
           (try (have c16b1 : decide (((rd_T34 t316 x6_2).f2) = ((wrap64 (x6_2 + 1)) == (t316.length : Int))) = false := by simpa using c16))
           (try (have c16b2 : (((rd_T34 t316 x6_2).f2) == ((wrap64 (x6_2 + 1)) == (t316.length : Int))) = false := by simpa using c16))
           (try (have c16b3 : ¬ (((rd_T34 t316 x6_2).f2) = ((wrap64 (x6_2 + 1)) == (t316.length : Int))) := by simpa using c16))
           clear c16
           have H' := Aside0.mk H
           clear H
           have p322 : 0 ≤ (x6_2 : Int) := of_decide_eq_true (by first | (with_reducible assumption) | assumption)
           have q322 : x6_2 < (t316.length : Int) := of_decide_eq_true (by first | (with_reducible assumption) | assumption)
           obtain ⟨ad322, A322_3, c322_3, e322, hx322_0, hx322_1, hx322_2, hx322_3, hl322_3, hi322_3⟩ := at_T34 (Kd.S_reads' HO_3.out).2.2 x6_2 p322 q322
           cases e322
           obtain ⟨ce322, hce322, hMe322, hcc322⟩ := Kd.S_get HO_3.out z34 x6_2 p322 (by first | exact q322 | exact of_decide_eq_true (by first | (with_reducible assumption) | assumption) | (have e_ := (Kd.S_reads' HO_3.out).1; omega))
           obtain ⟨ve322_3, rfl, ge322_3⟩ := k34_openM hMe322
           have hv322_3 := hcc322 3 _ rfl
           rw [add_field _ _ 3 (by omega)] at hv322_3
           replace hv322_3 := Option.some.inj (hv322_3.symm.trans hx322_3)
           rw [hv322_3] at ge322_3
           have HL322_3 := Aside0.mk (show Kd.R (Kd.int .u8) 5 _ _ _ _ ((rd_T34 t316 x6_2).f3) from ge322_3)
           clear hv322_3 ge322_3
           clear hcc322 hce322
           have HR322_3 := Aside0.mk hi322_3
           have HC322_3 := Aside0.mk hl322_3
           clear hi322_3 hl322_3
           replace p322 := eq_true p322
           replace q322 := eq_true q322
           go_wp2
           go_meet
           case rel => exact ⟨_, (true), (by first | rfl | (simp; done) | (simp [*]; done)), H', ⟨by have := HJ1.out; have := HK2.out; first | omega | exact Nat.le_refl _⟩, ⟨by (with_reducible repeat (first | apply Kd.S_alloc | apply Kd.S_drewN | apply Kd.S_drew)); exact HO_3.out⟩, ⟨by (with_reducible repeat (first | apply Kd.R_alloc | apply Kd.R_drewN | apply Kd.R_drew)); exact HO_5.out⟩, ⟨by repeat (first | (with_reducible first | exact HB.out | apply below_alloc | apply pw_below_drewN | apply below_drew1) | exact HB.out)⟩⟩
          ·rw [if_neg c16] at H
           have c16b0 : (((rd_T34 t316 x6_2).f2) != ((wrap64 (x6_2 + 1)) == (t316.length : Int))) = false := by simpa using c16
           (try (have c16b1 : decide (((rd_T34 t316 x6_2).f2) = ((wrap64 (x6_2 + 1)) == (t316.length : Int))) = true := by simpa using c16))
           (try (have c16b2 : (((rd_T34 t316 x6_2).f2) == ((wrap64 (x6_2 + 1)) == (t316.length : Int))) = true := by simpa using c16))
           clear c16
           by_cases c17 : ((rd_T34 t316 x6_2).f1) = (wrap64 (x6_2 + 1))
           ·rw [if_pos c17] at H
            have c17b0 : (((rd_T34 t316 x6_2).f1) == (wrap64 (x6_2 + 1))) = true := beq_iff_eq.mpr c17
            have c17b1 : (((rd_T34 t316 x6_2).f1) != (wrap64 (x6_2 + 1))) = false := bne_eq_false_iff_eq.mpr c17
            clear c17
            have H' := Aside0.mk H
            clear H
            have p322 : 0 ≤ (x6_2 : Int) := of_decide_eq_true (by first | (with_reducible assumption) | assumption)
            have q322 : x6_2 < (t316.length : Int) := of_decide_eq_true (by first | (with_reducible assumption) | assumption)
            obtain ⟨ad322, A322_3, c322_3, e322, hx322_0, hx322_1, hx322_2, hx322_3, hl322_3, hi322_3⟩ := at_T34 (Kd.S_reads' HO_3.out).2.2 x6_2 p322 q322
            cases e322
            obtain ⟨ce322, hce322, hMe322, hcc322⟩ := Kd.S_get HO_3.out z34 x6_2 p322 (by first | exact q322 | exact of_decide_eq_true (by first | (with_reducible assumption) | assumption) | (have e_ := (Kd.S_reads' HO_3.out).1; omega))
            obtain ⟨ve322_3, rfl, ge322_3⟩ := k34_openM hMe322
            have hv322_3 := hcc322 3 _ rfl
            rw [add_field _ _ 3 (by omega)] at hv322_3
            replace hv322_3 := Option.some.inj (hv322_3.symm.trans hx322_3)
            rw [hv322_3] at ge322_3
            have HL322_3 := Aside0.mk (show Kd.R (Kd.int .u8) 5 _ _ _ _ ((rd_T34 t316 x6_2).f3) from ge322_3)
            clear hv322_3 ge322_3
            clear hcc322 hce322
            have HR322_3 := Aside0.mk hi322_3
            have HC322_3 := Aside0.mk hl322_3
            clear hi322_3 hl322_3
            replace p322 := eq_true p322
            replace q322 := eq_true q322
            have p323 : 0 ≤ (x6_2 : Int) := of_decide_eq_true (by first | (with_reducible assumption) | assumption)
            have q323 : x6_2 < (t316.length : Int) := of_decide_eq_true (by first | (with_reducible assumption) | assumption)
            obtain ⟨ad323, A323_3, c323_3, e323, hx323_0, hx323_1, hx323_2, hx323_3, hl323_3, hi323_3⟩ := at_T34 (Kd.S_reads' HO_3.out).2.2 x6_2 p323 q323
            obtain rfl : ad322 = ad323 := (by injection e323)
            obtain ⟨ce323, hce323, hMe323, hcc323⟩ := Kd.S_get HO_3.out z34 x6_2 p323 (by first | exact q323 | exact of_decide_eq_true (by first | (with_reducible assumption) | assumption) | (have e_ := (Kd.S_reads' HO_3.out).1; omega))
            obtain ⟨ve323_3, rfl, ge323_3⟩ := k34_openM hMe323
            have hv323_3 := hcc323 3 _ rfl
            rw [add_field _ _ 3 (by omega)] at hv323_3
            replace hv323_3 := Option.some.inj (hv323_3.symm.trans hx323_3)
            rw [hv323_3] at ge323_3
            have HL323_3 := Aside0.mk (show Kd.R (Kd.int .u8) 5 _ _ _ _ ((rd_T34 t316 x6_2).f3) from ge323_3)
            clear hv323_3 ge323_3
            clear hcc323 hce323
            have HR323_3 := Aside0.mk hi323_3
            have HC323_3 := Aside0.mk hl323_3
            clear hi323_3 hl323_3
            replace p323 := eq_true p323
            replace q323 := eq_true q323
            have ea_ := Option.some.inj (hx322_3.symm.trans hx323_3)
            injection ea_ with ea_ en_ ec_
            subst ea_
            subst ec_
            clear en_
            have p324 : 0 ≤ (x6_2 : Int) := of_decide_eq_true (by first | (with_reducible assumption) | assumption)
            have q324 : x6_2 < (t316.length : Int) := of_decide_eq_true (by first | (with_reducible assumption) | assumption)
            obtain ⟨ad324, A324_3, c324_3, e324, hx324_0, hx324_1, hx324_2, hx324_3, hl324_3, hi324_3⟩ := at_T34 (Kd.S_reads' HO_3.out).2.2 x6_2 p324 q324
            obtain rfl : ad322 = ad324 := (by injection e324)
            obtain ⟨ce324, hce324, hMe324, hcc324⟩ := Kd.S_get HO_3.out z34 x6_2 p324 (by first | exact q324 | exact of_decide_eq_true (by first | (with_reducible assumption) | assumption) | (have e_ := (Kd.S_reads' HO_3.out).1; omega))
            obtain ⟨ve324_3, rfl, ge324_3⟩ := k34_openM hMe324
            have hv324_3 := hcc324 3 _ rfl
            rw [add_field _ _ 3 (by omega)] at hv324_3
            replace hv324_3 := Option.some.inj (hv324_3.symm.trans hx324_3)
            rw [hv324_3] at ge324_3
            have HL324_3 := Aside0.mk (show Kd.R (Kd.int .u8) 5 _ _ _ _ ((rd_T34 t316 x6_2).f3) from ge324_3)
            clear hv324_3 ge324_3
            clear hcc324 hce324
            have HR324_3 := Aside0.mk hi324_3
            have HC324_3 := Aside0.mk hl324_3
            clear hi324_3 hl324_3
            replace p324 := eq_true p324
            replace q324 := eq_true q324
            have ea_ := Option.some.inj (hx322_3.symm.trans hx324_3)
            injection ea_ with ea_ en_ ec_
            subst ea_
            subst ec_
            clear en_
            go_wp2
            go_meet
            case rel => exact ⟨_, ((((rd_T34 t316 x6_2).f0) != 0)), (by first | rfl | (simp; done) | (simp [*]; done)), H', ⟨by have := HJ1.out; have := HK2.out; first | omega | exact Nat.le_refl _⟩, ⟨by (with_reducible repeat (first | apply Kd.S_alloc | apply Kd.S_drewN | apply Kd.S_drew)); exact HO_3.out⟩, ⟨by (with_reducible repeat (first | apply Kd.R_alloc | apply Kd.R_drewN | apply Kd.R_drew)); exact HO_5.out⟩, ⟨by repeat (first | (with_reducible first | exact HB.out | apply below_alloc | apply pw_below_drewN | apply below_drew1) | exact HB.out)⟩⟩
           ·rw [if_neg c17] at H
            have c17b0 : (((rd_T34 t316 x6_2).f1) == (wrap64 (x6_2 + 1))) = false := beq_eq_false_iff_ne.mpr c17
            have c17b1 : (((rd_T34 t316 x6_2).f1) != (wrap64 (x6_2 + 1))) = true := bne_iff_ne.mpr c17
            have H' := Aside0.mk H
            clear H
            have p322 : 0 ≤ (x6_2 : Int) := of_decide_eq_true (by first | (with_reducible assumption) | assumption)
            have q322 : x6_2 < (t316.length : Int) := of_decide_eq_true (by first | (with_reducible assumption) | assumption)
            obtain ⟨ad322, A322_3, c322_3, e322, hx322_0, hx322_1, hx322_2, hx322_3, hl322_3, hi322_3⟩ := at_T34 (Kd.S_reads' HO_3.out).2.2 x6_2 p322 q322
            cases e322
            obtain ⟨ce322, hce322, hMe322, hcc322⟩ := Kd.S_get HO_3.out z34 x6_2 p322 (by first | exact q322 | exact of_decide_eq_true (by first | (with_reducible assumption) | assumption) | (have e_ := (Kd.S_reads' HO_3.out).1; omega))
            obtain ⟨ve322_3, rfl, ge322_3⟩ := k34_openM hMe322
            have hv322_3 := hcc322 3 _ rfl
            rw [add_field _ _ 3 (by omega)] at hv322_3
            replace hv322_3 := Option.some.inj (hv322_3.symm.trans hx322_3)
            rw [hv322_3] at ge322_3
            have HL322_3 := Aside0.mk (show Kd.R (Kd.int .u8) 5 _ _ _ _ ((rd_T34 t316 x6_2).f3) from ge322_3)
            clear hv322_3 ge322_3
            clear hcc322 hce322
            have HR322_3 := Aside0.mk hi322_3
            have HC322_3 := Aside0.mk hl322_3
            clear hi322_3 hl322_3
            replace p322 := eq_true p322
            replace q322 := eq_true q322
            have p323 : 0 ≤ (x6_2 : Int) := of_decide_eq_true (by first | (with_reducible assumption) | assumption)
            have q323 : x6_2 < (t316.length : Int) := of_decide_eq_true (by first | (with_reducible assumption) | assumption)
            obtain ⟨ad323, A323_3, c323_3, e323, hx323_0, hx323_1, hx323_2, hx323_3, hl323_3, hi323_3⟩ := at_T34 (Kd.S_reads' HO_3.out).2.2 x6_2 p323 q323
            obtain rfl : ad322 = ad323 := (by injection e323)
            obtain ⟨ce323, hce323, hMe323, hcc323⟩ := Kd.S_get HO_3.out z34 x6_2 p323 (by first | exact q323 | exact of_decide_eq_true (by first | (with_reducible assumption) | assumption) | (have e_ := (Kd.S_reads' HO_3.out).1; omega))
            obtain ⟨ve323_3, rfl, ge323_3⟩ := k34_openM hMe323
            have hv323_3 := hcc323 3 _ rfl
            rw [add_field _ _ 3 (by omega)] at hv323_3
            replace hv323_3 := Option.some.inj (hv323_3.symm.trans hx323_3)
            rw [hv323_3] at ge323_3
            have HL323_3 := Aside0.mk (show Kd.R (Kd.int .u8) 5 _ _ _ _ ((rd_T34 t316 x6_2).f3) from ge323_3)
            clear hv323_3 ge323_3
            clear hcc323 hce323
            have HR323_3 := Aside0.mk hi323_3
            have HC323_3 := Aside0.mk hl323_3
            clear hi323_3 hl323_3
            replace p323 := eq_true p323
            replace q323 := eq_true q323
            have ea_ := Option.some.inj (hx322_3.symm.trans hx323_3)
            injection ea_ with ea_ en_ ec_
            subst ea_
            subst ec_
            clear en_
            go_wp2
            go_meet
            case rel => exact ⟨_, (true), (by first | rfl | (simp; done) | (simp [*]; done)), H', ⟨by have := HJ1.out; have := HK2.out; first | omega | exact Nat.le_refl _⟩, ⟨by (with_reducible repeat (first | apply Kd.S_alloc | apply Kd.S_drewN | apply Kd.S_drew)); exact HO_3.out⟩, ⟨by (with_reducible repeat (first | apply Kd.R_alloc | apply Kd.R_drewN | apply Kd.R_drew)); exact HO_5.out⟩, ⟨by repeat (first | (with_reducible first | exact HB.out | apply below_alloc | apply pw_below_drewN | apply below_drew1) | exact HB.out)⟩⟩
         ·rw [if_neg c15] at H
          exact absurd H (by simp)
        case rest =>
         clear HC13
         try clear c1
         try clear p2
         try clear c3
         try clear p3
         try clear q3
         try clear hx3
         try clear c4
         try clear c5
         try clear p6
         try clear c7
         try clear c9
         try clear c10
         try clear c12
         try clear c12b0
         try clear c15
         try clear c15b0
         try clear c16
         try clear c16b0
         try clear c16b1
         try clear c16b2
         try clear c17
         try clear c17b0
         try clear c17b1
         try clear hx322_0
         try clear hx322_1
         try clear hx322_2
         try clear hx322_3
         try clear hx323_0
         try clear hx323_1
         try clear hx323_2
         try clear hx323_3
         try clear hx324_0
         try clear hx324_1
         try clear hx324_2
         try clear hx324_3
         try clear p2
         try clear p322
         try clear p323
         try clear p324
         try clear q3
         try clear q320
         try clear q322
         try clear q323
         try clear q324
         obtain ⟨kq, x63_12, rfl, HA, HJ12, HO_3, HO_5, HB⟩ := hcut
         cases kq with
         | zero => exact absurd HA.out (by simp [shutterlaw22_PieceJoin.j2])
         | succ kj12 =>
          have H := HA.out
          clear HA
          simp only [shutterlaw22_PieceJoin.j2] at H
          by_cases c18 : x63_12 = true
          ·subst c18
           have H1 : (none) = some r := by rw [if_pos rfl] at H; exact H
           clear H
           have H := H1
           clear H1
           exact absurd H (by simp)
          ·replace c18 := Bool.eq_false_iff.mpr c18
           subst c18
           have H1 : (if 0 ≤ x6_2 then (if x6_2 < (t316.length : Int) then ((piece_Write.f kj12 ((rd_T34 t316 x6_2).f0) ((rd_T34 t316 x6_2).f1) ((rd_T34 t316 x6_2).f2) ((rd_T34 t316 x6_2).f3)).bind fun bt326 => ((piece_Read.f kj12 bt326.1).bind fun bt330 => (if bt326.2.isNone = true then (if bt330.2.2.2.2.isNone = true then ((piece_Same.f kj12 bt330.1 bt330.2.1 bt330.2.2.1 bt330.2.2.2.1 ((rd_T34 t316 x6_2).f0) ((rd_T34 t316 x6_2).f1) ((rd_T34 t316 x6_2).f2) ((rd_T34 t316 x6_2).f3)).bind fun t341 => (if t341 = true then (if (wrap64 ((bt326.1.length : Int) + 26)) > 512 then (none) else (if x5_2.length + bt330.2.2.2.1.length < 140737488355328 then (shutterlaw22_PieceJoin.l0 kj12 l0 t316 (x5_2 ++ bt330.2.2.2.1) (wrap64 (x6_2 + 1))) else (none))) else (none))) else (none)) else (none)))) else (none)) else (none)) = some r := by rw [if_neg (show ¬ (false = true) by decide)] at H; exact H
           clear H
           have H := H1
           clear H1
           by_cases c19 : 0 ≤ x6_2
           ·rw [if_pos c19] at H
            have c19b0 : decide (0 ≤ x6_2) = true := decide_eq_true c19
            clear c19
            by_cases c20 : x6_2 < (t316.length : Int)
            ·rw [if_pos c20] at H
             have c20b0 : decide (x6_2 < (t316.length : Int)) = true := decide_eq_true c20
             clear c20
             replace H := Option.bind_eq_some_iff.mp H
             obtain ⟨⟨t326, t329⟩, A210, H⟩ := H
             replace H : ((piece_Read.f kj12 t326).bind fun bt330 => (if t329.isNone = true then (if bt330.2.2.2.2.isNone = true then ((piece_Same.f kj12 bt330.1 bt330.2.1 bt330.2.2.1 bt330.2.2.2.1 ((rd_T34 t316 x6_2).f0) ((rd_T34 t316 x6_2).f1) ((rd_T34 t316 x6_2).f2) ((rd_T34 t316 x6_2).f3)).bind fun t341 => (if t341 = true then (if (wrap64 ((t326.length : Int) + 26)) > 512 then (none) else (if x5_2.length + bt330.2.2.2.1.length < 140737488355328 then (shutterlaw22_PieceJoin.l0 kj12 l0 t316 (x5_2 ++ bt330.2.2.2.1) (wrap64 (x6_2 + 1))) else (none))) else (none))) else (none)) else (none))) = some r := H
             have A21 := Aside0.mk A210
             clear A210
             replace H := Option.bind_eq_some_iff.mp H
             obtain ⟨⟨t330, t331, t332, t333, t336⟩, A220, H⟩ := H
             replace H : (if t329.isNone = true then (if t336.isNone = true then ((piece_Same.f kj12 t330 t331 t332 t333 ((rd_T34 t316 x6_2).f0) ((rd_T34 t316 x6_2).f1) ((rd_T34 t316 x6_2).f2) ((rd_T34 t316 x6_2).f3)).bind fun t341 => (if t341 = true then (if (wrap64 ((t326.length : Int) + 26)) > 512 then (none) else (if x5_2.length + t333.length < 140737488355328 then (shutterlaw22_PieceJoin.l0 kj12 l0 t316 (x5_2 ++ t333) (wrap64 (x6_2 + 1))) else (none))) else (none))) else (none)) else (none)) = some r := H
             have A22 := Aside0.mk A220
             clear A220
             rcases t329 with _ | q338
             ·have H1 : (if t336.isNone = true then ((piece_Same.f kj12 t330 t331 t332 t333 ((rd_T34 t316 x6_2).f0) ((rd_T34 t316 x6_2).f1) ((rd_T34 t316 x6_2).f2) ((rd_T34 t316 x6_2).f3)).bind fun t341 => (if t341 = true then (if (wrap64 ((t326.length : Int) + 26)) > 512 then (none) else (if x5_2.length + t333.length < 140737488355328 then (shutterlaw22_PieceJoin.l0 kj12 l0 t316 (x5_2 ++ t333) (wrap64 (x6_2 + 1))) else (none))) else (none))) else (none)) = some r := by rw [if_pos (show (none : Option Int).isNone = true by rfl)] at H; exact H
              clear H
              have H := H1
              clear H1
              try simp only [errW_none, errW_some]
              rcases t336 with _ | q339
              ·have H1 : ((piece_Same.f kj12 t330 t331 t332 t333 ((rd_T34 t316 x6_2).f0) ((rd_T34 t316 x6_2).f1) ((rd_T34 t316 x6_2).f2) ((rd_T34 t316 x6_2).f3)).bind fun t341 => (if t341 = true then (if (wrap64 ((t326.length : Int) + 26)) > 512 then (none) else (if x5_2.length + t333.length < 140737488355328 then (shutterlaw22_PieceJoin.l0 kj12 l0 t316 (x5_2 ++ t333) (wrap64 (x6_2 + 1))) else (none))) else (none))) = some r := by rw [if_pos (show (none : Option Int).isNone = true by rfl)] at H; exact H
               clear H
               have H := H1
               clear H1
               try simp only [errW_none, errW_some]
               replace H := Option.bind_eq_some_iff.mp H
               obtain ⟨t341, A230, H⟩ := H
               replace H : (if t341 = true then (if (wrap64 ((t326.length : Int) + 26)) > 512 then (none) else (if x5_2.length + t333.length < 140737488355328 then (shutterlaw22_PieceJoin.l0 kj12 l0 t316 (x5_2 ++ t333) (wrap64 (x6_2 + 1))) else (none))) else (none)) = some r := H
               have A23 := Aside0.mk A230
               clear A230
               by_cases c24 : t341 = true
               ·subst c24
                have H1 : (if (wrap64 ((t326.length : Int) + 26)) > 512 then (none) else (if x5_2.length + t333.length < 140737488355328 then (shutterlaw22_PieceJoin.l0 kj12 l0 t316 (x5_2 ++ t333) (wrap64 (x6_2 + 1))) else (none))) = some r := by rw [if_pos rfl] at H; exact H
                clear H
                have H := H1
                clear H1
                by_cases c25 : (wrap64 ((t326.length : Int) + 26)) > 512
                ·rw [if_pos c25] at H
                 exact absurd H (by simp)
                ·rw [if_neg c25] at H
                 have c25b0 : decide (512 < (wrap64 ((t326.length : Int) + 26))) = false := decide_eq_false c25
                 clear c25
                 by_cases c26 : x5_2.length + t333.length < 140737488355328
                 ·rw [if_pos c26] at H
                  have LMc26 := Aside0.mk c26
                  clear c26
                  obtain ⟨y342, hy342⟩ : ∃ y_ : List Int, y_ = (x5_2 ++ t333) := ⟨_, rfl⟩
                  replace H : (shutterlaw22_PieceJoin.l0 kj12 l0 t316 y342 (wrap64 (x6_2 + 1))) = some r := by first | (rw [hy342]; with_reducible exact H) | (have H2_ := (Option.bind_some _ _).symm.trans H; rw [hy342]; with_reducible exact H2_) | (have H2_ := (Option.bind_some _ _).symm.trans H; with_reducible exact H2_) | with_reducible exact H | (rw [hy342]; exact H) | exact H
                  have Ny342 := Aside0.mk hy342
                  clear hy342
                  have H' := Aside0.mk H
                  clear H
                  have p325 : 0 ≤ (x6_2 : Int) := of_decide_eq_true (by first | (with_reducible assumption) | assumption)
                  have q325 : x6_2 < (t316.length : Int) := of_decide_eq_true (by first | (with_reducible assumption) | assumption)
                  obtain ⟨ad325, A325_3, c325_3, e325, hx325_0, hx325_1, hx325_2, hx325_3, hl325_3, hi325_3⟩ := at_T34 (Kd.S_reads' HO_3.out).2.2 x6_2 p325 q325
                  cases e325
                  obtain ⟨ce325, hce325, hMe325, hcc325⟩ := Kd.S_get HO_3.out z34 x6_2 p325 (by first | exact q325 | exact of_decide_eq_true (by first | (with_reducible assumption) | assumption) | (have e_ := (Kd.S_reads' HO_3.out).1; omega))
                  obtain ⟨ve325_3, rfl, ge325_3⟩ := k34_openM hMe325
                  have hv325_3 := hcc325 3 _ rfl
                  rw [add_field _ _ 3 (by omega)] at hv325_3
                  replace hv325_3 := Option.some.inj (hv325_3.symm.trans hx325_3)
                  rw [hv325_3] at ge325_3
                  have HL325_3 := Aside0.mk (show Kd.R (Kd.int .u8) 5 _ _ _ _ ((rd_T34 t316 x6_2).f3) from ge325_3)
                  clear hv325_3 ge325_3
                  clear hcc325 hce325
                  have HR325_3 := Aside0.mk hi325_3
                  have HC325_3 := Aside0.mk hl325_3
                  clear hi325_3 hl325_3
                  replace p325 := eq_true p325
                  replace q325 := eq_true q325
                  try go_wp2_with (first | ((with_reducible refine gate_callee (f := 14) rfl ?_); refine goesL_ (some 69) rfl rfl Tryd.func14 (by kernel_rfl) rfl #[.agg #[.int .i64 ((rd_T34 t316 x6_2).f0), .int .i64 ((rd_T34 t316 x6_2).f1), .bool ((rd_T34 t316 x6_2).f2), .slice A325_3 ((rd_T34 t316 x6_2).f3).length c325_3]] rfl (by (try simp only [List.map_toArray, List.map_cons, List.map_nil]); first | done | rfl | (simp only [List.length_drop, List.length_take]; rfl)) ?_; (with_reducible refine (piece_Write.calls kj12 ((rd_T34 t316 x6_2).f0) ((rd_T34 t316 x6_2).f1) ((rd_T34 t316 x6_2).f2) (fun k_ => some k_ = (.slice A325_3 ((rd_T34 t316 x6_2).f3).length c325_3 : Value).ownBlock) _ _ ((rd_T34 t316 x6_2).f3) t326 none _ ?side1 A21.out).mono ?_); (case side1 => exact Kd.R_V (Kd.R_tight rfl (HL325_3.out))); rintro e w27 ⟨v327, rfl, ho0, hb⟩; refine ⟨_, rfl, ?_⟩; have n0_ := Aside0.mk (Kd.S_elder' (by (with_reducible repeat (first | apply Kd.S_alloc | apply Kd.S_drewN | apply Kd.S_drew)); exact HO_3.out) (Kd.R_base ho0) hb); have n1_ := Aside0.mk (Kd.R_elder' (by (with_reducible repeat (first | apply Kd.R_alloc | apply Kd.R_drewN | apply Kd.R_drew)); exact HO_5.out) (Kd.R_base ho0) hb); have n2_ := Aside0.mk (Kd.R_elder' (by (with_reducible repeat (first | apply Kd.R_alloc | apply Kd.R_drewN | apply Kd.R_drew)); exact HL325_3.out) (Kd.R_base ho0) hb); have n3_ := Aside0.mk (Kd.R_lower (Kd.R_new' (Kd.R_new' (Kd.R_mono (ok' := fun k_ => True) ho0 (fun _ hk_ => trivial)) (Kd.R_lt (by (with_reducible repeat (first | apply Kd.R_alloc | apply Kd.R_drewN | apply Kd.R_drew)); exact HO_5.out))) (Kd.R_lt (by (with_reducible repeat (first | apply Kd.R_alloc | apply Kd.R_drewN | apply Kd.R_drew)); exact HL325_3.out))) (below_size (by repeat (first | (with_reducible first | exact HB.out | apply below_alloc | apply pw_below_drewN | apply below_drew1) | exact HB.out)))); have n4_ := Aside0.mk (Kd.C_below (by repeat (first | (with_reducible exact HR325_3.out) | (with_reducible refine Kd.C_alloc ?_ _) | (with_reducible refine Kd.C_drewN ?_ _) | (with_reducible refine Kd.C_drew ?_) | exact HR325_3.out)) hb); have n5_ := Aside0.mk (below_step (by repeat (first | (with_reducible first | exact HB.out | apply below_alloc | apply pw_below_drewN | apply below_drew1) | exact HB.out)) hb); clear HO_3; clear HO_5; clear HL325_3; clear HR325_3; clear HB; have HO_3 := n0_; have HO_5 := n1_; have HL325_3 := n2_; have HO328 := n3_; have HR325_3 := n4_; have HB := n5_; clear n0_ n1_ n2_ n3_ n4_ n5_; (try clear hb); (try clear hb2); (try clear hk); (try clear hi); (try clear ho0); (try simp only [errW_none, errW_some]); obtain ⟨Ao28, co28, eo28⟩ := Kd.R_slice HO328.out; subst eo28) | ((with_reducible refine gate_callee (f := 18) rfl ?_); refine goesL_ (some 74) rfl rfl Tryd.func18 (by kernel_rfl) rfl #[.slice Ao28 t326.length co28] rfl (by (try simp only [List.map_toArray, List.map_cons, List.map_nil]); first | done | rfl | (simp only [List.length_drop, List.length_take]; rfl)) ?_; (with_reducible refine (piece_Read.calls kj12 _ _ t326 t330 t331 t332 t333 none _ ?side1 ?side2 A22.out).mono ?_); (case side1 => repeat (first | exact (Kd.R_reads' HO328.out).2.2 | (with_reducible refine Kd.C_alloc ?_ _) | (with_reducible refine Kd.C_drewN ?_ _) | (with_reducible refine Kd.C_drew ?_))); (case side2 => exact (Kd.R_reads' HO328.out).2.1); rintro e w29 ⟨v334, rfl, ho0, hb⟩; refine ⟨_, rfl, ?_⟩; have n0_ := Aside0.mk (Kd.S_elder' (by (with_reducible repeat (first | apply Kd.S_alloc | apply Kd.S_drewN | apply Kd.S_drew)); exact HO_3.out) (Kd.R_base ho0) hb); have n1_ := Aside0.mk (Kd.R_elder' (by (with_reducible repeat (first | apply Kd.R_alloc | apply Kd.R_drewN | apply Kd.R_drew)); exact HO_5.out) (Kd.R_base ho0) hb); have n2_ := Aside0.mk (Kd.R_elder' (by (with_reducible repeat (first | apply Kd.R_alloc | apply Kd.R_drewN | apply Kd.R_drew)); exact HL325_3.out) (Kd.R_base ho0) hb); have n3_ := Aside0.mk (Kd.R_elder' (by (with_reducible repeat (first | apply Kd.R_alloc | apply Kd.R_drewN | apply Kd.R_drew)); exact HO328.out) (Kd.R_base ho0) hb); have n4_ := Aside0.mk (Kd.R_lower (Kd.R_new' (Kd.R_new' (Kd.R_new' ho0 (Kd.R_lt (by (with_reducible repeat (first | apply Kd.R_alloc | apply Kd.R_drewN | apply Kd.R_drew)); exact HO_5.out))) (Kd.R_lt (by (with_reducible repeat (first | apply Kd.R_alloc | apply Kd.R_drewN | apply Kd.R_drew)); exact HL325_3.out))) (Kd.R_lt (by (with_reducible repeat (first | apply Kd.R_alloc | apply Kd.R_drewN | apply Kd.R_drew)); exact HO328.out))) (below_size (by repeat (first | (with_reducible first | exact HB.out | apply below_alloc | apply pw_below_drewN | apply below_drew1) | exact HB.out)))); have n5_ := Aside0.mk (Kd.C_below (by repeat (first | (with_reducible exact HR325_3.out) | (with_reducible refine Kd.C_alloc ?_ _) | (with_reducible refine Kd.C_drewN ?_ _) | (with_reducible refine Kd.C_drew ?_) | exact HR325_3.out)) hb); have n6_ := Aside0.mk (below_step (by repeat (first | (with_reducible first | exact HB.out | apply below_alloc | apply pw_below_drewN | apply below_drew1) | exact HB.out)) hb); clear HO_3; clear HO_5; clear HL325_3; clear HO328; clear HR325_3; clear HB; have HO_3 := n0_; have HO_5 := n1_; have HL325_3 := n2_; have HO328 := n3_; have HO335 := n4_; have HR325_3 := n5_; have HB := n6_; clear n0_ n1_ n2_ n3_ n4_ n5_ n6_; (try clear hb); (try clear hb2); (try clear hk); (try clear hi); (try clear ho0); (try simp only [errW_none, errW_some])) | ((with_reducible refine gate_dst (N := 9) rfl ?_); (try (refine gate_guard (by rfl) ?_; dsimp only)); refine box_event ?hg (N := 9) ?hd (cs := #[.int .i64 0, .int .i64 0, .bool false, .slice none 0 0]) (t := 34) ?hr ?_; (case hd => rfl); (case hg => rfl); (case hr => first | (go_simp; done) | (go_simp; rfl)); intro gb337 hg w30 hbox hb; have n0_ := Aside0.mk (Kd.S_below (Kd.S_elderB (by (with_reducible repeat (first | apply Kd.S_alloc | apply Kd.S_drewN | apply Kd.S_drew)); exact HO_3.out) gb337 (Nat.le_of_eq hg.symm)) hb); have n1_ := Aside0.mk (Kd.R_below (by (with_reducible repeat (first | apply Kd.R_alloc | apply Kd.R_drewN | apply Kd.R_drew)); exact HO_5.out) hb); have n2_ := Aside0.mk (Kd.R_below (by (with_reducible repeat (first | apply Kd.R_alloc | apply Kd.R_drewN | apply Kd.R_drew)); exact HL325_3.out) hb); have n3_ := Aside0.mk (Kd.R_below (by (with_reducible repeat (first | apply Kd.R_alloc | apply Kd.R_drewN | apply Kd.R_drew)); exact HO328.out) hb); have n4_ := Aside0.mk (Kd.R_below (by (with_reducible repeat (first | apply Kd.R_alloc | apply Kd.R_drewN | apply Kd.R_drew)); exact HO335.out) hb); have n5_ := Aside0.mk (Kd.C_below (by repeat (first | (with_reducible exact HR325_3.out) | (with_reducible refine Kd.C_alloc ?_ _) | (with_reducible refine Kd.C_drewN ?_ _) | (with_reducible refine Kd.C_drew ?_) | exact HR325_3.out)) hb); have n6_ := Aside0.mk (below_step (by repeat (first | (with_reducible first | exact HB.out | apply below_alloc | apply pw_below_drewN | apply below_drew1) | exact HB.out)) hb); have n7_ := Aside0.mk (hbox); have n8_ := Aside0.mk ((by rw [hg]; exact (below_size (by repeat (first | (with_reducible first | exact HB.out | apply below_alloc | apply pw_below_drewN | apply below_drew1) | exact HB.out))) : w.heap.size ≤ gb337)); have n9_ := Aside0.mk ((by rw [hg]; exact (below_size (by repeat (first | (with_reducible first | exact HB.out | apply below_alloc | apply pw_below_drewN | apply below_drew1) | exact HB.out))) : w.heap.size ≤ gb337)); clear HO_3; clear HO_5; clear HL325_3; clear HO328; clear HO335; clear HR325_3; clear HB; have HO_3 := n0_; have HO_5 := n1_; have HL325_3 := n2_; have HO328 := n3_; have HO335 := n4_; have HR325_3 := n5_; have HB := n6_; have BK337 := n7_; have GW337 := n8_; have GE337 := n9_; clear n0_ n1_ n2_ n3_ n4_ n5_ n6_ n7_ n8_ n9_; clear hb hbox hg; have hcz31_0 : w30.cell? ⟨gb337, 0, none⟩ = some (.int .i64 0) := (blk_cell BK337.out 0).trans rfl; have hcz31_1 : w30.cell? ⟨gb337, 1, none⟩ = some (.int .i64 0) := (blk_cell BK337.out 1).trans rfl; have hcz31_2 : w30.cell? ⟨gb337, 2, none⟩ = some (.bool false) := (blk_cell BK337.out 2).trans rfl; have hcz31_3 : w30.cell? ⟨gb337, 3, none⟩ = some (.slice none 0 0) := (blk_cell BK337.out 3).trans rfl; have hfz31_0 := blk_frozen BK337.out 0; have hfz31_1 := blk_frozen BK337.out 1; have hfz31_2 := blk_frozen BK337.out 2; have hfz31_3 := blk_frozen BK337.out 3; obtain ⟨Ao32, co32, eo32⟩ := Kd.R_slice HO335.out; subst eo32))
                  have n0_ : Aside0 (Kd.S k34 34 ((((w30.setCell ⟨gb337, 0, none⟩ (.int .i64 t330)).setCell ⟨gb337, 1, none⟩ (.int .i64 t331)).setCell ⟨gb337, 2, none⟩ (.bool t332)).setCell ⟨gb337, 3, none⟩ (.slice Ao32 t333.length co32)) w.heap.size (fun k_ => some k_ ≠ (u5 : Value).ownBlock ∧ some k_ ≠ (.slice Ao28 t326.length co28 : Value).ownBlock ∧ some k_ ≠ (.slice Ao32 t333.length co32 : Value).ownBlock ∧ k_ ≠ gb337) (.slice (some ad325) t316.length co14) t316) := ⟨by (with_reducible repeat (first | apply Kd.S_alloc | apply Kd.S_drewN | apply Kd.S_drew)); exact Kd.S_mono (Kd.S_far (p := ⟨gb337, 3, none⟩) (Kd.S_far (p := ⟨gb337, 2, none⟩) (Kd.S_far (p := ⟨gb337, 1, none⟩) (Kd.S_far (p := ⟨gb337, 0, none⟩) (Kd.S_mono HO_3.out (fun k_ hk => (⟨hk, hk.2⟩ : _ ∧ k_ ≠ gb337))) (fun _ hk => hk.2) (.int .i64 t330)) (fun _ hk => hk.2) (.int .i64 t331)) (fun _ hk => hk.2) (.bool t332)) (fun _ hk => hk.2) (.slice Ao32 t333.length co32)) (fun _ hk => ⟨hk.1.1.1.1, ⟨hk.1.1.1.2, ⟨hk.1.1.2, hk.1.2⟩⟩⟩)⟩
                  have n1_ : Aside0 (Kd.R (Kd.int .u8) 5 ((((w30.setCell ⟨gb337, 0, none⟩ (.int .i64 t330)).setCell ⟨gb337, 1, none⟩ (.int .i64 t331)).setCell ⟨gb337, 2, none⟩ (.bool t332)).setCell ⟨gb337, 3, none⟩ (.slice Ao32 t333.length co32)) w.heap.size (fun k_ => some k_ ≠ (.slice Ao28 t326.length co28 : Value).ownBlock ∧ some k_ ≠ (.slice Ao32 t333.length co32 : Value).ownBlock) u5 x5_2) := ⟨by (with_reducible repeat (first | apply Kd.R_alloc | apply Kd.R_drewN | apply Kd.R_drew)); exact Kd.R_mono (Kd.R_far (p := ⟨gb337, 3, none⟩) (Kd.R_far (p := ⟨gb337, 2, none⟩) (Kd.R_far (p := ⟨gb337, 1, none⟩) (Kd.R_far (p := ⟨gb337, 0, none⟩) (Kd.R_types HO_5.out BK337.out (by decide)) (fun _ hk => hk.2) (.int .i64 t330)) (fun _ hk => hk.2) (.int .i64 t331)) (fun _ hk => hk.2) (.bool t332)) (fun _ hk => hk.2) (.slice Ao32 t333.length co32)) (fun _ hk => ⟨hk.1.1.2, hk.1.2⟩)⟩
                  have n2_ : Aside0 (Kd.R (Kd.int .u8) 5 ((((w30.setCell ⟨gb337, 0, none⟩ (.int .i64 t330)).setCell ⟨gb337, 1, none⟩ (.int .i64 t331)).setCell ⟨gb337, 2, none⟩ (.bool t332)).setCell ⟨gb337, 3, none⟩ (.slice Ao32 t333.length co32)) w.heap.size (fun k_ => some k_ ≠ (.slice (some ad325) t316.length co14 : Value).ownBlock ∧ some k_ ≠ (u5 : Value).ownBlock ∧ some k_ ≠ (.slice Ao28 t326.length co28 : Value).ownBlock ∧ some k_ ≠ (.slice Ao32 t333.length co32 : Value).ownBlock) (.slice A325_3 ((rd_T34 t316 x6_2).f3).length c325_3) ((rd_T34 t316 x6_2).f3)) := ⟨by (with_reducible repeat (first | apply Kd.R_alloc | apply Kd.R_drewN | apply Kd.R_drew)); exact Kd.R_mono (Kd.R_far (p := ⟨gb337, 3, none⟩) (Kd.R_far (p := ⟨gb337, 2, none⟩) (Kd.R_far (p := ⟨gb337, 1, none⟩) (Kd.R_far (p := ⟨gb337, 0, none⟩) (Kd.R_types HL325_3.out BK337.out (by decide)) (fun _ hk => hk.2) (.int .i64 t330)) (fun _ hk => hk.2) (.int .i64 t331)) (fun _ hk => hk.2) (.bool t332)) (fun _ hk => hk.2) (.slice Ao32 t333.length co32)) (fun _ hk => ⟨hk.1.1.1.2, ⟨hk.1.1.1.1, ⟨hk.1.1.2, hk.1.2⟩⟩⟩)⟩
                  have n3_ : Aside0 (Kd.R (Kd.int .u8) 5 ((((w30.setCell ⟨gb337, 0, none⟩ (.int .i64 t330)).setCell ⟨gb337, 1, none⟩ (.int .i64 t331)).setCell ⟨gb337, 2, none⟩ (.bool t332)).setCell ⟨gb337, 3, none⟩ (.slice Ao32 t333.length co32)) w.heap.size (fun k_ => some k_ ≠ (u5 : Value).ownBlock ∧ some k_ ≠ (.slice A325_3 ((rd_T34 t316 x6_2).f3).length c325_3 : Value).ownBlock ∧ some k_ ≠ (.slice Ao32 t333.length co32 : Value).ownBlock) (.slice Ao28 t326.length co28) t326) := ⟨by (with_reducible repeat (first | apply Kd.R_alloc | apply Kd.R_drewN | apply Kd.R_drew)); exact Kd.R_mono (Kd.R_far (p := ⟨gb337, 3, none⟩) (Kd.R_far (p := ⟨gb337, 2, none⟩) (Kd.R_far (p := ⟨gb337, 1, none⟩) (Kd.R_far (p := ⟨gb337, 0, none⟩) (Kd.R_types HO328.out BK337.out (by decide)) (fun _ hk => hk.2) (.int .i64 t330)) (fun _ hk => hk.2) (.int .i64 t331)) (fun _ hk => hk.2) (.bool t332)) (fun _ hk => hk.2) (.slice Ao32 t333.length co32)) (fun _ hk => ⟨hk.1.1.1.2, ⟨hk.1.1.2, hk.1.2⟩⟩)⟩
                  have n4_ : Aside0 (Kd.R (Kd.int .u8) 5 ((((w30.setCell ⟨gb337, 0, none⟩ (.int .i64 t330)).setCell ⟨gb337, 1, none⟩ (.int .i64 t331)).setCell ⟨gb337, 2, none⟩ (.bool t332)).setCell ⟨gb337, 3, none⟩ (.slice Ao32 t333.length co32)) w.heap.size (fun k_ => some k_ ≠ (u5 : Value).ownBlock ∧ some k_ ≠ (.slice A325_3 ((rd_T34 t316 x6_2).f3).length c325_3 : Value).ownBlock ∧ some k_ ≠ (.slice Ao28 t326.length co28 : Value).ownBlock) (.slice Ao32 t333.length co32) t333) := ⟨by (with_reducible repeat (first | apply Kd.R_alloc | apply Kd.R_drewN | apply Kd.R_drew)); exact Kd.R_mono (Kd.R_far (p := ⟨gb337, 3, none⟩) (Kd.R_far (p := ⟨gb337, 2, none⟩) (Kd.R_far (p := ⟨gb337, 1, none⟩) (Kd.R_far (p := ⟨gb337, 0, none⟩) (Kd.R_types HO335.out BK337.out (by decide)) (fun _ hk => hk.2) (.int .i64 t330)) (fun _ hk => hk.2) (.int .i64 t331)) (fun _ hk => hk.2) (.bool t332)) (fun _ hk => hk.2) (.slice Ao32 t333.length co32)) (fun _ hk => ⟨hk.1.1.1.2, ⟨hk.1.1.2, hk.1.2⟩⟩)⟩
                  have n5_ : Aside0 (((((w30.setCell ⟨gb337, 0, none⟩ (.int .i64 t330)).setCell ⟨gb337, 1, none⟩ (.int .i64 t331)).setCell ⟨gb337, 2, none⟩ (.bool t332)).setCell ⟨gb337, 3, none⟩ (.slice Ao32 t333.length co32)).heap[gb337]? = some (.cells #[.int .i64 t330, .int .i64 t331, .bool t332, .slice Ao32 t333.length co32] 34 (0, 0))) := ⟨by (with_reducible repeat (first | refine blk_drewN ?_ _ | refine blk_drew ?_ | refine blk_alloc ?_ _)); refine blk_put (cs := #[.int .i64 t330, .int .i64 t331, .bool t332, .slice none 0 0]) ?_ 3 _ rfl; (with_reducible repeat (first | refine blk_drewN ?_ _ | refine blk_drew ?_ | refine blk_alloc ?_ _)); refine blk_put (cs := #[.int .i64 t330, .int .i64 t331, .bool false, .slice none 0 0]) ?_ 2 _ rfl; (with_reducible repeat (first | refine blk_drewN ?_ _ | refine blk_drew ?_ | refine blk_alloc ?_ _)); refine blk_put (cs := #[.int .i64 t330, .int .i64 0, .bool false, .slice none 0 0]) ?_ 1 _ rfl; (with_reducible repeat (first | refine blk_drewN ?_ _ | refine blk_drew ?_ | refine blk_alloc ?_ _)); refine blk_put (cs := #[.int .i64 0, .int .i64 0, .bool false, .slice none 0 0]) ?_ 0 _ rfl; (with_reducible repeat (first | refine blk_drewN ?_ _ | refine blk_drew ?_ | refine blk_alloc ?_ _)); exact BK337.out⟩
                  have n6_ : Aside0 (Below w.heap.size w ((((w30.setCell ⟨gb337, 0, none⟩ (.int .i64 t330)).setCell ⟨gb337, 1, none⟩ (.int .i64 t331)).setCell ⟨gb337, 2, none⟩ (.bool t332)).setCell ⟨gb337, 3, none⟩ (.slice Ao32 t333.length co32))) := ⟨by repeat (first | (with_reducible first | exact HB.out | apply below_alloc | apply pw_below_drewN | apply below_drew1 | refine below_set ?_ GE337.out) | exact HB.out)⟩
                  (try clear HO_3)
                  (try clear HO_5)
                  (try clear HL325_3)
                  (try clear HO328)
                  (try clear HO335)
                  (try clear BK337)
                  (try clear HB)
                  generalize ((((w30.setCell ⟨gb337, 0, none⟩ (.int .i64 t330)).setCell ⟨gb337, 1, none⟩ (.int .i64 t331)).setCell ⟨gb337, 2, none⟩ (.bool t332)).setCell ⟨gb337, 3, none⟩ (.slice Ao32 t333.length co32)) = w33 at n0_ n1_ n2_ n3_ n4_ n5_ n6_ ⊢
                  have HO_3 := n0_
                  have HO_5 := n1_
                  have HL325_3 := n2_
                  have HO328 := n3_
                  have HO335 := n4_
                  have BK337 := n5_
                  have HB := n6_
                  clear n0_ n1_ n2_ n3_ n4_ n5_ n6_
                  have n0_ := Aside0.mk (Kd.S_drew HO_3.out)
                  have n1_ := Aside0.mk (Kd.R_drew HO_5.out)
                  have n2_ := Aside0.mk (Kd.R_drew HL325_3.out)
                  have n3_ := Aside0.mk (Kd.R_drew HO328.out)
                  have n4_ := Aside0.mk (Kd.R_drew HO335.out)
                  have n5_ := Aside0.mk (blk_drew BK337.out)
                  have n6_ := Aside0.mk (below_drew1 HB.out)
                  clear HO_3
                  clear HO_5
                  clear HL325_3
                  clear HO328
                  clear HO335
                  clear BK337
                  clear HB
                  have HO_3 := n0_
                  have HO_5 := n1_
                  have HL325_3 := n2_
                  have HO328 := n3_
                  have HO335 := n4_
                  have BK337 := n5_
                  have HB := n6_
                  clear n0_ n1_ n2_ n3_ n4_ n5_ n6_
                  have p340 : 0 ≤ (x6_2 : Int) := of_decide_eq_true (by first | (with_reducible assumption) | assumption)
                  have q340 : x6_2 < (t316.length : Int) := of_decide_eq_true (by first | (with_reducible assumption) | assumption)
                  obtain ⟨ad340, A340_3, c340_3, e340, hx340_0, hx340_1, hx340_2, hx340_3, hl340_3, hi340_3⟩ := at_T34 (Kd.S_reads' HO_3.out).2.2 x6_2 p340 q340
                  obtain rfl : ad325 = ad340 := (by injection e340)
                  obtain ⟨ce340, hce340, hMe340, hcc340⟩ := Kd.S_get HO_3.out z34 x6_2 p340 (by first | exact q340 | exact of_decide_eq_true (by first | (with_reducible assumption) | assumption) | (have e_ := (Kd.S_reads' HO_3.out).1; omega))
                  obtain ⟨ve340_3, rfl, ge340_3⟩ := k34_openM hMe340
                  have hv340_3 := hcc340 3 _ rfl
                  rw [add_field _ _ 3 (by omega)] at hv340_3
                  replace hv340_3 := Option.some.inj (hv340_3.symm.trans hx340_3)
                  rw [hv340_3] at ge340_3
                  have HL340_3 := Aside0.mk (show Kd.R (Kd.int .u8) 5 _ _ _ _ ((rd_T34 t316 x6_2).f3) from ge340_3)
                  clear hv340_3 ge340_3
                  clear hcc340 hce340
                  have HR340_3 := Aside0.mk hi340_3
                  have HC340_3 := Aside0.mk hl340_3
                  clear hi340_3 hl340_3
                  replace p340 := eq_true p340
                  replace q340 := eq_true q340
                  refine start_ (n := 21) (S := fun w' => w'.cell? ⟨gb337, 0, none⟩ = some (.int .i64 t330) ∧ w'.cell? ⟨gb337, 1, none⟩ = some (.int .i64 t331) ∧ w'.cell? ⟨gb337, 2, none⟩ = some (.bool t332) ∧ w'.cell? ⟨gb337, 3, none⟩ = some (.slice Ao32 t333.length co32) ∧ w'.cell? (ad325.add ((x6_2).toNat * 4)) = some (.int .i64 ((rd_T34 t316 x6_2).f0)) ∧ w'.cell? ⟨(ad325.add ((x6_2).toNat * 4)).block, (ad325.add ((x6_2).toNat * 4)).off + 1, none⟩ = some (.int .i64 ((rd_T34 t316 x6_2).f1)) ∧ w'.cell? ⟨(ad325.add ((x6_2).toNat * 4)).block, (ad325.add ((x6_2).toNat * 4)).off + 2, none⟩ = some (.bool ((rd_T34 t316 x6_2).f2)) ∧ w'.cell? ⟨(ad325.add ((x6_2).toNat * 4)).block, (ad325.add ((x6_2).toNat * 4)).off + 3, none⟩ = some (.slice A340_3 ((rd_T34 t316 x6_2).f3).length c340_3)) (ds := []) #[false, false, false, false, false, false, false, false, false, false, false, false, false, false, false, false, false, false, false, false, false] (by kernel_rfl) rfl rfl ⟨(blk_cell BK337.out 0).trans rfl, (blk_cell BK337.out 1).trans rfl, (blk_cell BK337.out 2).trans rfl, (blk_cell BK337.out 3).trans rfl, hx340_0, hx340_1, hx340_2, hx340_3⟩ (fun hHeld => ?_); refine with_tabW shutterlaw22_PieceJoin.tab14 shutterlaw22_PieceJoin.bits14 (fun HT_ HW_ => ?_)
                  generalize w33.drew = w34 at HO_3 HO_5 HL325_3 HO328 HO335 BK337 HB HL340_3 HR340_3 hx340_0 hx340_1 hx340_2 hx340_3 hHeld ⊢
                  refine pure_ (i := 0) (N := some 77) (v := ?_) (a' := ?_) #[true, false, false, false, false, false, false, false, false, false, false, false, false, false, false, false, false, false, false, false, false] rfl rfl (any_of HT_.out (by kernel_rfl)) (fun _ _ _ h => h) (Or.inl ⟨by rfl, ?_⟩) ?_ ?_
                  rotate_left
                  ·intro w'
                   go_simp
                   with_reducible rfl
                  rotate_left
                  ·simp only [Act.put, List.setIfInBounds_toArray, List.set_cons_zero, List.set_cons_succ, i64_w, i32_w]
                   rfl
                  refine pure_ (i := 1) (N := some 78) (v := ?_) (a' := ?_) #[true, true, false, false, false, false, false, false, false, false, false, false, false, false, false, false, false, false, false, false, false] rfl rfl (any_of HT_.out (by kernel_rfl)) (fun _ _ _ h => h) (Or.inl ⟨by rfl, ?_⟩) ?_ ?_
                  rotate_left
                  ·intro w'
                   go_simp
                   with_reducible rfl
                  rotate_left
                  ·simp only [Act.put, List.setIfInBounds_toArray, List.set_cons_zero, List.set_cons_succ, i64_w, i32_w]
                   rfl
                  refine pure_ (i := 2) (N := some 79) (v := ?_) (a' := ?_) #[true, true, true, false, false, false, false, false, false, false, false, false, false, false, false, false, false, false, false, false, false] rfl rfl (any_of HT_.out (by kernel_rfl)) (fun _ _ _ h => h) (Or.inl ⟨by rfl, ?_⟩) ?_ ?_
                  rotate_left
                  ·intro w'
                   go_simp
                   with_reducible rfl
                  rotate_left
                  ·simp only [Act.put, List.setIfInBounds_toArray, List.set_cons_zero, List.set_cons_succ, i64_w, i32_w]
                   rfl
                  refine pure_ (i := 3) (N := some 80) (v := ?_) (a' := ?_) #[true, true, true, true, false, false, false, false, false, false, false, false, false, false, false, false, false, false, false, false, false] rfl rfl (any_of HT_.out (by kernel_rfl)) (fun _ _ _ h => h) (Or.inl ⟨by rfl, ?_⟩) ?_ ?_
                  rotate_left
                  ·intro w'
                   go_simp
                   with_reducible rfl
                  rotate_left
                  ·simp only [Act.put, List.setIfInBounds_toArray, List.set_cons_zero, List.set_cons_succ, i64_w, i32_w]
                   rfl
                  refine pure_ (i := 4) (N := some 81) (v := ?_) (a' := ?_) #[true, true, true, true, true, false, false, false, false, false, false, false, false, false, false, false, false, false, false, false, false] rfl rfl (any_of HT_.out (by kernel_rfl)) (fun _ _ _ h => h) (Or.inl ⟨by rfl, ?_⟩) ?_ ?_
                  rotate_left
                  ·intro w'
                   go_simp
                   with_reducible rfl
                  rotate_left
                  ·simp only [Act.put, List.setIfInBounds_toArray, List.set_cons_zero, List.set_cons_succ, i64_w, i32_w]
                   rfl
                  refine pure_ (i := 5) (N := some 82) (v := ?_) (a' := ?_) #[true, true, true, true, true, true, false, false, false, false, false, false, false, false, false, false, false, false, false, false, false] rfl rfl (any_of HT_.out (by kernel_rfl)) (fun _ _ _ h => h) (Or.inl ⟨by rfl, ?_⟩) ?_ ?_
                  rotate_left
                  ·intro w'
                   go_simp
                   with_reducible rfl
                  rotate_left
                  ·simp only [Act.put, List.setIfInBounds_toArray, List.set_cons_zero, List.set_cons_succ, i64_w, i32_w]
                   rfl
                  refine pure_ (i := 6) (N := some 83) (v := ?_) (a' := ?_) #[true, true, true, true, true, true, true, false, false, false, false, false, false, false, false, false, false, false, false, false, false] rfl rfl (any_of HT_.out (by kernel_rfl)) (fun _ _ _ h => h) (Or.inl ⟨by rfl, ?_⟩) ?_ ?_
                  rotate_left
                  ·intro w'
                   go_simp
                   with_reducible rfl
                  rotate_left
                  ·simp only [Act.put, List.setIfInBounds_toArray, List.set_cons_zero, List.set_cons_succ, i64_w, i32_w]
                   rfl
                  refine pure_ (i := 8) (N := some 85) (v := ?_) (a' := ?_) #[true, true, true, true, true, true, true, false, true, false, false, false, false, false, false, false, false, false, false, false, false] rfl rfl (any_of HT_.out (by kernel_rfl)) (fun _ _ _ h => h) (Or.inl ⟨by rfl, ?_⟩) ?_ ?_
                  rotate_left
                  ·intro w'
                   go_simp
                   with_reducible rfl
                  rotate_left
                  ·simp only [Act.put, List.setIfInBounds_toArray, List.set_cons_zero, List.set_cons_succ, i64_w, i32_w]
                   rfl
                  refine pure_ (i := 9) (N := some 86) (v := ?_) (a' := ?_) #[true, true, true, true, true, true, true, false, true, true, false, false, false, false, false, false, false, false, false, false, false] rfl rfl (any_of HT_.out (by kernel_rfl)) (fun _ _ _ h => h) (Or.inl ⟨by rfl, ?_⟩) ?_ ?_
                  rotate_left
                  ·intro w'
                   go_simp
                   with_reducible rfl
                  rotate_left
                  ·simp only [Act.put, List.setIfInBounds_toArray, List.set_cons_zero, List.set_cons_succ, i64_w, i32_w]
                   rfl
                  refine pure_ (i := 10) (N := some 87) (v := ?_) (a' := ?_) #[true, true, true, true, true, true, true, false, true, true, true, false, false, false, false, false, false, false, false, false, false] rfl rfl (any_of HT_.out (by kernel_rfl)) (fun _ _ _ h => h) (Or.inl ⟨by rfl, ?_⟩) ?_ ?_
                  rotate_left
                  ·intro w'
                   go_simp
                   with_reducible rfl
                  rotate_left
                  ·simp only [Act.put, List.setIfInBounds_toArray, List.set_cons_zero, List.set_cons_succ, i64_w, i32_w]
                   rfl
                  refine take_ (i := 7) (N := some 84) (v := ?_) (a' := ?_) #[true, true, true, true, true, true, true, true, true, true, true, false, false, false, false, false, false, false, false, false, false] rfl rfl (take_ofW HT_.out HW_.out (by kernel_rfl)) (fun _ _ _ h => h) (Or.inl ⟨by rfl, ?_⟩) hHeld ?_ ?_
                  rotate_left
                  ·rintro w' ⟨s0, s1, s2, s3, s4, s5, s6, s7⟩
                   go_simp
                   with_reducible rfl
                  rotate_left
                  ·simp only [Act.put, List.setIfInBounds_toArray, List.set_cons_zero, List.set_cons_succ, i64_w, i32_w]
                   rfl
                  refine take_ (i := 11) (N := some 88) (v := ?_) (a' := ?_) #[true, true, true, true, true, true, true, true, true, true, true, true, false, false, false, false, false, false, false, false, false] rfl rfl (take_ofW HT_.out HW_.out (by kernel_rfl)) (fun _ _ _ h => h) (Or.inl ⟨by rfl, ?_⟩) hHeld ?_ ?_
                  rotate_left
                  ·rintro w' ⟨s0, s1, s2, s3, s4, s5, s6, s7⟩
                   go_simp
                   with_reducible rfl
                  rotate_left
                  ·simp only [Act.put, List.setIfInBounds_toArray, List.set_cons_zero, List.set_cons_succ, i64_w, i32_w]
                   rfl
                  refine one_ (i := 12) (N := some 89) #[true, true, true, true, true, true, true, true, true, true, true, true, true, false, false, false, false, false, false, false, false] rfl rfl (one_of HT_.out (by kernel_rfl)) (by decide) (fun K hK => ?_)
                  refine goes_ Tryd.func21 (by kernel_rfl) rfl #[.agg #[.int .i64 t330, .int .i64 t331, .bool t332, .slice Ao32 t333.length co32], .agg #[.int .i64 ((rd_T34 t316 x6_2).f0), .int .i64 ((rd_T34 t316 x6_2).f1), .bool ((rd_T34 t316 x6_2).f2), .slice A340_3 ((rd_T34 t316 x6_2).f3).length c340_3]] (by rfl) rfl rfl (by (try simp only [List.map_toArray, List.map_cons, List.map_nil]); first | done | rfl | (simp only [List.length_drop, List.length_take]; rfl)) ?_
                  with_reducible refine (piece_Same.calls kj12 t330 t331 t332 _ _ t333 ((rd_T34 t316 x6_2).f0) ((rd_T34 t316 x6_2).f1) ((rd_T34 t316 x6_2).f2) _ _ ((rd_T34 t316 x6_2).f3) true _ ?side1 ?side2 ?side3 ?side4 A23.out).mono ?_
                  (case side1 => repeat (first | exact (Kd.R_reads' HO335.out).2.2 | (with_reducible refine Kd.C_alloc ?_ _) | (with_reducible refine Kd.C_drewN ?_ _) | (with_reducible refine Kd.C_drew ?_)))
                  (case side2 => exact (Kd.R_reads' HO335.out).2.1)
                  (case side3 => repeat (first | exact (by repeat (first | (with_reducible exact HR340_3.out) | (with_reducible refine Kd.C_alloc ?_ _) | (with_reducible refine Kd.C_drewN ?_ _) | (with_reducible refine Kd.C_drew ?_) | exact HR340_3.out)) | (with_reducible refine Kd.C_alloc ?_ _) | (with_reducible refine Kd.C_drewN ?_ _) | (with_reducible refine Kd.C_drew ?_)))
                  (case side4 => exact HC340_3.out)
                  rintro e w35 ⟨rfl, hb⟩
                  have HS4_ := (hb.cell (World.block_lt_of_cell? _ _ (hHeld.2.2.2.2.1))).trans (hHeld.2.2.2.2.1)
                  have HS5_ := (hb.cell (World.block_lt_of_cell? _ _ (hHeld.2.2.2.2.2.1))).trans (hHeld.2.2.2.2.2.1)
                  have HS6_ := (hb.cell (World.block_lt_of_cell? _ _ (hHeld.2.2.2.2.2.2.1))).trans (hHeld.2.2.2.2.2.2.1)
                  have HS7_ := (hb.cell (World.block_lt_of_cell? _ _ (hHeld.2.2.2.2.2.2.2))).trans (hHeld.2.2.2.2.2.2.2)
                  refine ⟨_, rfl, ?_⟩
                  have n0_ := Aside0.mk (Kd.S_below (by (with_reducible repeat (first | apply Kd.S_alloc | apply Kd.S_drewN | apply Kd.S_drew)); exact HO_3.out) hb)
                  have n1_ := Aside0.mk (Kd.R_below (by (with_reducible repeat (first | apply Kd.R_alloc | apply Kd.R_drewN | apply Kd.R_drew)); exact HO_5.out) hb)
                  have n2_ := Aside0.mk (Kd.R_below (by (with_reducible repeat (first | apply Kd.R_alloc | apply Kd.R_drewN | apply Kd.R_drew)); exact HL325_3.out) hb)
                  have n3_ := Aside0.mk (Kd.R_below (by (with_reducible repeat (first | apply Kd.R_alloc | apply Kd.R_drewN | apply Kd.R_drew)); exact HO328.out) hb)
                  have n4_ := Aside0.mk (Kd.R_below (by (with_reducible repeat (first | apply Kd.R_alloc | apply Kd.R_drewN | apply Kd.R_drew)); exact HO335.out) hb)
                  have n5_ := Aside0.mk (Kd.R_below (by (with_reducible repeat (first | apply Kd.R_alloc | apply Kd.R_drewN | apply Kd.R_drew)); exact HL340_3.out) hb)
                  have n6_ := Aside0.mk (blk_below (g := gb337) (o := .cells #[.int .i64 t330, .int .i64 t331, .bool t332, .slice Ao32 t333.length co32] 34 (0, 0)) (by (with_reducible repeat (first | refine blk_drewN ?_ _ | refine blk_drew ?_ | refine blk_alloc ?_ _)); exact BK337.out) hb)
                  have n7_ := Aside0.mk (Kd.C_below (by repeat (first | (with_reducible exact HR340_3.out) | (with_reducible refine Kd.C_alloc ?_ _) | (with_reducible refine Kd.C_drewN ?_ _) | (with_reducible refine Kd.C_drew ?_) | exact HR340_3.out)) hb)
                  have n8_ := Aside0.mk (below_step (by repeat (first | (with_reducible first | exact HB.out | apply below_alloc | apply pw_below_drewN | apply below_drew1 | refine below_set ?_ GE337.out) | exact HB.out)) hb)
                  clear HO_3
                  clear HO_5
                  clear HL325_3
                  clear HO328
                  clear HO335
                  clear HL340_3
                  clear BK337
                  clear HR340_3
                  clear HB
                  have HO_3 := n0_
                  have HO_5 := n1_
                  have HL325_3 := n2_
                  have HO328 := n3_
                  have HO335 := n4_
                  have HL340_3 := n5_
                  have BK337 := n6_
                  have HR340_3 := n7_
                  have HB := n8_
                  clear n0_ n1_ n2_ n3_ n4_ n5_ n6_ n7_ n8_
                  (try clear hb)
                  (try clear hb2)
                  (try clear hk)
                  (try clear hi)
                  refine hK.out _ _ ⟨(blk_cell BK337.out 0).trans rfl, (blk_cell BK337.out 1).trans rfl, (blk_cell BK337.out 2).trans rfl, (blk_cell BK337.out 3).trans rfl, HS4_, HS5_, HS6_, HS7_⟩ (fun hHeld => ?_)
                  clear hK K
                  refine norm_ (a' := ?_) ?_ ?_
                  rotate_left
                  ·show Act.put _ (some 89) _ = _
                   simp only [Act.put, List.setIfInBounds_toArray, List.set_cons_zero, List.set_cons_succ, i64_w, i32_w]
                   rfl
                  refine pure_ (i := 13) (N := some 90) (v := ?_) (a' := ?_) #[true, true, true, true, true, true, true, true, true, true, true, true, true, true, false, false, false, false, false, false, false] rfl rfl (any_of HT_.out (by kernel_rfl)) (fun _ _ _ h => h) (Or.inl ⟨by rfl, ?_⟩) ?_ ?_
                  rotate_left
                  ·intro w'
                   go_simp
                   with_reducible rfl
                  rotate_left
                  ·simp only [Act.put, List.setIfInBounds_toArray, List.set_cons_zero, List.set_cons_succ, i64_w, i32_w]
                   rfl
                  refine pure_ (i := 14) (N := some 91) (v := ?_) (a' := ?_) #[true, true, true, true, true, true, true, true, true, true, true, true, true, true, true, false, false, false, false, false, false] rfl rfl (any_of HT_.out (by kernel_rfl)) (fun _ _ _ h => h) (Or.inl ⟨by rfl, ?_⟩) ?_ ?_
                  rotate_left
                  ·intro w'
                   go_simp
                   with_reducible rfl
                  rotate_left
                  ·simp only [Act.put, List.setIfInBounds_toArray, List.set_cons_zero, List.set_cons_succ, i64_w, i32_w]
                   rfl
                  refine pure_ (i := 15) (N := some 92) (v := ?_) (a' := ?_) #[true, true, true, true, true, true, true, true, true, true, true, true, true, true, true, true, false, false, false, false, false] rfl rfl (any_of HT_.out (by kernel_rfl)) (fun _ _ _ h => h) (Or.inl ⟨by rfl, ?_⟩) ?_ ?_
                  rotate_left
                  ·intro w'
                   go_simp
                   with_reducible rfl
                  rotate_left
                  ·simp only [Act.put, List.setIfInBounds_toArray, List.set_cons_zero, List.set_cons_succ, i64_w, i32_w]
                   rfl
                  refine pure_ (i := 16) (N := some 93) (v := ?_) (a' := ?_) #[true, true, true, true, true, true, true, true, true, true, true, true, true, true, true, true, true, false, false, false, false] rfl rfl (any_of HT_.out (by kernel_rfl)) (fun _ _ _ h => h) (Or.inl ⟨by rfl, ?_⟩) ?_ ?_
                  rotate_left
                  ·intro w'
                   go_simp
                   with_reducible rfl
                  rotate_left
                  ·simp only [Act.put, List.setIfInBounds_toArray, List.set_cons_zero, List.set_cons_succ, i64_w, i32_w]
                   rfl
                  refine pure_ (i := 17) (N := some 94) (v := ?_) (a' := ?_) #[true, true, true, true, true, true, true, true, true, true, true, true, true, true, true, true, true, true, false, false, false] rfl rfl (any_of HT_.out (by kernel_rfl)) (fun _ _ _ h => h) (Or.inl ⟨by rfl, ?_⟩) ?_ ?_
                  rotate_left
                  ·intro w'
                   go_simp
                   with_reducible rfl
                  rotate_left
                  ·simp only [Act.put, List.setIfInBounds_toArray, List.set_cons_zero, List.set_cons_succ, i64_w, i32_w]
                   rfl
                  refine pure_ (i := 18) (N := some 95) (v := ?_) (a' := ?_) #[true, true, true, true, true, true, true, true, true, true, true, true, true, true, true, true, true, true, true, false, false] rfl rfl (any_of HT_.out (by kernel_rfl)) (fun _ _ _ h => h) (Or.inl ⟨by rfl, ?_⟩) ?_ ?_
                  rotate_left
                  ·intro w'
                   go_simp
                   with_reducible rfl
                  rotate_left
                  ·simp only [Act.put, List.setIfInBounds_toArray, List.set_cons_zero, List.set_cons_succ, i64_w, i32_w]
                   rfl
                  refine pure_ (i := 19) (N := some 96) (v := ?_) (a' := ?_) #[true, true, true, true, true, true, true, true, true, true, true, true, true, true, true, true, true, true, true, true, false] rfl rfl (any_of HT_.out (by kernel_rfl)) (fun _ _ _ h => h) (Or.inl ⟨by rfl, ?_⟩) ?_ ?_
                  rotate_left
                  ·intro w'
                   go_simp
                   with_reducible rfl
                  rotate_left
                  ·simp only [Act.put, List.setIfInBounds_toArray, List.set_cons_zero, List.set_cons_succ, i64_w, i32_w]
                   rfl
                  refine pure_ (i := 20) (N := some 97) (v := ?_) (a' := ?_) #[true, true, true, true, true, true, true, true, true, true, true, true, true, true, true, true, true, true, true, true, true] rfl rfl (any_of HT_.out (by kernel_rfl)) (fun _ _ _ h => h) (Or.inl ⟨by rfl, ?_⟩) ?_ ?_
                  rotate_left
                  ·intro w'
                   go_simp
                   with_reducible rfl
                  rotate_left
                  ·simp only [Act.put, List.setIfInBounds_toArray, List.set_cons_zero, List.set_cons_succ, i64_w, i32_w]
                   rfl
                  refine done_ (done_of HT_.out (by kernel_rfl)) ?_
                  have hcz36_0 : w35.cell? ⟨gb337, 0, none⟩ = some (.int .i64 t330) := (blk_cell BK337.out 0).trans rfl
                  have hcz36_1 : w35.cell? ⟨gb337, 1, none⟩ = some (.int .i64 t331) := (blk_cell BK337.out 1).trans rfl
                  have hcz36_2 : w35.cell? ⟨gb337, 2, none⟩ = some (.bool t332) := (blk_cell BK337.out 2).trans rfl
                  have hcz36_3 : w35.cell? ⟨gb337, 3, none⟩ = some (.slice Ao32 t333.length co32) := (blk_cell BK337.out 3).trans rfl
                  have hfz36_0 := blk_frozen BK337.out 0
                  have hfz36_1 := blk_frozen BK337.out 1
                  have hfz36_2 := blk_frozen BK337.out 2
                  have hfz36_3 := blk_frozen BK337.out 3
                  try go_wp2_with (first | ((with_reducible refine gate_builtin (b := .append) (xs := #[.tmp 98, .tmp 100]) rfl ?_); (try (refine gate_guard (by rfl) ?_; dsimp only)); at_builtin; refine Kd.R_append_rows (Kd.int .u8) (w0 := w) w.heap.size rfl (.tmp 98) (.tmp 100) 22 5 (.int .u8 0) 1 rfl Tryd.underlying22 info5 rfl (by decide) (by omega) u5 x5_2 t333 _ _ _ (fun k_ => some k_ ≠ (.slice Ao28 t326.length co28 : Value).ownBlock ∧ some k_ ≠ (.slice Ao32 t333.length co32 : Value).ownBlock) (fun _ => False) rfl rfl ?aO ?aR (fun _ _ h => h) (fun _ h => h.elim) ?aF ?aB ?aS ?aL ?_; (case aR => repeat (first | exact (Kd.R_reads' HO335.out).2.2 | (with_reducible refine Kd.C_alloc ?_ _) | (with_reducible refine Kd.C_drewN ?_ _) | (with_reducible refine Kd.C_drew ?_))); (case aB => exact (by repeat (first | (with_reducible first | exact HB.out | apply below_alloc | apply pw_below_drewN | apply below_drew1 | refine below_set ?_ GE337.out) | exact HB.out))); (case aF => exact (fun k_ hk => ⟨Kd.fresh' (Kd.R_lt (by (with_reducible repeat (first | apply Kd.R_alloc | apply Kd.R_drewN | apply Kd.R_drew)); exact HO328.out)) k_ hk, Kd.fresh' (Kd.R_lt (by (with_reducible repeat (first | apply Kd.R_alloc | apply Kd.R_drewN | apply Kd.R_drew)); exact HO335.out)) k_ hk⟩)); (case aO => exact (by (with_reducible repeat (first | apply Kd.R_alloc | apply Kd.R_drewN | apply Kd.R_drew)); exact HO_5.out)); (case aS => exact (below_size (by repeat (first | (with_reducible first | exact HB.out | apply below_alloc | apply pw_below_drewN | apply below_drew1 | refine below_set ?_ GE337.out) | exact HB.out)))); (case aL => have := LMc26.out; omega); intro v343 w37 ho hb hg hat; rw [← Ny342.out] at ho; have n0_ := Aside0.mk (Kd.S_after (ok := (fun k_ => some k_ ≠ (.slice Ao28 t326.length co28 : Value).ownBlock ∧ some k_ ≠ (.slice Ao32 t333.length co32 : Value).ownBlock ∧ k_ ≠ gb337)) (by (with_reducible repeat (first | apply Kd.S_alloc | apply Kd.S_drewN | apply Kd.S_drew)); exact Kd.S_mono HO_3.out (fun _ hk => ⟨⟨hk.2.1, ⟨hk.2.2.1, hk.2.2.2⟩⟩, hk.1⟩)) hg hat); have n1_ := Aside0.mk (Kd.R_after (ok := (fun k_ => some k_ ≠ (.slice (some ad325) t316.length co14 : Value).ownBlock ∧ some k_ ≠ (.slice Ao28 t326.length co28 : Value).ownBlock ∧ some k_ ≠ (.slice Ao32 t333.length co32 : Value).ownBlock)) (by (with_reducible repeat (first | apply Kd.R_alloc | apply Kd.R_drewN | apply Kd.R_drew)); exact Kd.R_mono HL325_3.out (fun _ hk => ⟨⟨hk.1, ⟨hk.2.2.1, hk.2.2.2⟩⟩, hk.2.1⟩)) hg hat); have n2_ := Aside0.mk (Kd.R_after (ok := (fun k_ => some k_ ≠ (.slice A325_3 ((rd_T34 t316 x6_2).f3).length c325_3 : Value).ownBlock ∧ some k_ ≠ (.slice Ao32 t333.length co32 : Value).ownBlock)) (by (with_reducible repeat (first | apply Kd.R_alloc | apply Kd.R_drewN | apply Kd.R_drew)); exact Kd.R_mono HO328.out (fun _ hk => ⟨⟨hk.2.1, hk.2.2⟩, hk.1⟩)) hg hat); have n3_ := Aside0.mk (Kd.R_after (ok := (fun k_ => some k_ ≠ (.slice A325_3 ((rd_T34 t316 x6_2).f3).length c325_3 : Value).ownBlock ∧ some k_ ≠ (.slice Ao28 t326.length co28 : Value).ownBlock)) (by (with_reducible repeat (first | apply Kd.R_alloc | apply Kd.R_drewN | apply Kd.R_drew)); exact Kd.R_mono HO335.out (fun _ hk => ⟨⟨hk.2.1, hk.2.2⟩, hk.1⟩)) hg hat); have n4_ := Aside0.mk (blk_grown (g := gb337) (o := .cells #[.int .i64 t330, .int .i64 t331, .bool t332, .slice Ao32 t333.length co32] 34 (0, 0)) (by (with_reducible repeat (first | refine blk_drewN ?_ _ | refine blk_drew ?_ | refine blk_alloc ?_ _)); exact BK337.out) hg (Kd.R_ne HO_5.out BK337.out (by decide))); have n5_ := Aside0.mk (Kd.R_after (ok := (fun k_ => some k_ ≠ (.slice (some ad325) t316.length co14 : Value).ownBlock ∧ some k_ ≠ (.slice Ao28 t326.length co28 : Value).ownBlock ∧ some k_ ≠ (.slice Ao32 t333.length co32 : Value).ownBlock ∧ k_ ≠ gb337)) (by (with_reducible repeat (first | apply Kd.R_alloc | apply Kd.R_drewN | apply Kd.R_drew)); exact Kd.R_mono HL340_3.out (fun _ hk => ⟨⟨hk.2, ⟨hk.1.2.1, ⟨hk.1.2.2.1, hk.1.2.2.2⟩⟩⟩, hk.1.1⟩)) hg hat); have n6_ := Aside0.mk (hb); have n7_ := Aside0.mk (ho); clear HO_3; clear HL325_3; clear HO328; clear HO335; clear BK337; clear HL340_3; clear HB; clear HO_5; have HO_3 := n0_; have HL325_3 := n1_; have HO328 := n2_; have HO335 := n3_; have BK337 := n4_; have HL340_3 := n5_; have HB := n6_; have HO344 := n7_; clear n0_ n1_ n2_ n3_ n4_ n5_ n6_ n7_; clear ho hb hg hat))
                  (try simp only [add_plain])
                  go_roundg kj12
                  case measure => have := HJ1.out; have := HK2.out; have := HJ12.out; omega
                  case rel => exact ⟨(y342), (wrap64 (x6_2 + 1)), (by first | rfl | (simp; done) | (simp [*]; done)), H', ⟨by have := HJ1.out; have := HK2.out; have := HJ12.out; omega⟩, ⟨by (with_reducible repeat (first | apply Kd.S_alloc | apply Kd.S_drewN | apply Kd.S_drew)); exact Kd.S_mono HO_3.out (fun _ hk => hk.2)⟩, ⟨by (with_reducible repeat (first | apply Kd.R_alloc | apply Kd.R_drewN | apply Kd.R_drew)); exact Kd.R_mono HO344.out (fun _ hk => trivial)⟩, ⟨by repeat (first | (with_reducible first | exact HB.out | apply below_alloc | apply pw_below_drewN | apply below_drew1 | refine below_set ?_ GE337.out) | exact HB.out)⟩⟩
                 ·rw [if_neg c26] at H
                  exact absurd H (by simp)
               ·replace c24 := Bool.eq_false_iff.mpr c24
                subst c24
                have H1 : (none) = some r := by rw [if_neg (show ¬ (false = true) by decide)] at H; exact H
                clear H
                have H := H1
                clear H1
                exact absurd H (by simp)
              ·have H1 : (none) = some r := by rw [if_neg (show ¬ (some q339).isNone = true by simp)] at H; exact H
               clear H
               have H := H1
               clear H1
               try simp only [errW_none, errW_some]
               exact absurd H (by simp)
             ·have H1 : (none) = some r := by rw [if_neg (show ¬ (some q338).isNone = true by simp)] at H; exact H
              clear H
              have H := H1
              clear H1
              try simp only [errW_none, errW_some]
              exact absurd H (by simp)
            ·rw [if_neg c20] at H
             exact absurd H (by simp)
           ·rw [if_neg c19] at H
            exact absurd H (by simp)
       ·rw [if_neg c12] at H
        have c12b0 : decide (x6_2 < (t316.length : Int)) = false := decide_eq_false c12
        clear c12
        replace H := Option.bind_eq_some_iff.mp H
        obtain ⟨t321, A380, H⟩ := H
        replace H : (some t321) = some r := H
        have A38 := Aside0.mk A380
        clear A380
        obtain rfl := Option.some.inj H
        obtain ⟨Ao39, co39, eo39⟩ := Kd.S_slice HO_3.out
        subst eo39
        obtain ⟨Ao40, co40, eo40⟩ := Kd.R_slice HO_5.out
        subst eo40
        go_wp2_with (first | ((with_reducible refine gate_callee (f := 16) rfl ?_); refine goesL_ (some 104) rfl rfl Tryd.func16 (by kernel_rfl) rfl #[.slice Ao40 x5_2.length co40, .slice A0 l0.length c0] rfl (by (try simp only [List.map_toArray, List.map_cons, List.map_nil]); first | done | rfl | (simp only [List.length_drop, List.length_take]; rfl)) ?_; (with_reducible refine (shutterref01_Same.calls k2 _ _ x5_2 _ _ l0 t321 _ ?side1 ?side2 ?side3 ?side4 A38.out).mono ?_); (case side1 => repeat (first | exact (Kd.R_reads' HO_5.out).2.2 | (with_reducible refine Kd.C_alloc ?_ _) | (with_reducible refine Kd.C_drewN ?_ _) | (with_reducible refine Kd.C_drew ?_))); (case side2 => exact (Kd.R_reads' HO_5.out).2.1); (case side3 => repeat (first | exact (Kd.C_below HR0.out HB.out) | (with_reducible refine Kd.C_alloc ?_ _) | (with_reducible refine Kd.C_drewN ?_ _) | (with_reducible refine Kd.C_drew ?_))); (case side4 => exact HC0.out); rintro e w' ⟨rfl, ⟨nd, rfl⟩⟩; refine ⟨_, rfl, ?_⟩))
        go_ret
        exact ⟨by first | rfl | (simp [errW_none, errW_some] <;> rfl) | (simp [*, errW_none, errW_some] <;> rfl), by repeat (first | (with_reducible first | exact HB.out | apply below_alloc | apply pw_below_drewN | apply below_drew1) | exact HB.out)⟩
    ·have H1 : (some ((t316.length : Int) == 0)) = some r := by rw [if_neg (show ¬ (some q320).isNone = true by simp)] at H; exact H
     clear H
     have H := H1
     clear H1
     try simp only [errW_none, errW_some]
     obtain rfl := Option.some.inj H
     go_wp2_with (first | ((with_reducible refine gate_callee (f := 10) rfl ?_); refine goesL_ (some 21) rfl rfl Tryd.func10 (by kernel_rfl) rfl #[.slice A0 l0.length c0] rfl (by (try simp only [List.map_toArray, List.map_cons, List.map_nil]); first | done | rfl | (simp only [List.length_drop, List.length_take]; rfl)) ?_; (with_reducible refine (piece_Cut.calls _ _ l0 t316 (some q320) _ ?side1 ?side2 A10.out).mono ?_); (case side1 => repeat (first | exact (Kd.C_below HR0.out HB.out) | (with_reducible refine Kd.C_alloc ?_ _) | (with_reducible refine Kd.C_drewN ?_ _) | (with_reducible refine Kd.C_drew ?_))); (case side2 => exact HC0.out); rintro e w41 ⟨v318, rfl, ho0, hb⟩; refine ⟨_, rfl, ?_⟩; have n0_ := Aside0.mk (Kd.S_lower ho0 (below_size (by repeat (first | (with_reducible first | exact HB.out | apply below_alloc | apply pw_below_drewN | apply below_drew1) | exact HB.out)))); have n1_ := Aside0.mk (below_step (by repeat (first | (with_reducible first | exact HB.out | apply below_alloc | apply pw_below_drewN | apply below_drew1) | exact HB.out)) hb); clear HB; have HO319 := n0_; have HB := n1_; clear n0_ n1_; (try clear hb); (try clear hb2); (try clear hk); (try clear hi); (try clear ho0); (try simp only [errW_none, errW_some]); obtain ⟨Ao42, co42, eo42⟩ := Kd.S_slice HO319.out; subst eo42))
     go_ret
     exact ⟨by first | rfl | (simp [errW_none, errW_some] <;> rfl) | (simp [*, errW_none, errW_some] <;> rfl), by repeat (first | (with_reducible first | exact HB.out | apply below_alloc | apply pw_below_drewN | apply below_drew1) | exact HB.out)⟩

/-- THE ONE PURE STATEMENT of shutterlaw22_PieceJoin: yours. -/
def shutterlaw22_PieceJoin.Pure : Prop := ∀ (l0 : List Int), l0.length ≤ maxLen → l0.length * 1 ≤ 140737488351232 → (∀ x ∈ l0, (Lit.int .u8 x).wf = true) → ∃ k, shutterlaw22_PieceJoin.f k l0 = some true
theorem shutterlaw22_PieceJoin.walk (P : shutterlaw22_PieceJoin.Pure) (a0 : Option Addr) (len0 cap0 : Nat) (z0 : List Int) (w : World) (hGl : Aside0 (Code.Gl w)) (w0 : (a0 = none ∧ len0 = 0 ∧ cap0 = 0 ∧ z0 = []) ∨ ∃ x, a0 = some x ∧ len0 ≤ cap0 ∧ cap0 ≤ maxLen ∧ z0.length = cap0 ∧ (∀ i, i < z0.length → w.cell? (x.add i) = some (.int .u8 (z0.getD i 0))) ∧ ∀ n ∈ z0, (Lit.int .u8 n).wf = true) (y0 : len0 * 1 ≤ 140737488351232) :
  Calls Tryd.prog 5 #[.slice a0 len0 cap0] w fun e w' => e = .returned (.bool true) ∧ Below w.heap.size w w' := by
 obtain ⟨l0, rfl, hr0, hm0, hw0, hc0⟩ := ReadsInt.ofRowC w0
 obtain ⟨k, h⟩ := P l0 hm0 y0 hw0
 refine (shutterlaw22_PieceJoin.calls k _ _ l0 true w hGl (Kd.C_of_reads (d := (0 : Int)) (h1 := fun _ => rfl) hr0) hc0 h).mono ?_
 rintro e w' ⟨rfl, hd⟩
 exact ⟨rfl, hd⟩

end Go.Proofs.YtfmlndkibnjbmaaDoor.YPiece

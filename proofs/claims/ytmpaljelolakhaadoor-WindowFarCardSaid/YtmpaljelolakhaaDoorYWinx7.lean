-- Own text, made by this session out of the translation by wip/tools/xprint.sh: Lean functions with the answers of Go functions, and their walks.
import Derived.Test.YtmpaljelolakhaaDoorYWinx0
import Derived.Test.YtmpaljelolakhaaDoorYWinx2
namespace Go.Proofs.YtmpaljelolakhaaDoor.YWin
open Go.RowKit Go.Proofs.YtmpaljelolakhaaDoorW.PrintWords Go.Proofs.YtmpaljelolakhaaDoorW.PrintLast Go.Proofs.YtmpaljelolakhaaDoorW.PrintMore
attribute [local go_sem] max2_int min2_int max_two min_two max_three min_three max_four min_four   -- for this text's walks alone
set_option linter.unusedVariables false
set_option linter.unusedSimpArgs false

/-! ### shutterlaw20_WindowNear: function 5 -/
mutual
def shutterlaw20_WindowNear.j0 : Nat → List Int → Bool → Option (Bool)
  | 0, _, _ => none
  | k + 1, x0, x16 => if x16 = true then ((shutterlaw20_awake.f k).bind fun t186 => (some t186)) else (if 65 ≤ 281474976710656 then (shutterlaw20_WindowNear.l0 k x0 (List.replicate 65 false) 0 0 0) else (none))
def shutterlaw20_WindowNear.l0 : Nat → List Int → List Bool → Int → Int → Int → Option (Bool)
  | 0, _, _, _, _, _ => none
  | k + 1, x0, x4, x5, x188000, x188001 => if x5 < (x0.length : Int) then (if 0 ≤ x5 then ((window_Let.f k x188000 x188001 (wrap64 (1 + (wrap64 (Int.tmod (rd x0 x5) 64))))).bind fun bt192 => (if bt192.2.2.isNone = true then (if 0 ≤ (wrap64 (1 + (wrap64 (Int.tmod (rd x0 x5) 64)))) then (if (wrap64 (1 + (wrap64 (Int.tmod (rd x0 x5) 64)))) < (x4.length : Int) then (if (true == (rdOf false x4 (wrap64 (1 + (wrap64 (Int.tmod (rd x0 x5) 64)))))) = true then (some false) else (shutterlaw20_WindowNear.l1 k x0 (x4.set ((wrap64 (1 + (wrap64 (Int.tmod (rd x0 x5) 64)))) : Int).toNat true) x5 1 bt192.1 bt192.2.1)) else (none)) else (none)) else (if 0 ≤ (wrap64 (1 + (wrap64 (Int.tmod (rd x0 x5) 64)))) then (if (wrap64 (1 + (wrap64 (Int.tmod (rd x0 x5) 64)))) < (x4.length : Int) then (if (false == (rdOf false x4 (wrap64 (1 + (wrap64 (Int.tmod (rd x0 x5) 64)))))) = true then (some false) else (shutterlaw20_WindowNear.l1 k x0 (x4.set ((wrap64 (1 + (wrap64 (Int.tmod (rd x0 x5) 64)))) : Int).toNat true) x5 1 bt192.1 bt192.2.1)) else (none)) else (none)))) else (none)) else (some true)
def shutterlaw20_WindowNear.l1 : Nat → List Int → List Bool → Int → Int → Int → Int → Option (Bool)
  | 0, _, _, _, _, _, _ => none
  | k + 1, x0, x4, x5, x9, x188000, x188001 => if x9 ≤ 64 then ((window_Has.f x188000 x188001 x9).bind fun t199 => (if 0 ≤ x9 then (if x9 < (x4.length : Int) then (if (t199 != (rdOf false x4 x9)) = true then (some false) else (shutterlaw20_WindowNear.l1 k x0 x4 x5 (wrap64 (x9 + 1)) x188000 x188001)) else (none)) else (none))) else (shutterlaw20_WindowNear.l0 k x0 x4 (wrap64 (x5 + 1)) x188000 x188001)
end
def shutterlaw20_WindowNear.f (k : Nat) (l0 : List Int) : Option (Bool) := (shutterlaw20_awake.f k).bind fun t185 => (if t185 = true then (shutterlaw20_WindowNear.j0 k l0 (decide ((l0.length : Int) > 200))) else (shutterlaw20_WindowNear.j0 k l0 true))
theorem shutterlaw20_WindowNear.mono_l : ∀ k, (∀ y0 y1, LeO (shutterlaw20_WindowNear.j0 k y0 y1) (shutterlaw20_WindowNear.j0 (k + 1) y0 y1)) ∧ (∀ y0 y1 y2 y3 y4, LeO (shutterlaw20_WindowNear.l0 k y0 y1 y2 y3 y4) (shutterlaw20_WindowNear.l0 (k + 1) y0 y1 y2 y3 y4)) ∧ (∀ y0 y1 y2 y3 y4 y5, LeO (shutterlaw20_WindowNear.l1 k y0 y1 y2 y3 y4 y5) (shutterlaw20_WindowNear.l1 (k + 1) y0 y1 y2 y3 y4 y5))
  | 0 => ⟨fun _ _ r h => by simp [shutterlaw20_WindowNear.j0] at h, fun _ _ _ _ _ r h => by simp [shutterlaw20_WindowNear.l0] at h, fun _ _ _ _ _ _ r h => by simp [shutterlaw20_WindowNear.l1] at h⟩
  | k + 1 => by
    obtain ⟨ih0, ih1, ih2⟩ := shutterlaw20_WindowNear.mono_l k
    refine ⟨?_, ?_, ?_⟩
    · intro y0 y1
      unfold shutterlaw20_WindowNear.j0
      repeat' first
      | (with_reducible exact ih0 _ _)
      | (with_reducible exact ih1 _ _ _ _ _)
      | (with_reducible exact ih2 _ _ _ _ _ _)
      | (with_reducible exact shutterlaw20_awake.mono _)
      | (with_reducible exact window_Let.mono _ _ _ _)
      | (with_reducible exact LeO.refl _)
      | (with_reducible exact LeO.none _)
      | (with_reducible refine LeO.ite ?_ ?_)
      | (with_reducible refine LeO.bind ?_ (fun _ => ?_))
      | exact ih0 _ _
      | exact ih1 _ _ _ _ _
      | exact ih2 _ _ _ _ _ _
      | exact shutterlaw20_awake.mono _
      | exact window_Let.mono _ _ _ _
      | exact LeO.none _
      | refine LeO.ite ?_ ?_
      | refine LeO.bind ?_ (fun _ => ?_)
    · intro y0 y1 y2 y3 y4
      unfold shutterlaw20_WindowNear.l0
      repeat' first
      | (with_reducible exact ih0 _ _)
      | (with_reducible exact ih1 _ _ _ _ _)
      | (with_reducible exact ih2 _ _ _ _ _ _)
      | (with_reducible exact shutterlaw20_awake.mono _)
      | (with_reducible exact window_Let.mono _ _ _ _)
      | (with_reducible exact LeO.refl _)
      | (with_reducible exact LeO.none _)
      | (with_reducible refine LeO.ite ?_ ?_)
      | (with_reducible refine LeO.bind ?_ (fun _ => ?_))
      | exact ih0 _ _
      | exact ih1 _ _ _ _ _
      | exact ih2 _ _ _ _ _ _
      | exact shutterlaw20_awake.mono _
      | exact window_Let.mono _ _ _ _
      | exact LeO.none _
      | refine LeO.ite ?_ ?_
      | refine LeO.bind ?_ (fun _ => ?_)
    · intro y0 y1 y2 y3 y4 y5
      unfold shutterlaw20_WindowNear.l1
      repeat' first
      | (with_reducible exact ih0 _ _)
      | (with_reducible exact ih1 _ _ _ _ _)
      | (with_reducible exact ih2 _ _ _ _ _ _)
      | (with_reducible exact shutterlaw20_awake.mono _)
      | (with_reducible exact window_Let.mono _ _ _ _)
      | (with_reducible exact LeO.refl _)
      | (with_reducible exact LeO.none _)
      | (with_reducible refine LeO.ite ?_ ?_)
      | (with_reducible refine LeO.bind ?_ (fun _ => ?_))
      | exact ih0 _ _
      | exact ih1 _ _ _ _ _
      | exact ih2 _ _ _ _ _ _
      | exact shutterlaw20_awake.mono _
      | exact window_Let.mono _ _ _ _
      | exact LeO.none _
      | refine LeO.ite ?_ ?_
      | refine LeO.bind ?_ (fun _ => ?_)
theorem shutterlaw20_WindowNear.mono : ∀ a0 k, LeO (shutterlaw20_WindowNear.f k a0) (shutterlaw20_WindowNear.f (k + 1) a0) := by
  intro a0 k
  obtain ⟨ih0, ih1, ih2⟩ := shutterlaw20_WindowNear.mono_l k
  unfold shutterlaw20_WindowNear.f
  repeat' first
      | (with_reducible exact ih0 _ _)
      | (with_reducible exact ih1 _ _ _ _ _)
      | (with_reducible exact ih2 _ _ _ _ _ _)
      | (with_reducible exact shutterlaw20_awake.mono _)
      | (with_reducible exact window_Let.mono _ _ _ _)
      | (with_reducible exact LeO.refl _)
      | (with_reducible exact LeO.none _)
      | (with_reducible refine LeO.ite ?_ ?_)
      | (with_reducible refine LeO.bind ?_ (fun _ => ?_))
      | exact ih0 _ _
      | exact ih1 _ _ _ _ _
      | exact ih2 _ _ _ _ _ _
      | exact shutterlaw20_awake.mono _
      | exact window_Let.mono _ _ _ _
      | exact LeO.none _
      | refine LeO.ite ?_ ?_
      | refine LeO.bind ?_ (fun _ => ?_)
def shutterlaw20_WindowNear.T17 : Bool × List (List Nat × List Nat) := (true, [([], []), ([], []), ([0, 1], [0, 1]), ([], []), ([], []), ([3, 4], [3, 4]), ([5], [5]), ([2, 6], [2, 6])])
def shutterlaw20_WindowNear.B17 : List Nat := [0, 0, 3, 0, 0, 24, 56, 127]
theorem shutterlaw20_WindowNear.tab17 : rtab .any (opsOf Tryd.f5 17) = shutterlaw20_WindowNear.T17 := by kernel_rfl
theorem shutterlaw20_WindowNear.bits17 : waitsOk shutterlaw20_WindowNear.T17.2 shutterlaw20_WindowNear.B17 = true := by kernel_rfl
set_option maxHeartbeats 8000000 in
set_option maxRecDepth 100000 in
theorem shutterlaw20_WindowNear.calls (k : Nat) (A0 : Option Addr) (c0 : Nat) (l0 : List Int) (r : Bool) (w : World) (hGl : Aside0 (Code.Gl w)) (hr0 : Kd.C (Kd.int .u8) w A0 l0.length l0) (hc0 : l0.length ≤ c0) (h : shutterlaw20_WindowNear.f k l0 = some r) :
    Calls Tryd.prog 5 #[.slice A0 l0.length c0] w fun e w' => e = .returned (.bool r) ∧ Below w.heap.size w w' := by
  have hu24 := Tryd.underlying24
  have hu28 := Tryd.underlying28
  have hu46 := Tryd.underlying46
  have HR0 := Aside0.mk hr0
  have HC0 := Aside0.mk hc0
  clear hr0 hc0
  have HB := Aside0.mk (Below.refl w.heap.size w)
  have H : ((shutterlaw20_awake.f k).bind fun t185 => (if t185 = true then (shutterlaw20_WindowNear.j0 k l0 (decide ((l0.length : Int) > 200))) else (shutterlaw20_WindowNear.j0 k l0 true))) = some r := h
  clear h
  have HC2 := Aside0.mk H
  clear H
  go_enter Tryd.func5, Tryd.ntmps5
  go_upto_region 1 with (fail)
  go_cut [16] (fun v16 wc => ∃ (kq : Nat) (x16_1 : Bool), v16 = .bool x16_1 ∧ Aside0 (shutterlaw20_WindowNear.j0 kq l0 x16_1 = some r) ∧ Aside0 (kq ≤ k) ∧ Aside0 (Below w.heap.size w wc))
  case first =>
    have H := HC2.out
    clear HC2
    replace H := Option.bind_eq_some_iff.mp H
    obtain ⟨t185, A30, H⟩ := H
    replace H : (if t185 = true then (shutterlaw20_WindowNear.j0 k l0 (decide ((l0.length : Int) > 200))) else (shutterlaw20_WindowNear.j0 k l0 true)) = some r := H
    have A3 := Aside0.mk A30
    clear A30
    by_cases c4 : t185 = true
    · subst c4
      have H1 : (shutterlaw20_WindowNear.j0 k l0 (decide ((l0.length : Int) > 200))) = some r := by rw [if_pos rfl] at H; exact H
      clear H
      have H := H1
      clear H1
      have H' := Aside0.mk H
      clear H
      go_wp2_with (first | ((with_reducible refine gate_callee (f := 8) rfl ?_); refine goesL_ (some 10) rfl rfl Tryd.func8 (by kernel_rfl) rfl #[] rfl (by (try simp only [List.map_toArray, List.map_cons, List.map_nil]); first | done | rfl | (simp only [List.length_drop, List.length_take]; rfl)) ?_; (with_reducible refine (shutterlaw20_awake.calls k  true _ (by exact Aside0.mk (Code.Gl.below hGl.out (by repeat (first | (with_reducible first | exact HB.out | apply below_alloc | apply pw_below_drewN | apply below_drew1 | refine below_set ?_ (Aside0.out (by assumption))) | exact HB.out)) (Code.Gl.lt hGl.out))) A3.out).mono ?_); rintro e w5 ⟨rfl, hb⟩; refine ⟨_, rfl, ?_⟩; have n0_ := Aside0.mk (below_step (by repeat (first | (with_reducible first | exact HB.out | apply below_alloc | apply pw_below_drewN | apply below_drew1) | exact HB.out)) hb); clear HB; have HB := n0_; clear n0_; (try clear hb); (try clear hb2); (try clear hk); (try clear hi)))
      go_meet
      case rel => exact ⟨_, (decide ((l0.length : Int) > 200)), (by first | rfl | (simp; done) | (simp [*]; done)), H', ⟨by first | omega | exact Nat.le_refl _⟩, ⟨by repeat (first | (with_reducible first | exact HB.out | apply below_alloc | apply pw_below_drewN | apply below_drew1) | exact HB.out)⟩⟩
    · replace c4 := Bool.eq_false_iff.mpr c4
      subst c4
      have H1 : (shutterlaw20_WindowNear.j0 k l0 true) = some r := by rw [if_neg (show ¬ (false = true) by decide)] at H; exact H
      clear H
      have H := H1
      clear H1
      have H' := Aside0.mk H
      clear H
      go_wp2_with (first | ((with_reducible refine gate_callee (f := 8) rfl ?_); refine goesL_ (some 10) rfl rfl Tryd.func8 (by kernel_rfl) rfl #[] rfl (by (try simp only [List.map_toArray, List.map_cons, List.map_nil]); first | done | rfl | (simp only [List.length_drop, List.length_take]; rfl)) ?_; (with_reducible refine (shutterlaw20_awake.calls k  false _ (by exact Aside0.mk (Code.Gl.below hGl.out (by repeat (first | (with_reducible first | exact HB.out | apply below_alloc | apply pw_below_drewN | apply below_drew1 | refine below_set ?_ (Aside0.out (by assumption))) | exact HB.out)) (Code.Gl.lt hGl.out))) A3.out).mono ?_); rintro e w6 ⟨rfl, hb⟩; refine ⟨_, rfl, ?_⟩; have n0_ := Aside0.mk (below_step (by repeat (first | (with_reducible first | exact HB.out | apply below_alloc | apply pw_below_drewN | apply below_drew1) | exact HB.out)) hb); clear HB; have HB := n0_; clear n0_; (try clear hb); (try clear hb2); (try clear hk); (try clear hi)))
      go_meet
      case rel => exact ⟨_, (true), (by first | rfl | (simp; done) | (simp [*]; done)), H', ⟨by first | omega | exact Nat.le_refl _⟩, ⟨by repeat (first | (with_reducible first | exact HB.out | apply below_alloc | apply pw_below_drewN | apply below_drew1) | exact HB.out)⟩⟩
  case rest =>
    clear HC2
    try clear p2
    try clear c4
    try clear c5
    obtain ⟨kq, x16_1, rfl, HA, HJ1, HB⟩ := hcut
    cases kq with
    | zero => exact absurd HA.out (by simp [shutterlaw20_WindowNear.j0])
    | succ kj1 =>
      have H := HA.out
      clear HA
      simp only [shutterlaw20_WindowNear.j0] at H
      by_cases c7 : x16_1 = true
      · subst c7
        have H1 : ((shutterlaw20_awake.f kj1).bind fun t186 => (some t186)) = some r := by rw [if_pos rfl] at H; exact H
        clear H
        have H := H1
        clear H1
        replace H := Option.bind_eq_some_iff.mp H
        obtain ⟨t186, A80, H⟩ := H
        replace H : (some t186) = some r := H
        have A8 := Aside0.mk A80
        clear A80
        obtain rfl := Option.some.inj H
        go_wp2_with (first | ((with_reducible refine gate_callee (f := 8) rfl ?_); refine goesL_ (some 17) rfl rfl Tryd.func8 (by kernel_rfl) rfl #[] rfl (by (try simp only [List.map_toArray, List.map_cons, List.map_nil]); first | done | rfl | (simp only [List.length_drop, List.length_take]; rfl)) ?_; (with_reducible refine (shutterlaw20_awake.calls kj1  t186 _ (by exact Aside0.mk (Code.Gl.below hGl.out (by repeat (first | (with_reducible first | exact HB.out | apply below_alloc | apply pw_below_drewN | apply below_drew1 | refine below_set ?_ (Aside0.out (by assumption))) | exact HB.out)) (Code.Gl.lt hGl.out))) A8.out).mono ?_); rintro e w9 ⟨rfl, hb⟩; refine ⟨_, rfl, ?_⟩; have n0_ := Aside0.mk (below_step (by repeat (first | (with_reducible first | exact HB.out | apply below_alloc | apply pw_below_drewN | apply below_drew1) | exact HB.out)) hb); clear HB; have HB := n0_; clear n0_; (try clear hb); (try clear hb2); (try clear hk); (try clear hi)))
        go_ret
        exact ⟨by first | rfl | (simp [errW_none, errW_some] <;> rfl) | (simp [*, errW_none, errW_some] <;> rfl), by repeat (first | (with_reducible first | exact HB.out | apply below_alloc | apply pw_below_drewN | apply below_drew1) | exact HB.out)⟩
      · replace c7 := Bool.eq_false_iff.mpr c7
        subst c7
        have H1 : (if 65 ≤ 281474976710656 then (shutterlaw20_WindowNear.l0 kj1 l0 (List.replicate 65 false) 0 0 0) else (none)) = some r := by rw [if_neg (show ¬ (false = true) by decide)] at H; exact H
        clear H
        have H := H1
        clear H1
        by_cases c10 : 65 ≤ 281474976710656
        · rw [if_pos c10] at H
          have c10b0 := eq_true c10
          have c10b1 : decide (65 ≤ 281474976710656) = true := decide_eq_true c10
          clear c10
          obtain ⟨y188, hy188⟩ : ∃ y_ : List Bool, y_ = (List.replicate 65 false) := ⟨_, rfl⟩
          replace H : (shutterlaw20_WindowNear.l0 kj1 l0 y188 0 0 0) = some r := by first | (rw [hy188]; with_reducible exact H) | (have H2_ := (Option.bind_some _ _).symm.trans H; rw [hy188]; with_reducible exact H2_) | (have H2_ := (Option.bind_some _ _).symm.trans H; with_reducible exact H2_) | with_reducible exact H | (rw [hy188]; exact H) | exact H
          have Ny188 := Aside0.mk hy188
          clear hy188
          have H' := Aside0.mk H
          clear H
          go_wp2_with (first | ((with_reducible refine gate_dst (N := 3) rfl ?_); (try (refine gate_guard (by rfl) ?_; dsimp only)); refine box_event ?hg (N := 3) ?hd (cs := #[.int .i64 0, .int .u64 0]) (t := 24) ?hr ?_; (case hd => rfl); (case hg => rfl); (case hr => first | (go_simp; done) | (go_simp; rfl)); intro gb187 hg w11 hbox hb; have n0_ := Aside0.mk (below_step (by repeat (first | (with_reducible first | exact HB.out | apply below_alloc | apply pw_below_drewN | apply below_drew1) | exact HB.out)) hb); have n1_ := Aside0.mk (hbox); have n2_ := Aside0.mk ((by rw [hg]; exact (below_size (by repeat (first | (with_reducible first | exact HB.out | apply below_alloc | apply pw_below_drewN | apply below_drew1) | exact HB.out))) : w.heap.size ≤ gb187)); have n3_ := Aside0.mk ((by rw [hg]; exact (below_size (by repeat (first | (with_reducible first | exact HB.out | apply below_alloc | apply pw_below_drewN | apply below_drew1) | exact HB.out))) : w.heap.size ≤ gb187)); clear HB; have HB := n0_; have BK187 := n1_; have GW187 := n2_; have GE187 := n3_; clear n0_ n1_ n2_ n3_; clear hb hbox hg) | ((with_reducible refine gate_dst (N := 18) rfl ?_); (try (refine gate_guard (by rfl) ?_; dsimp only)); refine Kd.R_make Kd.bool _ 4 rfl (N := 18) rfl 40 _ _ rfl 65 rfl rfl Tryd.underlying40 (.bool false) 1 info4 rfl (by decide) (by omega) false (ok := fun _ => True) (okp := fun _ => True) rfl (fun _ hk => hk) trivial (by omega) (by omega) (Below.refl _ _) (Nat.le_refl _) ?_; intro v189 w12 ho13 hb hg_ hnew_; clear hg_ hnew_; (first | rw [← Ny188.out] at ho13 | (simp only [Int.reduceToNat] at ho13; rw [← Ny188.out] at ho13)); have n0_ := Aside0.mk (Kd.R_lower ho13 (below_size (by repeat (first | (with_reducible first | exact HB.out | apply below_alloc | apply pw_below_drewN | apply below_drew1 | refine below_set ?_ GE187.out) | exact HB.out)))); have n1_ := Aside0.mk (blk_below (g := gb187) (o := .cells #[.int .i64 0, .int .u64 0] 24 (0, 0)) (by (with_reducible repeat (first | refine blk_drewN ?_ _ | refine blk_drew ?_ | refine blk_alloc ?_ _)); exact BK187.out) hb); have n2_ := Aside0.mk (below_step (by repeat (first | (with_reducible first | exact HB.out | apply below_alloc | apply pw_below_drewN | apply below_drew1 | refine below_set ?_ GE187.out) | exact HB.out)) hb); clear BK187; clear HB; have HO190 := n0_; have BK187 := n1_; have HB := n2_; clear n0_ n1_ n2_; clear hb ho13))
          (try simp only [add_plain])
          go_loopg [5] kj1 (fun kq v5 w' => ∃ (x4_2 : List Bool) (x5_2 : Int) (x188000_2 : Int) (x188001_2 : Int), v5 = .int .i64 x5_2 ∧ Aside0 (shutterlaw20_WindowNear.l0 kq l0 x4_2 x5_2 x188000_2 x188001_2 = some r) ∧ Aside0 (kq ≤ kj1) ∧ Aside0 (Kd.R Kd.bool 4 w' w.heap.size (fun _ => True) v189 x4_2) ∧ Aside0 (w'.heap[gb187]? = some (.cells #[.int .i64 x188000_2, .int .u64 x188001_2] 24 (0, 0))) ∧ Aside0 (Below w.heap.size w w'))
          case atStart => exact ⟨(y188), (0), (0), (0), (by first | rfl | (simp; done) | (simp [*]; done)), H', ⟨Nat.le_refl _⟩, ⟨by (with_reducible repeat (first | apply Kd.R_alloc | apply Kd.R_drewN | apply Kd.R_drew)); exact HO190.out⟩, ⟨by (with_reducible repeat (first | refine blk_drewN ?_ _ | refine blk_drew ?_ | refine blk_alloc ?_ _)); exact BK187.out⟩, ⟨by repeat (first | (with_reducible first | exact HB.out | apply below_alloc | apply pw_below_drewN | apply below_drew1 | refine below_set ?_ GE187.out) | exact HB.out)⟩⟩
          case round =>
            clear H'
            try clear c1
            try clear p2
            try clear c4
            try clear c5
            try clear c7
            try clear c8
            try clear c10
            try clear c10b0
            try clear c10b1
            try clear p2
            obtain ⟨x4_2, x5_2, x188000_2, x188001_2, rfl, HA, HK2, HO_4, BK187, HB⟩ := hrel
            cases gk with
            | zero => exact absurd HA.out (by simp [shutterlaw20_WindowNear.l0])
            | succ k2 =>
              have H := HA.out
              clear HA
              simp only [shutterlaw20_WindowNear.l0] at H
              by_cases c14 : x5_2 < (l0.length : Int)
              · rw [if_pos c14] at H
                have c14b0 : decide (x5_2 < (l0.length : Int)) = true := decide_eq_true c14
                clear c14
                by_cases c15 : 0 ≤ x5_2
                · rw [if_pos c15] at H
                  have c15b0 : decide (0 ≤ x5_2) = true := decide_eq_true c15
                  clear c15
                  replace H := Option.bind_eq_some_iff.mp H
                  obtain ⟨⟨t192, t193, t194⟩, A160, H⟩ := H
                  replace H : (if t194.isNone = true then (if 0 ≤ (wrap64 (1 + (wrap64 (Int.tmod (rd l0 x5_2) 64)))) then (if (wrap64 (1 + (wrap64 (Int.tmod (rd l0 x5_2) 64)))) < (x4_2.length : Int) then (if (true == (rdOf false x4_2 (wrap64 (1 + (wrap64 (Int.tmod (rd l0 x5_2) 64)))))) = true then (some false) else (shutterlaw20_WindowNear.l1 k2 l0 (x4_2.set ((wrap64 (1 + (wrap64 (Int.tmod (rd l0 x5_2) 64)))) : Int).toNat true) x5_2 1 t192 t193)) else (none)) else (none)) else (if 0 ≤ (wrap64 (1 + (wrap64 (Int.tmod (rd l0 x5_2) 64)))) then (if (wrap64 (1 + (wrap64 (Int.tmod (rd l0 x5_2) 64)))) < (x4_2.length : Int) then (if (false == (rdOf false x4_2 (wrap64 (1 + (wrap64 (Int.tmod (rd l0 x5_2) 64)))))) = true then (some false) else (shutterlaw20_WindowNear.l1 k2 l0 (x4_2.set ((wrap64 (1 + (wrap64 (Int.tmod (rd l0 x5_2) 64)))) : Int).toNat true) x5_2 1 t192 t193)) else (none)) else (none))) = some r := H
                  have A16 := Aside0.mk A160
                  clear A160
                  rcases t194 with _ | q196
                  · have H1 : (if 0 ≤ (wrap64 (1 + (wrap64 (Int.tmod (rd l0 x5_2) 64)))) then (if (wrap64 (1 + (wrap64 (Int.tmod (rd l0 x5_2) 64)))) < (x4_2.length : Int) then (if (true == (rdOf false x4_2 (wrap64 (1 + (wrap64 (Int.tmod (rd l0 x5_2) 64)))))) = true then (some false) else (shutterlaw20_WindowNear.l1 k2 l0 (x4_2.set ((wrap64 (1 + (wrap64 (Int.tmod (rd l0 x5_2) 64)))) : Int).toNat true) x5_2 1 t192 t193)) else (none)) else (none)) = some r := by rw [if_pos (show (none : Option Int).isNone = true by rfl)] at H; exact H
                    clear H
                    have H := H1
                    clear H1
                    try simp only [errW_none, errW_some]
                    obtain ⟨ji17, hji17⟩ : ∃ j_ : Int, (wrap64 (1 + (wrap64 (Int.tmod (rd l0 x5_2) 64)))) = j_ := ⟨_, rfl⟩
                    replace H : (if 0 ≤ (ji17) then (if (ji17) < (x4_2.length : Int) then (if (true == (rdOf false x4_2 (ji17))) = true then (some false) else (shutterlaw20_WindowNear.l1 k2 l0 (x4_2.set ((ji17) : Int).toNat true) x5_2 1 t192 t193)) else (none)) else (none)) = some r := by first | (rw [hji17] at H; exact H) | (simp only [hji17] at H ⊢; exact H)
                    (try rw [hji17] at A16)
                    have hji17w : (IntKind.i64.wrap (1 + (wrap64 (Int.tmod (rd l0 x5_2) 64)))) = ji17 := (i64_w _).trans hji17
                    by_cases c18 : 0 ≤ (ji17)
                    · rw [if_pos c18] at H
                      have c18b0 : decide (0 ≤ (ji17)) = true := decide_eq_true c18
                      clear c18
                      by_cases c19 : (ji17) < (x4_2.length : Int)
                      · rw [if_pos c19] at H
                        have c19b0 : decide ((ji17) < (x4_2.length : Int)) = true := decide_eq_true c19
                        clear c19
                        by_cases c20 : (true == (rdOf false x4_2 (ji17))) = true
                        · rw [if_pos c20] at H
                          have c20b0 : (true == (rdOf false x4_2 (ji17))) = true := c20
                          (try (have c20b1 : decide (true = (rdOf false x4_2 (ji17))) = true := by simpa using c20))
                          (try (have c20b2 : (true == (rdOf false x4_2 (ji17))) = true := by simpa using c20))
                          clear c20
                          obtain rfl := Option.some.inj H
                          have p191 : 0 ≤ (x5_2 : Int) := of_decide_eq_true (by first | (with_reducible assumption) | assumption)
                          have q191 : x5_2 < (l0.length : Int) := of_decide_eq_true (by first | (with_reducible assumption) | assumption)
                          obtain ⟨ad191, e191, hx191_0⟩ := Kd.at_int HR0.out x5_2 p191 q191
                          cases e191
                          replace hx191_0 := (HB.out.cell (World.block_lt_of_cell? w _ hx191_0)).trans hx191_0
                          replace p191 := eq_true p191
                          replace q191 := eq_true q191
                          have hcz21_0 : wr.cell? ⟨gb187, 0, none⟩ = some (.int .i64 x188000_2) := (blk_cell BK187.out 0).trans rfl
                          have hcz21_1 : wr.cell? ⟨gb187, 1, none⟩ = some (.int .u64 x188001_2) := (blk_cell BK187.out 1).trans rfl
                          have hfz21_0 := blk_frozen BK187.out 0
                          have hfz21_1 := blk_frozen BK187.out 1
                          try go_wp2_with (first | ((with_reducible refine gate_callee (f := 11) rfl ?_); refine goesL_ (some 35) rfl rfl Tryd.func11 (by kernel_rfl) rfl #[.agg #[.int .i64 x188000_2, .int .u64 x188001_2], .int .i64 ji17] rfl (by (try simp only [List.map_toArray, List.map_cons, List.map_nil]); first | done | (simp only [hji17]; rfl) | rfl | (simp only [List.length_drop, List.length_take]; rfl)) ?_; (with_reducible refine (window_Let.calls k2 x188000_2 x188001_2 ji17 t192 t193 none _ A16.out).mono ?_); rintro e w22 ⟨rfl, hb⟩; refine ⟨_, rfl, ?_⟩; have n0_ := Aside0.mk (Kd.R_below (by (with_reducible repeat (first | apply Kd.R_alloc | apply Kd.R_drewN | apply Kd.R_drew)); exact HO_4.out) hb); have n1_ := Aside0.mk (blk_below (g := gb187) (o := .cells #[.int .i64 x188000_2, .int .u64 x188001_2] 24 (0, 0)) (by (with_reducible repeat (first | refine blk_drewN ?_ _ | refine blk_drew ?_ | refine blk_alloc ?_ _)); exact BK187.out) hb); have n2_ := Aside0.mk (below_step (by repeat (first | (with_reducible first | exact HB.out | apply below_alloc | apply pw_below_drewN | apply below_drew1 | refine below_set ?_ GE187.out) | exact HB.out)) hb); clear HO_4; clear BK187; clear HB; have HO_4 := n0_; have BK187 := n1_; have HB := n2_; clear n0_ n1_ n2_; (try clear hb); (try clear hb2); (try clear hk); (try clear hi); (try simp only [errW_none, errW_some])) | ((with_reducible refine gate_dst (N := 7) rfl ?_); (try (refine gate_guard (by rfl) ?_; dsimp only)); refine box_event ?hg (N := 7) ?hd (cs := #[.int .i64 0, .int .u64 0]) (t := 24) ?hr ?_; (case hd => rfl); (case hg => rfl); (case hr => first | (go_simp; done) | (go_simp; rfl)); intro gb195 hg w23 hbox hb; have n0_ := Aside0.mk (Kd.R_below (by (with_reducible repeat (first | apply Kd.R_alloc | apply Kd.R_drewN | apply Kd.R_drew)); exact HO_4.out) hb); have n1_ := Aside0.mk (blk_below (g := gb187) (o := .cells #[.int .i64 x188000_2, .int .u64 x188001_2] 24 (0, 0)) (by (with_reducible repeat (first | refine blk_drewN ?_ _ | refine blk_drew ?_ | refine blk_alloc ?_ _)); exact BK187.out) hb); have n2_ := Aside0.mk (below_step (by repeat (first | (with_reducible first | exact HB.out | apply below_alloc | apply pw_below_drewN | apply below_drew1 | refine below_set ?_ GE187.out) | exact HB.out)) hb); have n3_ := Aside0.mk (hbox); have n4_ := Aside0.mk ((by rw [hg]; exact (below_size (by repeat (first | (with_reducible first | exact HB.out | apply below_alloc | apply pw_below_drewN | apply below_drew1 | refine below_set ?_ GE187.out) | exact HB.out))) : w.heap.size ≤ gb195)); have n5_ := Aside0.mk ((by rw [hg]; exact (below_size (by repeat (first | (with_reducible first | exact HB.out | apply below_alloc | apply pw_below_drewN | apply below_drew1 | refine below_set ?_ GE187.out) | exact HB.out))) : w.heap.size ≤ gb195)); have n6_ := Aside0.mk ((by rw [hg]; exact Nat.ne_of_lt (blk_lt (g := gb187) (o := .cells #[.int .i64 x188000_2, .int .u64 x188001_2] 24 (0, 0)) (by (with_reducible repeat (first | refine blk_drewN ?_ _ | refine blk_drew ?_ | refine blk_alloc ?_ _)); exact BK187.out)) : gb187 ≠ gb195)); have n7_ := Aside0.mk ((by rw [hg]; exact Nat.ne_of_gt (blk_lt (g := gb187) (o := .cells #[.int .i64 x188000_2, .int .u64 x188001_2] 24 (0, 0)) (by (with_reducible repeat (first | refine blk_drewN ?_ _ | refine blk_drew ?_ | refine blk_alloc ?_ _)); exact BK187.out)) : gb195 ≠ gb187)); clear HO_4; clear BK187; clear HB; have HO_4 := n0_; have BK187 := n1_; have HB := n2_; have BK195 := n3_; have GW195 := n4_; have GE195 := n5_; have NB187_195 := n6_; have NB195_187 := n7_; clear n0_ n1_ n2_ n3_ n4_ n5_ n6_ n7_; clear hb hbox hg; have hnb24 := NB195_187.out; have hnc24 := NB187_195.out; have hcz25_0 : w23.cell? ⟨gb195, 0, none⟩ = some (.int .i64 0) := (blk_cell BK195.out 0).trans rfl; have hcz25_1 : w23.cell? ⟨gb195, 1, none⟩ = some (.int .u64 0) := (blk_cell BK195.out 1).trans rfl; have hfz25_0 := blk_frozen BK195.out 0; have hfz25_1 := blk_frozen BK195.out 1))
                          have n0_ : Aside0 (Kd.R Kd.bool 4 ((w23.setCell ⟨gb195, 0, none⟩ (.int .i64 t192)).setCell ⟨gb195, 1, none⟩ (.int .u64 t193)) w.heap.size (fun _ => True) v189 x4_2) := ⟨by (with_reducible repeat (first | apply Kd.R_alloc | apply Kd.R_drewN | apply Kd.R_drew)); exact Kd.R_mono (Kd.R_far (p := ⟨gb195, 1, none⟩) (Kd.R_far (p := ⟨gb195, 0, none⟩) (Kd.R_types HO_4.out BK195.out (by decide)) (fun _ hk => hk.2) (.int .i64 t192)) (fun _ hk => hk.2) (.int .u64 t193)) (fun _ hk => trivial)⟩
                          have n1_ : Aside0 (((w23.setCell ⟨gb195, 0, none⟩ (.int .i64 t192)).setCell ⟨gb195, 1, none⟩ (.int .u64 t193)).heap[gb187]? = some (.cells #[.int .i64 x188000_2, .int .u64 x188001_2] 24 (0, 0))) := ⟨by (with_reducible repeat (first | refine blk_drewN ?_ _ | refine blk_drew ?_ | refine blk_alloc ?_ _)); refine blk_far ?_ NB187_195.out _; (with_reducible repeat (first | refine blk_drewN ?_ _ | refine blk_drew ?_ | refine blk_alloc ?_ _)); refine blk_far ?_ NB187_195.out _; (with_reducible repeat (first | refine blk_drewN ?_ _ | refine blk_drew ?_ | refine blk_alloc ?_ _)); exact BK187.out⟩
                          have n2_ : Aside0 (((w23.setCell ⟨gb195, 0, none⟩ (.int .i64 t192)).setCell ⟨gb195, 1, none⟩ (.int .u64 t193)).heap[gb195]? = some (.cells #[.int .i64 t192, .int .u64 t193] 24 (0, 0))) := ⟨by (with_reducible repeat (first | refine blk_drewN ?_ _ | refine blk_drew ?_ | refine blk_alloc ?_ _)); refine blk_put (cs := #[.int .i64 t192, .int .u64 0]) ?_ 1 _ rfl; (with_reducible repeat (first | refine blk_drewN ?_ _ | refine blk_drew ?_ | refine blk_alloc ?_ _)); refine blk_put (cs := #[.int .i64 0, .int .u64 0]) ?_ 0 _ rfl; (with_reducible repeat (first | refine blk_drewN ?_ _ | refine blk_drew ?_ | refine blk_alloc ?_ _)); exact BK195.out⟩
                          have n3_ : Aside0 (Below w.heap.size w ((w23.setCell ⟨gb195, 0, none⟩ (.int .i64 t192)).setCell ⟨gb195, 1, none⟩ (.int .u64 t193))) := ⟨by repeat (first | (with_reducible first | exact HB.out | apply below_alloc | apply pw_below_drewN | apply below_drew1 | refine below_set ?_ GE187.out | refine below_set ?_ GE195.out) | exact HB.out)⟩
                          (try clear HO_4)
                          (try clear BK187)
                          (try clear BK195)
                          (try clear HB)
                          generalize ((w23.setCell ⟨gb195, 0, none⟩ (.int .i64 t192)).setCell ⟨gb195, 1, none⟩ (.int .u64 t193)) = w26 at n0_ n1_ n2_ n3_ ⊢
                          have HO_4 := n0_
                          have BK187 := n1_
                          have BK195 := n2_
                          have HB := n3_
                          clear n0_ n1_ n2_ n3_
                          have n0_ := Aside0.mk (Kd.R_drew HO_4.out)
                          have n1_ := Aside0.mk (blk_drew BK187.out)
                          have n2_ := Aside0.mk (blk_drew BK195.out)
                          have n3_ := Aside0.mk (below_drew1 HB.out)
                          clear HO_4
                          clear BK187
                          clear BK195
                          clear HB
                          have HO_4 := n0_
                          have BK187 := n1_
                          have BK195 := n2_
                          have HB := n3_
                          clear n0_ n1_ n2_ n3_
                          obtain ⟨Ao28, co28, eo28⟩ := Kd.R_slice HO_4.out
                          (first | subst eo28 | (injection eo28 with f1_ f2_ f3_; have f4_ := f1_.symm; have f5_ := f3_.symm; clear f1_ f2_ f3_; subst f4_; subst f5_))
                          have p197 : 0 ≤ ((ji17) : Int) := of_decide_eq_true (by first | (with_reducible assumption) | assumption)
                          have q197 : (ji17) < (x4_2.length : Int) := of_decide_eq_true (by first | (with_reducible assumption) | assumption)
                          obtain ⟨ad197, e197, hx197_0⟩ := Kd.at_bool (Kd.R_reads' HO_4.out).2.2 (ji17) p197 q197
                          cases e197
                          replace p197 := eq_true p197
                          replace q197 := eq_true q197
                          refine start_ (n := 7) (S := fun w' => w'.cell? (ad197.add ((ji17)).toNat) = some (.bool (rdOf false x4_2 (ji17)))) (ds := []) #[false, false, false, false, false, false, false] (by kernel_rfl) rfl rfl (hx197_0) (fun hHeld => ?_)
                          generalize w26.drew = w27 at HO_4 BK187 BK195 HB hx197_0 hHeld ⊢
                          refine pure_ (i := 0) (N := some 38) (v := ?_) (a' := ?_) #[true, false, false, false, false, false, false] rfl rfl (by kernel_rfl) (fun _ _ _ h => h) (Or.inl ⟨by rfl, ?_⟩) ?_ ?_
                          rotate_left
                          · intro w'
                            go_simp
                            with_reducible rfl
                          rotate_left
                          · simp only [Act.put, List.setIfInBounds_toArray, List.set_cons_zero, List.set_cons_succ, i64_w, i32_w]
                            rfl
                          refine pure_ (i := 1) (N := some 39) (v := ?_) (a' := ?_) #[true, true, false, false, false, false, false] rfl rfl (by kernel_rfl) (fun _ _ _ h => h) (Or.inl ⟨by rfl, ?_⟩) ?_ ?_
                          rotate_left
                          · intro w'
                            go_simp
                            with_reducible rfl
                          rotate_left
                          · simp only [Act.put, List.setIfInBounds_toArray, List.set_cons_zero, List.set_cons_succ, i64_w, i32_w]
                            rfl
                          refine pure_ (i := 2) (N := some 40) (v := ?_) (a' := ?_) #[true, true, true, false, false, false, false] rfl rfl (by kernel_rfl) (fun _ _ _ h => h) (Or.inl ⟨by rfl, ?_⟩) ?_ ?_
                          rotate_left
                          · intro w'
                            go_simp
                            with_reducible rfl
                          rotate_left
                          · simp only [Act.put, List.setIfInBounds_toArray, List.set_cons_zero, List.set_cons_succ, i64_w, i32_w]
                            rfl
                          refine pure_ (i := 3) (N := some 41) (v := ?_) (a' := ?_) #[true, true, true, true, false, false, false] rfl rfl (by kernel_rfl) (fun _ _ _ h => h) (Or.inl ⟨by rfl, ?_⟩) ?_ ?_
                          rotate_left
                          · intro w'
                            go_simp
                            with_reducible rfl
                          rotate_left
                          · simp only [Act.put, List.setIfInBounds_toArray, List.set_cons_zero, List.set_cons_succ, i64_w, i32_w]
                            rfl
                          refine pure_ (i := 4) (N := some 42) (v := ?_) (a' := ?_) #[true, true, true, true, true, false, false] rfl rfl (by kernel_rfl) (fun _ _ _ h => h) (Or.inl ⟨by rfl, ?_⟩) ?_ ?_
                          rotate_left
                          · intro w'
                            go_simp
                            with_reducible rfl
                          rotate_left
                          · simp only [Act.put, List.setIfInBounds_toArray, List.set_cons_zero, List.set_cons_succ, i64_w, i32_w]
                            rfl
                          refine take_ (i := 5) (N := some 43) (v := ?_) (a' := ?_) #[true, true, true, true, true, true, false] rfl rfl (by kernel_rfl) (fun _ _ _ h => h) (Or.inl ⟨by rfl, ?_⟩) hHeld ?_ ?_
                          rotate_left
                          · intro w' s0
                            go_simp
                            with_reducible rfl
                          rotate_left
                          · simp only [Act.put, List.setIfInBounds_toArray, List.set_cons_zero, List.set_cons_succ, i64_w, i32_w]
                            rfl
                          refine pure_ (i := 6) (N := some 44) (v := ?_) (a' := ?_) #[true, true, true, true, true, true, true] rfl rfl (by kernel_rfl) (fun _ _ _ h => h) (Or.inl ⟨by rfl, ?_⟩) ?_ ?_
                          rotate_left
                          · intro w'
                            go_simp
                            with_reducible rfl
                          rotate_left
                          · simp only [Act.put, List.setIfInBounds_toArray, List.set_cons_zero, List.set_cons_succ, i64_w, i32_w]
                            rfl
                          refine done_ (by kernel_rfl) ?_
                          try go_wp2
                          go_ret
                          exact ⟨by first | rfl | (simp [errW_none, errW_some] <;> rfl) | (simp only [← hji17]; first | rfl | (simp [errW_none, errW_some] <;> rfl)) | (simp [*, errW_none, errW_some] <;> rfl), by repeat (first | (with_reducible first | exact HB.out | apply below_alloc | apply pw_below_drewN | apply below_drew1 | refine below_set ?_ GE187.out | refine below_set ?_ GE195.out) | exact HB.out)⟩
                        · rw [if_neg c20] at H
                          have c20b0 : (true == (rdOf false x4_2 (ji17))) = false := by simpa using c20
                          (try (have c20b1 : decide (true = (rdOf false x4_2 (ji17))) = false := by simpa using c20))
                          (try (have c20b2 : (true == (rdOf false x4_2 (ji17))) = false := by simpa using c20))
                          (try (have c20b3 : ¬ (true = (rdOf false x4_2 (ji17))) := by simpa using c20))
                          clear c20
                          obtain ⟨y198, hy198⟩ : ∃ y_ : List Bool, y_ = (x4_2.set ((ji17) : Int).toNat true) := ⟨_, rfl⟩
                          replace H : (shutterlaw20_WindowNear.l1 k2 l0 y198 x5_2 1 t192 t193) = some r := by first | (rw [hy198]; with_reducible exact H) | (have H2_ := (Option.bind_some _ _).symm.trans H; rw [hy198]; with_reducible exact H2_) | (have H2_ := (Option.bind_some _ _).symm.trans H; with_reducible exact H2_) | with_reducible exact H | (rw [hy198]; exact H) | exact H
                          have Ny198 := Aside0.mk hy198
                          clear hy198
                          have H' := Aside0.mk H
                          clear H
                          have p191 : 0 ≤ (x5_2 : Int) := of_decide_eq_true (by first | (with_reducible assumption) | assumption)
                          have q191 : x5_2 < (l0.length : Int) := of_decide_eq_true (by first | (with_reducible assumption) | assumption)
                          obtain ⟨ad191, e191, hx191_0⟩ := Kd.at_int HR0.out x5_2 p191 q191
                          cases e191
                          replace hx191_0 := (HB.out.cell (World.block_lt_of_cell? w _ hx191_0)).trans hx191_0
                          replace p191 := eq_true p191
                          replace q191 := eq_true q191
                          have hcz30_0 : wr.cell? ⟨gb187, 0, none⟩ = some (.int .i64 x188000_2) := (blk_cell BK187.out 0).trans rfl
                          have hcz30_1 : wr.cell? ⟨gb187, 1, none⟩ = some (.int .u64 x188001_2) := (blk_cell BK187.out 1).trans rfl
                          have hfz30_0 := blk_frozen BK187.out 0
                          have hfz30_1 := blk_frozen BK187.out 1
                          try go_wp2_with (first | ((with_reducible refine gate_callee (f := 11) rfl ?_); refine goesL_ (some 35) rfl rfl Tryd.func11 (by kernel_rfl) rfl #[.agg #[.int .i64 x188000_2, .int .u64 x188001_2], .int .i64 ji17] rfl (by (try simp only [List.map_toArray, List.map_cons, List.map_nil]); first | done | (simp only [hji17]; rfl) | rfl | (simp only [List.length_drop, List.length_take]; rfl)) ?_; (with_reducible refine (window_Let.calls k2 x188000_2 x188001_2 ji17 t192 t193 none _ A16.out).mono ?_); rintro e w31 ⟨rfl, hb⟩; refine ⟨_, rfl, ?_⟩; have n0_ := Aside0.mk (Kd.R_below (by (with_reducible repeat (first | apply Kd.R_alloc | apply Kd.R_drewN | apply Kd.R_drew)); exact HO_4.out) hb); have n1_ := Aside0.mk (blk_below (g := gb187) (o := .cells #[.int .i64 x188000_2, .int .u64 x188001_2] 24 (0, 0)) (by (with_reducible repeat (first | refine blk_drewN ?_ _ | refine blk_drew ?_ | refine blk_alloc ?_ _)); exact BK187.out) hb); have n2_ := Aside0.mk (below_step (by repeat (first | (with_reducible first | exact HB.out | apply below_alloc | apply pw_below_drewN | apply below_drew1 | refine below_set ?_ GE187.out) | exact HB.out)) hb); clear HO_4; clear BK187; clear HB; have HO_4 := n0_; have BK187 := n1_; have HB := n2_; clear n0_ n1_ n2_; (try clear hb); (try clear hb2); (try clear hk); (try clear hi); (try simp only [errW_none, errW_some])) | ((with_reducible refine gate_dst (N := 7) rfl ?_); (try (refine gate_guard (by rfl) ?_; dsimp only)); refine box_event ?hg (N := 7) ?hd (cs := #[.int .i64 0, .int .u64 0]) (t := 24) ?hr ?_; (case hd => rfl); (case hg => rfl); (case hr => first | (go_simp; done) | (go_simp; rfl)); intro gb195 hg w32 hbox hb; have n0_ := Aside0.mk (Kd.R_below (by (with_reducible repeat (first | apply Kd.R_alloc | apply Kd.R_drewN | apply Kd.R_drew)); exact HO_4.out) hb); have n1_ := Aside0.mk (blk_below (g := gb187) (o := .cells #[.int .i64 x188000_2, .int .u64 x188001_2] 24 (0, 0)) (by (with_reducible repeat (first | refine blk_drewN ?_ _ | refine blk_drew ?_ | refine blk_alloc ?_ _)); exact BK187.out) hb); have n2_ := Aside0.mk (below_step (by repeat (first | (with_reducible first | exact HB.out | apply below_alloc | apply pw_below_drewN | apply below_drew1 | refine below_set ?_ GE187.out) | exact HB.out)) hb); have n3_ := Aside0.mk (hbox); have n4_ := Aside0.mk ((by rw [hg]; exact (below_size (by repeat (first | (with_reducible first | exact HB.out | apply below_alloc | apply pw_below_drewN | apply below_drew1 | refine below_set ?_ GE187.out) | exact HB.out))) : w.heap.size ≤ gb195)); have n5_ := Aside0.mk ((by rw [hg]; exact (below_size (by repeat (first | (with_reducible first | exact HB.out | apply below_alloc | apply pw_below_drewN | apply below_drew1 | refine below_set ?_ GE187.out) | exact HB.out))) : w.heap.size ≤ gb195)); have n6_ := Aside0.mk ((by rw [hg]; exact Nat.ne_of_lt (blk_lt (g := gb187) (o := .cells #[.int .i64 x188000_2, .int .u64 x188001_2] 24 (0, 0)) (by (with_reducible repeat (first | refine blk_drewN ?_ _ | refine blk_drew ?_ | refine blk_alloc ?_ _)); exact BK187.out)) : gb187 ≠ gb195)); have n7_ := Aside0.mk ((by rw [hg]; exact Nat.ne_of_gt (blk_lt (g := gb187) (o := .cells #[.int .i64 x188000_2, .int .u64 x188001_2] 24 (0, 0)) (by (with_reducible repeat (first | refine blk_drewN ?_ _ | refine blk_drew ?_ | refine blk_alloc ?_ _)); exact BK187.out)) : gb195 ≠ gb187)); clear HO_4; clear BK187; clear HB; have HO_4 := n0_; have BK187 := n1_; have HB := n2_; have BK195 := n3_; have GW195 := n4_; have GE195 := n5_; have NB187_195 := n6_; have NB195_187 := n7_; clear n0_ n1_ n2_ n3_ n4_ n5_ n6_ n7_; clear hb hbox hg; have hnb33 := NB195_187.out; have hnc33 := NB187_195.out; have hcz34_0 : w32.cell? ⟨gb195, 0, none⟩ = some (.int .i64 0) := (blk_cell BK195.out 0).trans rfl; have hcz34_1 : w32.cell? ⟨gb195, 1, none⟩ = some (.int .u64 0) := (blk_cell BK195.out 1).trans rfl; have hfz34_0 := blk_frozen BK195.out 0; have hfz34_1 := blk_frozen BK195.out 1))
                          have n0_ : Aside0 (Kd.R Kd.bool 4 ((w32.setCell ⟨gb195, 0, none⟩ (.int .i64 t192)).setCell ⟨gb195, 1, none⟩ (.int .u64 t193)) w.heap.size (fun _ => True) v189 x4_2) := ⟨by (with_reducible repeat (first | apply Kd.R_alloc | apply Kd.R_drewN | apply Kd.R_drew)); exact Kd.R_mono (Kd.R_far (p := ⟨gb195, 1, none⟩) (Kd.R_far (p := ⟨gb195, 0, none⟩) (Kd.R_types HO_4.out BK195.out (by decide)) (fun _ hk => hk.2) (.int .i64 t192)) (fun _ hk => hk.2) (.int .u64 t193)) (fun _ hk => trivial)⟩
                          have n1_ : Aside0 (((w32.setCell ⟨gb195, 0, none⟩ (.int .i64 t192)).setCell ⟨gb195, 1, none⟩ (.int .u64 t193)).heap[gb187]? = some (.cells #[.int .i64 x188000_2, .int .u64 x188001_2] 24 (0, 0))) := ⟨by (with_reducible repeat (first | refine blk_drewN ?_ _ | refine blk_drew ?_ | refine blk_alloc ?_ _)); refine blk_far ?_ NB187_195.out _; (with_reducible repeat (first | refine blk_drewN ?_ _ | refine blk_drew ?_ | refine blk_alloc ?_ _)); refine blk_far ?_ NB187_195.out _; (with_reducible repeat (first | refine blk_drewN ?_ _ | refine blk_drew ?_ | refine blk_alloc ?_ _)); exact BK187.out⟩
                          have n2_ : Aside0 (((w32.setCell ⟨gb195, 0, none⟩ (.int .i64 t192)).setCell ⟨gb195, 1, none⟩ (.int .u64 t193)).heap[gb195]? = some (.cells #[.int .i64 t192, .int .u64 t193] 24 (0, 0))) := ⟨by (with_reducible repeat (first | refine blk_drewN ?_ _ | refine blk_drew ?_ | refine blk_alloc ?_ _)); refine blk_put (cs := #[.int .i64 t192, .int .u64 0]) ?_ 1 _ rfl; (with_reducible repeat (first | refine blk_drewN ?_ _ | refine blk_drew ?_ | refine blk_alloc ?_ _)); refine blk_put (cs := #[.int .i64 0, .int .u64 0]) ?_ 0 _ rfl; (with_reducible repeat (first | refine blk_drewN ?_ _ | refine blk_drew ?_ | refine blk_alloc ?_ _)); exact BK195.out⟩
                          have n3_ : Aside0 (Below w.heap.size w ((w32.setCell ⟨gb195, 0, none⟩ (.int .i64 t192)).setCell ⟨gb195, 1, none⟩ (.int .u64 t193))) := ⟨by repeat (first | (with_reducible first | exact HB.out | apply below_alloc | apply pw_below_drewN | apply below_drew1 | refine below_set ?_ GE187.out | refine below_set ?_ GE195.out) | exact HB.out)⟩
                          (try clear HO_4)
                          (try clear BK187)
                          (try clear BK195)
                          (try clear HB)
                          generalize ((w32.setCell ⟨gb195, 0, none⟩ (.int .i64 t192)).setCell ⟨gb195, 1, none⟩ (.int .u64 t193)) = w35 at n0_ n1_ n2_ n3_ ⊢
                          have HO_4 := n0_
                          have BK187 := n1_
                          have BK195 := n2_
                          have HB := n3_
                          clear n0_ n1_ n2_ n3_
                          have n0_ := Aside0.mk (Kd.R_drew HO_4.out)
                          have n1_ := Aside0.mk (blk_drew BK187.out)
                          have n2_ := Aside0.mk (blk_drew BK195.out)
                          have n3_ := Aside0.mk (below_drew1 HB.out)
                          clear HO_4
                          clear BK187
                          clear BK195
                          clear HB
                          have HO_4 := n0_
                          have BK187 := n1_
                          have BK195 := n2_
                          have HB := n3_
                          clear n0_ n1_ n2_ n3_
                          obtain ⟨Ao37, co37, eo37⟩ := Kd.R_slice HO_4.out
                          (first | subst eo37 | (injection eo37 with f1_ f2_ f3_; have f4_ := f1_.symm; have f5_ := f3_.symm; clear f1_ f2_ f3_; subst f4_; subst f5_))
                          have p197 : 0 ≤ ((ji17) : Int) := of_decide_eq_true (by first | (with_reducible assumption) | assumption)
                          have q197 : (ji17) < (x4_2.length : Int) := of_decide_eq_true (by first | (with_reducible assumption) | assumption)
                          obtain ⟨ad197, e197, hx197_0⟩ := Kd.at_bool (Kd.R_reads' HO_4.out).2.2 (ji17) p197 q197
                          cases e197
                          replace p197 := eq_true p197
                          replace q197 := eq_true q197
                          refine start_ (n := 7) (S := fun w' => w'.cell? (ad197.add ((ji17)).toNat) = some (.bool (rdOf false x4_2 (ji17)))) (ds := []) #[false, false, false, false, false, false, false] (by kernel_rfl) rfl rfl (hx197_0) (fun hHeld => ?_)
                          generalize w35.drew = w36 at HO_4 BK187 BK195 HB hx197_0 hHeld ⊢
                          refine pure_ (i := 0) (N := some 38) (v := ?_) (a' := ?_) #[true, false, false, false, false, false, false] rfl rfl (by kernel_rfl) (fun _ _ _ h => h) (Or.inl ⟨by rfl, ?_⟩) ?_ ?_
                          rotate_left
                          · intro w'
                            go_simp
                            with_reducible rfl
                          rotate_left
                          · simp only [Act.put, List.setIfInBounds_toArray, List.set_cons_zero, List.set_cons_succ, i64_w, i32_w]
                            rfl
                          refine pure_ (i := 1) (N := some 39) (v := ?_) (a' := ?_) #[true, true, false, false, false, false, false] rfl rfl (by kernel_rfl) (fun _ _ _ h => h) (Or.inl ⟨by rfl, ?_⟩) ?_ ?_
                          rotate_left
                          · intro w'
                            go_simp
                            with_reducible rfl
                          rotate_left
                          · simp only [Act.put, List.setIfInBounds_toArray, List.set_cons_zero, List.set_cons_succ, i64_w, i32_w]
                            rfl
                          refine pure_ (i := 2) (N := some 40) (v := ?_) (a' := ?_) #[true, true, true, false, false, false, false] rfl rfl (by kernel_rfl) (fun _ _ _ h => h) (Or.inl ⟨by rfl, ?_⟩) ?_ ?_
                          rotate_left
                          · intro w'
                            go_simp
                            with_reducible rfl
                          rotate_left
                          · simp only [Act.put, List.setIfInBounds_toArray, List.set_cons_zero, List.set_cons_succ, i64_w, i32_w]
                            rfl
                          refine pure_ (i := 3) (N := some 41) (v := ?_) (a' := ?_) #[true, true, true, true, false, false, false] rfl rfl (by kernel_rfl) (fun _ _ _ h => h) (Or.inl ⟨by rfl, ?_⟩) ?_ ?_
                          rotate_left
                          · intro w'
                            go_simp
                            with_reducible rfl
                          rotate_left
                          · simp only [Act.put, List.setIfInBounds_toArray, List.set_cons_zero, List.set_cons_succ, i64_w, i32_w]
                            rfl
                          refine pure_ (i := 4) (N := some 42) (v := ?_) (a' := ?_) #[true, true, true, true, true, false, false] rfl rfl (by kernel_rfl) (fun _ _ _ h => h) (Or.inl ⟨by rfl, ?_⟩) ?_ ?_
                          rotate_left
                          · intro w'
                            go_simp
                            with_reducible rfl
                          rotate_left
                          · simp only [Act.put, List.setIfInBounds_toArray, List.set_cons_zero, List.set_cons_succ, i64_w, i32_w]
                            rfl
                          refine take_ (i := 5) (N := some 43) (v := ?_) (a' := ?_) #[true, true, true, true, true, true, false] rfl rfl (by kernel_rfl) (fun _ _ _ h => h) (Or.inl ⟨by rfl, ?_⟩) hHeld ?_ ?_
                          rotate_left
                          · intro w' s0
                            go_simp
                            with_reducible rfl
                          rotate_left
                          · simp only [Act.put, List.setIfInBounds_toArray, List.set_cons_zero, List.set_cons_succ, i64_w, i32_w]
                            rfl
                          refine pure_ (i := 6) (N := some 44) (v := ?_) (a' := ?_) #[true, true, true, true, true, true, true] rfl rfl (by kernel_rfl) (fun _ _ _ h => h) (Or.inl ⟨by rfl, ?_⟩) ?_ ?_
                          rotate_left
                          · intro w'
                            go_simp
                            with_reducible rfl
                          rotate_left
                          · simp only [Act.put, List.setIfInBounds_toArray, List.set_cons_zero, List.set_cons_succ, i64_w, i32_w]
                            rfl
                          refine done_ (by kernel_rfl) ?_
                          have p29 : 0 ≤ ((ji17) : Int) := of_decide_eq_true (by first | (with_reducible assumption) | assumption)
                          have q29 : ((ji17) : Int) < ((x4_2.length : Int) : Int) := of_decide_eq_true (by first | (with_reducible assumption) | assumption)
                          obtain ⟨go29, co29, eo29, gb29, gl29, cl29, HG29⟩ := Kd.R_form HO_4.out (by omega)
                          (first | cases eo29 | (injection eo29 with ea_ en_ ec_; (first | subst ea_ | (injection ea_ with ea_; subst ea_)); subst ec_; clear en_))
                          have GB29 := Aside0.mk gb29
                          have GG29 := Aside0.mk HG29
                          clear gb29 gl29 HG29
                          (first | simp only [add_plain] at hx197_0 | skip)
                          obtain ⟨hx29_0, hf29_0⟩ := Kd.R_celln false HO_4.out ((ji17) : Int) p29 q29
                          replace p29 := eq_true p29
                          replace q29 := eq_true q29
                          obtain ⟨hy38_, hz38_⟩ := Kd.R_celln false HO_4.out ((ji17) : Int) (of_decide_eq_true (by first | (with_reducible assumption) | assumption)) (of_decide_eq_true (by first | (with_reducible assumption) | assumption))
                          have HP38 := Kd.R_putg HO_4.out ((ji17) : Int) true
                          try go_wp2_with (first | ((with_reducible refine gate_store (t := 4) (p := 47) rfl ?_); refine store_event (t := 4) (p := 47) (v := ?vo_w39) (w1 := (w36.setCell ⟨go29, ((ji17) : Int).toNat, none⟩ (.bool true))) ?hg ?ho ?hn ?hr ?_; (case ho => rfl); (case hg => rfl); (case hn => rfl); (case hr => first | (go_simp; done) | (go_simp; rfl)); intro w39 hw; have hg : w36.grownBy w39 (some go29) := (by rw [hw]; exact HP38.2); have hp_ : Kd.R Kd.bool 4 w39 w.heap.size (fun _ => True) (.slice (some ⟨go29, 0, none⟩) x4_2.length co37) y198 := (by rw [hw, Ny198.out]; exact HP38.1); clear HP38; have n0_ := Aside0.mk (hp_); have n1_ := Aside0.mk (blk_grown (g := gb187) (o := .cells #[.int .i64 x188000_2, .int .u64 x188001_2] 24 (0, 0)) (by (with_reducible repeat (first | refine blk_drewN ?_ _ | refine blk_drew ?_ | refine blk_alloc ?_ _)); exact BK187.out) hg (Kd.R_ne HO_4.out BK187.out (by decide))); have n2_ := Aside0.mk (blk_grown (g := gb195) (o := .cells #[.int .i64 t192, .int .u64 t193] 24 (0, 0)) (by (with_reducible repeat (first | refine blk_drewN ?_ _ | refine blk_drew ?_ | refine blk_alloc ?_ _)); exact BK195.out) hg (Kd.R_ne HO_4.out BK195.out (by decide))); have n3_ := Aside0.mk ((by rw [hw]; exact below_set (HB.out) GB29.out : Below w.heap.size w w39)); clear HO_4; clear BK187; clear BK195; clear HB; have HO_4 := n0_; have BK187 := n1_; have BK195 := n2_; have HB := n3_; clear n0_ n1_ n2_ n3_; clear hg hw hp_; have hcz40_0 : w39.cell? ⟨gb195, 0, none⟩ = some (.int .i64 t192) := (blk_cell BK195.out 0).trans rfl; have hcz40_1 : w39.cell? ⟨gb195, 1, none⟩ = some (.int .u64 t193) := (blk_cell BK195.out 1).trans rfl; have hfz40_0 := blk_frozen BK195.out 0; have hfz40_1 := blk_frozen BK195.out 1; have hcz41_0 : w39.cell? ⟨gb187, 0, none⟩ = some (.int .i64 x188000_2) := (blk_cell BK187.out 0).trans rfl; have hcz41_1 : w39.cell? ⟨gb187, 1, none⟩ = some (.int .u64 x188001_2) := (blk_cell BK187.out 1).trans rfl; have hfz41_0 := blk_frozen BK187.out 0; have hfz41_1 := blk_frozen BK187.out 1))
                          (try simp only [add_plain])
                          go_loopg [9] k2 (fun kq v9 w' => ∃ (x9_3 : Int), v9 = .int .i64 x9_3 ∧ Aside0 (shutterlaw20_WindowNear.l1 kq l0 y198 x5_2 x9_3 t192 t193 = some r) ∧ Aside0 (kq ≤ k2) ∧ Aside0 (Kd.R Kd.bool 4 w' w.heap.size (fun _ => True) (.slice (some ⟨go29, 0, none⟩) x4_2.length co37) y198) ∧ Aside0 (w'.heap[gb187]? = some (.cells #[.int .i64 t192, .int .u64 t193] 24 (0, 0))) ∧ Aside0 (w'.heap[gb195]? = some (.cells #[.int .i64 t192, .int .u64 t193] 24 (0, 0))) ∧ Aside0 (Below w.heap.size w w'))
                          case atStart => exact ⟨(1), (by first | rfl | (simp; done) | (simp [*]; done)), H', ⟨Nat.le_refl _⟩, ⟨by (with_reducible repeat (first | apply Kd.R_alloc | apply Kd.R_drewN | apply Kd.R_drew)); exact Kd.R_mono (Kd.R_far (p := ⟨gb187, 1, none⟩) (Kd.R_far (p := ⟨gb187, 0, none⟩) (Kd.R_types HO_4.out BK187.out (by decide)) (fun _ hk => hk.2) (.int .i64 t192)) (fun _ hk => hk.2) (.int .u64 t193)) (fun _ hk => trivial)⟩, ⟨by (with_reducible repeat (first | refine blk_drewN ?_ _ | refine blk_drew ?_ | refine blk_alloc ?_ _)); refine blk_put (cs := #[.int .i64 t192, .int .u64 x188001_2]) ?_ 1 _ rfl; (with_reducible repeat (first | refine blk_drewN ?_ _ | refine blk_drew ?_ | refine blk_alloc ?_ _)); refine blk_put (cs := #[.int .i64 x188000_2, .int .u64 x188001_2]) ?_ 0 _ rfl; (with_reducible repeat (first | refine blk_drewN ?_ _ | refine blk_drew ?_ | refine blk_alloc ?_ _)); exact BK187.out⟩, ⟨by (with_reducible repeat (first | refine blk_drewN ?_ _ | refine blk_drew ?_ | refine blk_alloc ?_ _)); refine blk_far ?_ NB195_187.out _; (with_reducible repeat (first | refine blk_drewN ?_ _ | refine blk_drew ?_ | refine blk_alloc ?_ _)); refine blk_far ?_ NB195_187.out _; (with_reducible repeat (first | refine blk_drewN ?_ _ | refine blk_drew ?_ | refine blk_alloc ?_ _)); exact BK195.out⟩, ⟨by repeat (first | (with_reducible first | exact HB.out | apply below_alloc | apply pw_below_drewN | apply below_drew1 | refine below_set ?_ GE187.out | refine below_set ?_ GE195.out) | exact HB.out)⟩⟩
                          case round =>
                            clear H'
                            try clear c1
                            try clear p1
                            try clear q1
                            try clear hx1
                            try clear c2
                            try clear p2
                            try clear q2
                            try clear hx2
                            try clear hf2
                            try clear c3
                            try clear c4
                            try clear c5
                            try clear p6
                            try clear c7
                            try clear c8
                            try clear c10
                            try clear c10b0
                            try clear c10b1
                            try clear c11
                            try clear c14
                            try clear c14b0
                            try clear c15
                            try clear c15b0
                            try clear c18
                            try clear c18b0
                            try clear c19
                            try clear c19b0
                            try clear p19
                            try clear q19
                            try clear hx19
                            try clear c20
                            try clear c20b0
                            try clear c20b1
                            try clear c20b2
                            try clear c24
                            try clear p29
                            try clear q29
                            try clear hx29
                            try clear hf29
                            try clear c33
                            try clear hcz21_0
                            try clear hcz21_1
                            try clear hcz25_0
                            try clear hcz25_1
                            try clear hcz30_0
                            try clear hcz30_1
                            try clear hcz34_0
                            try clear hcz34_1
                            try clear hcz40_0
                            try clear hcz40_1
                            try clear hcz41_0
                            try clear hcz41_1
                            try clear hfz21_0
                            try clear hfz21_1
                            try clear hfz25_0
                            try clear hfz25_1
                            try clear hfz30_0
                            try clear hfz30_1
                            try clear hfz34_0
                            try clear hfz34_1
                            try clear hfz40_0
                            try clear hfz40_1
                            try clear hfz41_0
                            try clear hfz41_1
                            try clear hx191_0
                            try clear hx197_0
                            try clear hx29_0
                            try clear p191
                            try clear p197
                            try clear p2
                            try clear p29
                            try clear q191
                            try clear q196
                            try clear q197
                            try clear q29
                            obtain ⟨x9_3, rfl, HA, HK3, HO_4, BK187, BK195, HB⟩ := hrel
                            have hl4_3 := (Kd.R_reads' HO_4.out).1
                            rw [hl4_3] at HO_4
                            (try simp only [hl4_3])
                            (try simp only [hl4_3] at BK187)
                            (try simp only [hl4_3] at BK195)
                            cases gk with
                            | zero => exact absurd HA.out (by simp [shutterlaw20_WindowNear.l1])
                            | succ k3 =>
                              have H := HA.out
                              clear HA
                              simp only [shutterlaw20_WindowNear.l1] at H
                              by_cases c42 : x9_3 ≤ 64
                              · rw [if_pos c42] at H
                                have c42b0 : decide (x9_3 ≤ 64) = true := decide_eq_true c42
                                clear c42
                                replace H := Option.bind_eq_some_iff.mp H
                                obtain ⟨t199, A430, H⟩ := H
                                replace H : (if 0 ≤ x9_3 then (if x9_3 < (y198.length : Int) then (if (t199 != (rdOf false y198 x9_3)) = true then (some false) else (shutterlaw20_WindowNear.l1 k3 l0 y198 x5_2 (wrap64 (x9_3 + 1)) t192 t193)) else (none)) else (none)) = some r := H
                                have A43 := Aside0.mk A430
                                clear A430
                                by_cases c44 : 0 ≤ x9_3
                                · rw [if_pos c44] at H
                                  have c44b0 : decide (0 ≤ x9_3) = true := decide_eq_true c44
                                  clear c44
                                  by_cases c45 : x9_3 < (y198.length : Int)
                                  · rw [if_pos c45] at H
                                    have c45b0 : decide (x9_3 < (y198.length : Int)) = true := decide_eq_true c45
                                    clear c45
                                    by_cases c46 : (t199 != (rdOf false y198 x9_3)) = true
                                    · rw [if_pos c46] at H
                                      have c46b0 : (t199 != (rdOf false y198 x9_3)) = true := c46
                                      (try (have c46b1 : decide (t199 = (rdOf false y198 x9_3)) = false := by simpa using c46))
                                      (try (have c46b2 : (t199 == (rdOf false y198 x9_3)) = false := by simpa using c46))
                                      (try (have c46b3 : ¬ (t199 = (rdOf false y198 x9_3)) := by simpa using c46))
                                      clear c46
                                      obtain rfl := Option.some.inj H
                                      try go_wp2
                                      have n0_ := Aside0.mk (Kd.R_drew HO_4.out)
                                      have n1_ := Aside0.mk (blk_drew BK187.out)
                                      have n2_ := Aside0.mk (blk_drew BK195.out)
                                      have n3_ := Aside0.mk (below_drew1 HB.out)
                                      clear HO_4
                                      clear BK187
                                      clear BK195
                                      clear HB
                                      have HO_4 := n0_
                                      have BK187 := n1_
                                      have BK195 := n2_
                                      have HB := n3_
                                      clear n0_ n1_ n2_ n3_
                                      have p200 : 0 ≤ (x9_3 : Int) := of_decide_eq_true (by first | (with_reducible assumption) | assumption)
                                      have q200 : x9_3 < (y198.length : Int) := of_decide_eq_true (by first | (with_reducible assumption) | assumption)
                                      obtain ⟨ad200, e200, hx200_0⟩ := Kd.at_bool (Kd.R_reads' HO_4.out).2.2 x9_3 p200 q200
                                      obtain rfl : (⟨go29, 0, none⟩ : Addr) = ad200 := (by injection e200)
                                      (first | simp only [add_plain] at hx200_0 | simp only [add_at] at hx200_0 | simp only [Addr.add, Nat.zero_add] at hx200_0 | skip)
                                      replace p200 := eq_true p200
                                      replace q200 := eq_true q200
                                      refine start_ (n := 8) (S := fun w' => w'.cell? ⟨gb187, 0, none⟩ = some (.int .i64 t192) ∧ w'.cell? ⟨gb187, 1, none⟩ = some (.int .u64 t193) ∧ w'.cell? ⟨go29, (x9_3).toNat, none⟩ = some (.bool (rdOf false y198 x9_3))) (ds := []) #[false, false, false, false, false, false, false, false] (by kernel_rfl) rfl rfl ⟨(blk_cell BK187.out 0).trans rfl, (blk_cell BK187.out 1).trans rfl, hx200_0⟩ (fun hHeld => ?_); refine with_tabW shutterlaw20_WindowNear.tab17 shutterlaw20_WindowNear.bits17 (fun HT_ HW_ => ?_)
                                      generalize wr.drew = w47 at HO_4 BK187 BK195 HB hx200_0 hHeld ⊢
                                      refine pure_ (i := 1) (N := some 54) (v := ?_) (a' := ?_) #[false, true, false, false, false, false, false, false] rfl rfl (any_of HT_.out (by kernel_rfl)) (fun _ _ _ h => h) (Or.inl ⟨by rfl, ?_⟩) ?_ ?_
                                      rotate_left
                                      · intro w'
                                        go_simp
                                        with_reducible rfl
                                      rotate_left
                                      · simp only [Act.put, List.setIfInBounds_toArray, List.set_cons_zero, List.set_cons_succ, i64_w, i32_w]
                                        rfl
                                      refine pure_ (i := 3) (N := some 56) (v := ?_) (a' := ?_) #[false, true, false, true, false, false, false, false] rfl rfl (any_of HT_.out (by kernel_rfl)) (fun _ _ _ h => h) (Or.inl ⟨by rfl, ?_⟩) ?_ ?_
                                      rotate_left
                                      · intro w'
                                        go_simp
                                        with_reducible rfl
                                      rotate_left
                                      · simp only [Act.put, List.setIfInBounds_toArray, List.set_cons_zero, List.set_cons_succ, i64_w, i32_w]
                                        rfl
                                      refine pure_ (i := 4) (N := some 57) (v := ?_) (a' := ?_) #[false, true, false, true, true, false, false, false] rfl rfl (any_of HT_.out (by kernel_rfl)) (fun _ _ _ h => h) (Or.inl ⟨by rfl, ?_⟩) ?_ ?_
                                      rotate_left
                                      · intro w'
                                        go_simp
                                        with_reducible rfl
                                      rotate_left
                                      · simp only [Act.put, List.setIfInBounds_toArray, List.set_cons_zero, List.set_cons_succ, i64_w, i32_w]
                                        rfl
                                      refine pure_ (i := 5) (N := some 58) (v := ?_) (a' := ?_) #[false, true, false, true, true, true, false, false] rfl rfl (any_of HT_.out (by kernel_rfl)) (fun _ _ _ h => h) (Or.inl ⟨by rfl, ?_⟩) ?_ ?_
                                      rotate_left
                                      · intro w'
                                        go_simp
                                        with_reducible rfl
                                      rotate_left
                                      · simp only [Act.put, List.setIfInBounds_toArray, List.set_cons_zero, List.set_cons_succ, i64_w, i32_w]
                                        rfl
                                      refine take_ (i := 0) (N := some 53) (v := ?_) (a' := ?_) #[true, true, false, true, true, true, false, false] rfl rfl (take_ofW HT_.out HW_.out (by kernel_rfl)) (fun _ _ _ h => h) (Or.inl ⟨by rfl, ?_⟩) hHeld ?_ ?_
                                      rotate_left
                                      · rintro w' ⟨s0, s1, s2⟩
                                        go_simp
                                        with_reducible rfl
                                      rotate_left
                                      · simp only [Act.put, List.setIfInBounds_toArray, List.set_cons_zero, List.set_cons_succ, i64_w, i32_w]
                                        rfl
                                      refine take_ (i := 6) (N := some 59) (v := ?_) (a' := ?_) #[true, true, false, true, true, true, true, false] rfl rfl (take_ofW HT_.out HW_.out (by kernel_rfl)) (fun _ _ _ h => h) (Or.inl ⟨by rfl, ?_⟩) hHeld ?_ ?_
                                      rotate_left
                                      · rintro w' ⟨s0, s1, s2⟩
                                        go_simp
                                        with_reducible rfl
                                      rotate_left
                                      · simp only [Act.put, List.setIfInBounds_toArray, List.set_cons_zero, List.set_cons_succ, i64_w, i32_w]
                                        rfl
                                      refine one_ (i := 2) (N := some 55) #[true, true, true, true, true, true, true, false] rfl rfl (one_of HT_.out (by kernel_rfl)) (by decide) (fun K hK => ?_)
                                      refine goes_ Tryd.func14 (by kernel_rfl) rfl #[.agg #[.int .i64 t192, .int .u64 t193], .int .i64 x9_3] (by rfl) rfl rfl (by (try simp only [List.map_toArray, List.map_cons, List.map_nil]); first | done | rfl | (simp only [List.length_drop, List.length_take]; rfl)) ?_
                                      with_reducible refine (window_Has.calls t192 t193 x9_3 t199 _ A43.out).mono ?_
                                      rintro e w48 ⟨rfl, hb⟩
                                      have HS2_ := (hb.cell (World.block_lt_of_cell? _ _ (hHeld.2.2))).trans (hHeld.2.2)
                                      refine ⟨_, rfl, ?_⟩
                                      have n0_ := Aside0.mk (Kd.R_below (by (with_reducible repeat (first | apply Kd.R_alloc | apply Kd.R_drewN | apply Kd.R_drew)); exact HO_4.out) hb)
                                      have n1_ := Aside0.mk (blk_below (g := gb187) (o := .cells #[.int .i64 t192, .int .u64 t193] 24 (0, 0)) (by (with_reducible repeat (first | refine blk_drewN ?_ _ | refine blk_drew ?_ | refine blk_alloc ?_ _)); exact BK187.out) hb)
                                      have n2_ := Aside0.mk (blk_below (g := gb195) (o := .cells #[.int .i64 t192, .int .u64 t193] 24 (0, 0)) (by (with_reducible repeat (first | refine blk_drewN ?_ _ | refine blk_drew ?_ | refine blk_alloc ?_ _)); exact BK195.out) hb)
                                      have n3_ := Aside0.mk (below_step (by repeat (first | (with_reducible first | exact HB.out | apply below_alloc | apply pw_below_drewN | apply below_drew1 | refine below_set ?_ GE187.out | refine below_set ?_ GE195.out) | exact HB.out)) hb)
                                      clear HO_4
                                      clear BK187
                                      clear BK195
                                      clear HB
                                      have HO_4 := n0_
                                      have BK187 := n1_
                                      have BK195 := n2_
                                      have HB := n3_
                                      clear n0_ n1_ n2_ n3_
                                      (try clear hb)
                                      (try clear hb2)
                                      (try clear hk)
                                      (try clear hi)
                                      refine hK.out _ _ ⟨(blk_cell BK187.out 0).trans rfl, (blk_cell BK187.out 1).trans rfl, HS2_⟩ (fun hHeld => ?_)
                                      clear hK K
                                      refine norm_ (a' := ?_) ?_ ?_
                                      rotate_left
                                      · show Act.put _ (some 55) _ = _
                                        simp only [Act.put, List.setIfInBounds_toArray, List.set_cons_zero, List.set_cons_succ, i64_w, i32_w]
                                        rfl
                                      refine pure_ (i := 7) (N := some 60) (v := ?_) (a' := ?_) #[true, true, true, true, true, true, true, true] rfl rfl (any_of HT_.out (by kernel_rfl)) (fun _ _ _ h => h) (Or.inl ⟨by rfl, ?_⟩) ?_ ?_
                                      rotate_left
                                      · intro w'
                                        go_simp
                                        with_reducible rfl
                                      rotate_left
                                      · simp only [Act.put, List.setIfInBounds_toArray, List.set_cons_zero, List.set_cons_succ, i64_w, i32_w]
                                        rfl
                                      refine done_ (done_of HT_.out (by kernel_rfl)) ?_
                                      try go_wp2
                                      go_ret
                                      exact ⟨by first | rfl | (simp [errW_none, errW_some] <;> rfl) | (simp only [← hji17]; first | rfl | (simp [errW_none, errW_some] <;> rfl)) | (simp [*, errW_none, errW_some] <;> rfl), by repeat (first | (with_reducible first | exact HB.out | apply below_alloc | apply pw_below_drewN | apply below_drew1 | refine below_set ?_ GE187.out | refine below_set ?_ GE195.out) | exact HB.out)⟩
                                    · rw [if_neg c46] at H
                                      have c46b0 : (t199 != (rdOf false y198 x9_3)) = false := by simpa using c46
                                      (try (have c46b1 : decide (t199 = (rdOf false y198 x9_3)) = true := by simpa using c46))
                                      (try (have c46b2 : (t199 == (rdOf false y198 x9_3)) = true := by simpa using c46))
                                      clear c46
                                      have H' := Aside0.mk H
                                      clear H
                                      try go_wp2
                                      have n0_ := Aside0.mk (Kd.R_drew HO_4.out)
                                      have n1_ := Aside0.mk (blk_drew BK187.out)
                                      have n2_ := Aside0.mk (blk_drew BK195.out)
                                      have n3_ := Aside0.mk (below_drew1 HB.out)
                                      clear HO_4
                                      clear BK187
                                      clear BK195
                                      clear HB
                                      have HO_4 := n0_
                                      have BK187 := n1_
                                      have BK195 := n2_
                                      have HB := n3_
                                      clear n0_ n1_ n2_ n3_
                                      have p200 : 0 ≤ (x9_3 : Int) := of_decide_eq_true (by first | (with_reducible assumption) | assumption)
                                      have q200 : x9_3 < (y198.length : Int) := of_decide_eq_true (by first | (with_reducible assumption) | assumption)
                                      obtain ⟨ad200, e200, hx200_0⟩ := Kd.at_bool (Kd.R_reads' HO_4.out).2.2 x9_3 p200 q200
                                      obtain rfl : (⟨go29, 0, none⟩ : Addr) = ad200 := (by injection e200)
                                      (first | simp only [add_plain] at hx200_0 | simp only [add_at] at hx200_0 | simp only [Addr.add, Nat.zero_add] at hx200_0 | skip)
                                      replace p200 := eq_true p200
                                      replace q200 := eq_true q200
                                      refine start_ (n := 8) (S := fun w' => w'.cell? ⟨gb187, 0, none⟩ = some (.int .i64 t192) ∧ w'.cell? ⟨gb187, 1, none⟩ = some (.int .u64 t193) ∧ w'.cell? ⟨go29, (x9_3).toNat, none⟩ = some (.bool (rdOf false y198 x9_3))) (ds := []) #[false, false, false, false, false, false, false, false] (by kernel_rfl) rfl rfl ⟨(blk_cell BK187.out 0).trans rfl, (blk_cell BK187.out 1).trans rfl, hx200_0⟩ (fun hHeld => ?_); refine with_tabW shutterlaw20_WindowNear.tab17 shutterlaw20_WindowNear.bits17 (fun HT_ HW_ => ?_)
                                      generalize wr.drew = w49 at HO_4 BK187 BK195 HB hx200_0 hHeld ⊢
                                      refine pure_ (i := 1) (N := some 54) (v := ?_) (a' := ?_) #[false, true, false, false, false, false, false, false] rfl rfl (any_of HT_.out (by kernel_rfl)) (fun _ _ _ h => h) (Or.inl ⟨by rfl, ?_⟩) ?_ ?_
                                      rotate_left
                                      · intro w'
                                        go_simp
                                        with_reducible rfl
                                      rotate_left
                                      · simp only [Act.put, List.setIfInBounds_toArray, List.set_cons_zero, List.set_cons_succ, i64_w, i32_w]
                                        rfl
                                      refine pure_ (i := 3) (N := some 56) (v := ?_) (a' := ?_) #[false, true, false, true, false, false, false, false] rfl rfl (any_of HT_.out (by kernel_rfl)) (fun _ _ _ h => h) (Or.inl ⟨by rfl, ?_⟩) ?_ ?_
                                      rotate_left
                                      · intro w'
                                        go_simp
                                        with_reducible rfl
                                      rotate_left
                                      · simp only [Act.put, List.setIfInBounds_toArray, List.set_cons_zero, List.set_cons_succ, i64_w, i32_w]
                                        rfl
                                      refine pure_ (i := 4) (N := some 57) (v := ?_) (a' := ?_) #[false, true, false, true, true, false, false, false] rfl rfl (any_of HT_.out (by kernel_rfl)) (fun _ _ _ h => h) (Or.inl ⟨by rfl, ?_⟩) ?_ ?_
                                      rotate_left
                                      · intro w'
                                        go_simp
                                        with_reducible rfl
                                      rotate_left
                                      · simp only [Act.put, List.setIfInBounds_toArray, List.set_cons_zero, List.set_cons_succ, i64_w, i32_w]
                                        rfl
                                      refine pure_ (i := 5) (N := some 58) (v := ?_) (a' := ?_) #[false, true, false, true, true, true, false, false] rfl rfl (any_of HT_.out (by kernel_rfl)) (fun _ _ _ h => h) (Or.inl ⟨by rfl, ?_⟩) ?_ ?_
                                      rotate_left
                                      · intro w'
                                        go_simp
                                        with_reducible rfl
                                      rotate_left
                                      · simp only [Act.put, List.setIfInBounds_toArray, List.set_cons_zero, List.set_cons_succ, i64_w, i32_w]
                                        rfl
                                      refine take_ (i := 0) (N := some 53) (v := ?_) (a' := ?_) #[true, true, false, true, true, true, false, false] rfl rfl (take_ofW HT_.out HW_.out (by kernel_rfl)) (fun _ _ _ h => h) (Or.inl ⟨by rfl, ?_⟩) hHeld ?_ ?_
                                      rotate_left
                                      · rintro w' ⟨s0, s1, s2⟩
                                        go_simp
                                        with_reducible rfl
                                      rotate_left
                                      · simp only [Act.put, List.setIfInBounds_toArray, List.set_cons_zero, List.set_cons_succ, i64_w, i32_w]
                                        rfl
                                      refine take_ (i := 6) (N := some 59) (v := ?_) (a' := ?_) #[true, true, false, true, true, true, true, false] rfl rfl (take_ofW HT_.out HW_.out (by kernel_rfl)) (fun _ _ _ h => h) (Or.inl ⟨by rfl, ?_⟩) hHeld ?_ ?_
                                      rotate_left
                                      · rintro w' ⟨s0, s1, s2⟩
                                        go_simp
                                        with_reducible rfl
                                      rotate_left
                                      · simp only [Act.put, List.setIfInBounds_toArray, List.set_cons_zero, List.set_cons_succ, i64_w, i32_w]
                                        rfl
                                      refine one_ (i := 2) (N := some 55) #[true, true, true, true, true, true, true, false] rfl rfl (one_of HT_.out (by kernel_rfl)) (by decide) (fun K hK => ?_)
                                      refine goes_ Tryd.func14 (by kernel_rfl) rfl #[.agg #[.int .i64 t192, .int .u64 t193], .int .i64 x9_3] (by rfl) rfl rfl (by (try simp only [List.map_toArray, List.map_cons, List.map_nil]); first | done | rfl | (simp only [List.length_drop, List.length_take]; rfl)) ?_
                                      with_reducible refine (window_Has.calls t192 t193 x9_3 t199 _ A43.out).mono ?_
                                      rintro e w50 ⟨rfl, hb⟩
                                      have HS2_ := (hb.cell (World.block_lt_of_cell? _ _ (hHeld.2.2))).trans (hHeld.2.2)
                                      refine ⟨_, rfl, ?_⟩
                                      have n0_ := Aside0.mk (Kd.R_below (by (with_reducible repeat (first | apply Kd.R_alloc | apply Kd.R_drewN | apply Kd.R_drew)); exact HO_4.out) hb)
                                      have n1_ := Aside0.mk (blk_below (g := gb187) (o := .cells #[.int .i64 t192, .int .u64 t193] 24 (0, 0)) (by (with_reducible repeat (first | refine blk_drewN ?_ _ | refine blk_drew ?_ | refine blk_alloc ?_ _)); exact BK187.out) hb)
                                      have n2_ := Aside0.mk (blk_below (g := gb195) (o := .cells #[.int .i64 t192, .int .u64 t193] 24 (0, 0)) (by (with_reducible repeat (first | refine blk_drewN ?_ _ | refine blk_drew ?_ | refine blk_alloc ?_ _)); exact BK195.out) hb)
                                      have n3_ := Aside0.mk (below_step (by repeat (first | (with_reducible first | exact HB.out | apply below_alloc | apply pw_below_drewN | apply below_drew1 | refine below_set ?_ GE187.out | refine below_set ?_ GE195.out) | exact HB.out)) hb)
                                      clear HO_4
                                      clear BK187
                                      clear BK195
                                      clear HB
                                      have HO_4 := n0_
                                      have BK187 := n1_
                                      have BK195 := n2_
                                      have HB := n3_
                                      clear n0_ n1_ n2_ n3_
                                      (try clear hb)
                                      (try clear hb2)
                                      (try clear hk)
                                      (try clear hi)
                                      refine hK.out _ _ ⟨(blk_cell BK187.out 0).trans rfl, (blk_cell BK187.out 1).trans rfl, HS2_⟩ (fun hHeld => ?_)
                                      clear hK K
                                      refine norm_ (a' := ?_) ?_ ?_
                                      rotate_left
                                      · show Act.put _ (some 55) _ = _
                                        simp only [Act.put, List.setIfInBounds_toArray, List.set_cons_zero, List.set_cons_succ, i64_w, i32_w]
                                        rfl
                                      refine pure_ (i := 7) (N := some 60) (v := ?_) (a' := ?_) #[true, true, true, true, true, true, true, true] rfl rfl (any_of HT_.out (by kernel_rfl)) (fun _ _ _ h => h) (Or.inl ⟨by rfl, ?_⟩) ?_ ?_
                                      rotate_left
                                      · intro w'
                                        go_simp
                                        with_reducible rfl
                                      rotate_left
                                      · simp only [Act.put, List.setIfInBounds_toArray, List.set_cons_zero, List.set_cons_succ, i64_w, i32_w]
                                        rfl
                                      refine done_ (done_of HT_.out (by kernel_rfl)) ?_
                                      try go_wp2
                                      (try simp only [← hl4_3])
                                      (try simp only [add_plain])
                                      go_roundg k3
                                      case measure => have := HJ1.out; have := HK2.out; have := HK3.out; omega
                                      case rel => exact ⟨(wrap64 (x9_3 + 1)), (by first | rfl | (simp; done) | (simp [*]; done)), H', ⟨by have := HJ1.out; have := HK2.out; have := HK3.out; omega⟩, ⟨by (try simp only [hl4_3]); (with_reducible repeat (first | apply Kd.R_alloc | apply Kd.R_drewN | apply Kd.R_drew)); exact HO_4.out⟩, ⟨by (try simp only [hl4_3]); (with_reducible repeat (first | refine blk_drewN ?_ _ | refine blk_drew ?_ | refine blk_alloc ?_ _)); exact BK187.out⟩, ⟨by (try simp only [hl4_3]); (with_reducible repeat (first | refine blk_drewN ?_ _ | refine blk_drew ?_ | refine blk_alloc ?_ _)); exact BK195.out⟩, ⟨by repeat (first | (with_reducible first | exact HB.out | apply below_alloc | apply pw_below_drewN | apply below_drew1 | refine below_set ?_ GE187.out | refine below_set ?_ GE195.out) | exact HB.out)⟩⟩
                                  · rw [if_neg c45] at H
                                    exact absurd H (by simp)
                                · rw [if_neg c44] at H
                                  exact absurd H (by simp)
                              · rw [if_neg c42] at H
                                have c42b0 : decide (x9_3 ≤ 64) = false := decide_eq_false c42
                                clear c42
                                have H' := Aside0.mk H
                                clear H
                                go_wp2
                                (try simp only [← hl4_3])
                                (try simp only [add_plain])
                                go_roundg k3
                                case measure => have := HJ1.out; have := HK2.out; have := HK3.out; omega
                                case rel => exact ⟨(y198), (wrap64 (x5_2 + 1)), (t192), (t193), (by first | rfl | (simp; done) | (simp [*]; done)), H', ⟨by have := HJ1.out; have := HK2.out; have := HK3.out; omega⟩, ⟨by (try simp only [hl4_3]); (with_reducible repeat (first | apply Kd.R_alloc | apply Kd.R_drewN | apply Kd.R_drew)); exact HO_4.out⟩, ⟨by (try simp only [hl4_3]); (with_reducible repeat (first | refine blk_drewN ?_ _ | refine blk_drew ?_ | refine blk_alloc ?_ _)); exact BK187.out⟩, ⟨by repeat (first | (with_reducible first | exact HB.out | apply below_alloc | apply pw_below_drewN | apply below_drew1 | refine below_set ?_ GE187.out | refine below_set ?_ GE195.out) | exact HB.out)⟩⟩
                      · rw [if_neg c19] at H
                        exact absurd H (by simp)
                    · rw [if_neg c18] at H
                      exact absurd H (by simp)
                  · have H1 : (if 0 ≤ (wrap64 (1 + (wrap64 (Int.tmod (rd l0 x5_2) 64)))) then (if (wrap64 (1 + (wrap64 (Int.tmod (rd l0 x5_2) 64)))) < (x4_2.length : Int) then (if (false == (rdOf false x4_2 (wrap64 (1 + (wrap64 (Int.tmod (rd l0 x5_2) 64)))))) = true then (some false) else (shutterlaw20_WindowNear.l1 k2 l0 (x4_2.set ((wrap64 (1 + (wrap64 (Int.tmod (rd l0 x5_2) 64)))) : Int).toNat true) x5_2 1 t192 t193)) else (none)) else (none)) = some r := by rw [if_neg (show ¬ (some q196).isNone = true by simp)] at H; exact H
                    clear H
                    have H := H1
                    clear H1
                    try simp only [errW_none, errW_some]
                    obtain ⟨ji51, hji51⟩ : ∃ j_ : Int, (wrap64 (1 + (wrap64 (Int.tmod (rd l0 x5_2) 64)))) = j_ := ⟨_, rfl⟩
                    replace H : (if 0 ≤ (ji51) then (if (ji51) < (x4_2.length : Int) then (if (false == (rdOf false x4_2 (ji51))) = true then (some false) else (shutterlaw20_WindowNear.l1 k2 l0 (x4_2.set ((ji51) : Int).toNat true) x5_2 1 t192 t193)) else (none)) else (none)) = some r := by first | (rw [hji51] at H; exact H) | (simp only [hji51] at H ⊢; exact H)
                    (try rw [hji51] at A16)
                    have hji51w : (IntKind.i64.wrap (1 + (wrap64 (Int.tmod (rd l0 x5_2) 64)))) = ji51 := (i64_w _).trans hji51
                    by_cases c52 : 0 ≤ (ji51)
                    · rw [if_pos c52] at H
                      have c52b0 : decide (0 ≤ (ji51)) = true := decide_eq_true c52
                      clear c52
                      by_cases c53 : (ji51) < (x4_2.length : Int)
                      · rw [if_pos c53] at H
                        have c53b0 : decide ((ji51) < (x4_2.length : Int)) = true := decide_eq_true c53
                        clear c53
                        by_cases c54 : (false == (rdOf false x4_2 (ji51))) = true
                        · rw [if_pos c54] at H
                          have c54b0 : (false == (rdOf false x4_2 (ji51))) = true := c54
                          (try (have c54b1 : decide (false = (rdOf false x4_2 (ji51))) = true := by simpa using c54))
                          (try (have c54b2 : (false == (rdOf false x4_2 (ji51))) = true := by simpa using c54))
                          clear c54
                          obtain rfl := Option.some.inj H
                          have p191 : 0 ≤ (x5_2 : Int) := of_decide_eq_true (by first | (with_reducible assumption) | assumption)
                          have q191 : x5_2 < (l0.length : Int) := of_decide_eq_true (by first | (with_reducible assumption) | assumption)
                          obtain ⟨ad191, e191, hx191_0⟩ := Kd.at_int HR0.out x5_2 p191 q191
                          cases e191
                          replace hx191_0 := (HB.out.cell (World.block_lt_of_cell? w _ hx191_0)).trans hx191_0
                          replace p191 := eq_true p191
                          replace q191 := eq_true q191
                          have hcz55_0 : wr.cell? ⟨gb187, 0, none⟩ = some (.int .i64 x188000_2) := (blk_cell BK187.out 0).trans rfl
                          have hcz55_1 : wr.cell? ⟨gb187, 1, none⟩ = some (.int .u64 x188001_2) := (blk_cell BK187.out 1).trans rfl
                          have hfz55_0 := blk_frozen BK187.out 0
                          have hfz55_1 := blk_frozen BK187.out 1
                          try go_wp2_with (first | ((with_reducible refine gate_callee (f := 11) rfl ?_); refine goesL_ (some 35) rfl rfl Tryd.func11 (by kernel_rfl) rfl #[.agg #[.int .i64 x188000_2, .int .u64 x188001_2], .int .i64 ji51] rfl (by (try simp only [List.map_toArray, List.map_cons, List.map_nil]); first | done | (simp only [hji51]; rfl) | rfl | (simp only [List.length_drop, List.length_take]; rfl)) ?_; (with_reducible refine (window_Let.calls k2 x188000_2 x188001_2 ji51 t192 t193 (some q196) _ A16.out).mono ?_); rintro e w56 ⟨rfl, hb⟩; refine ⟨_, rfl, ?_⟩; have n0_ := Aside0.mk (Kd.R_below (by (with_reducible repeat (first | apply Kd.R_alloc | apply Kd.R_drewN | apply Kd.R_drew)); exact HO_4.out) hb); have n1_ := Aside0.mk (blk_below (g := gb187) (o := .cells #[.int .i64 x188000_2, .int .u64 x188001_2] 24 (0, 0)) (by (with_reducible repeat (first | refine blk_drewN ?_ _ | refine blk_drew ?_ | refine blk_alloc ?_ _)); exact BK187.out) hb); have n2_ := Aside0.mk (below_step (by repeat (first | (with_reducible first | exact HB.out | apply below_alloc | apply pw_below_drewN | apply below_drew1 | refine below_set ?_ GE187.out) | exact HB.out)) hb); clear HO_4; clear BK187; clear HB; have HO_4 := n0_; have BK187 := n1_; have HB := n2_; clear n0_ n1_ n2_; (try clear hb); (try clear hb2); (try clear hk); (try clear hi); (try simp only [errW_none, errW_some])) | ((with_reducible refine gate_dst (N := 7) rfl ?_); (try (refine gate_guard (by rfl) ?_; dsimp only)); refine box_event ?hg (N := 7) ?hd (cs := #[.int .i64 0, .int .u64 0]) (t := 24) ?hr ?_; (case hd => rfl); (case hg => rfl); (case hr => first | (go_simp; done) | (go_simp; rfl)); intro gb195 hg w57 hbox hb; have n0_ := Aside0.mk (Kd.R_below (by (with_reducible repeat (first | apply Kd.R_alloc | apply Kd.R_drewN | apply Kd.R_drew)); exact HO_4.out) hb); have n1_ := Aside0.mk (blk_below (g := gb187) (o := .cells #[.int .i64 x188000_2, .int .u64 x188001_2] 24 (0, 0)) (by (with_reducible repeat (first | refine blk_drewN ?_ _ | refine blk_drew ?_ | refine blk_alloc ?_ _)); exact BK187.out) hb); have n2_ := Aside0.mk (below_step (by repeat (first | (with_reducible first | exact HB.out | apply below_alloc | apply pw_below_drewN | apply below_drew1 | refine below_set ?_ GE187.out) | exact HB.out)) hb); have n3_ := Aside0.mk (hbox); have n4_ := Aside0.mk ((by rw [hg]; exact (below_size (by repeat (first | (with_reducible first | exact HB.out | apply below_alloc | apply pw_below_drewN | apply below_drew1 | refine below_set ?_ GE187.out) | exact HB.out))) : w.heap.size ≤ gb195)); have n5_ := Aside0.mk ((by rw [hg]; exact (below_size (by repeat (first | (with_reducible first | exact HB.out | apply below_alloc | apply pw_below_drewN | apply below_drew1 | refine below_set ?_ GE187.out) | exact HB.out))) : w.heap.size ≤ gb195)); have n6_ := Aside0.mk ((by rw [hg]; exact Nat.ne_of_lt (blk_lt (g := gb187) (o := .cells #[.int .i64 x188000_2, .int .u64 x188001_2] 24 (0, 0)) (by (with_reducible repeat (first | refine blk_drewN ?_ _ | refine blk_drew ?_ | refine blk_alloc ?_ _)); exact BK187.out)) : gb187 ≠ gb195)); have n7_ := Aside0.mk ((by rw [hg]; exact Nat.ne_of_gt (blk_lt (g := gb187) (o := .cells #[.int .i64 x188000_2, .int .u64 x188001_2] 24 (0, 0)) (by (with_reducible repeat (first | refine blk_drewN ?_ _ | refine blk_drew ?_ | refine blk_alloc ?_ _)); exact BK187.out)) : gb195 ≠ gb187)); clear HO_4; clear BK187; clear HB; have HO_4 := n0_; have BK187 := n1_; have HB := n2_; have BK195 := n3_; have GW195 := n4_; have GE195 := n5_; have NB187_195 := n6_; have NB195_187 := n7_; clear n0_ n1_ n2_ n3_ n4_ n5_ n6_ n7_; clear hb hbox hg; have hnb58 := NB195_187.out; have hnc58 := NB187_195.out; have hcz59_0 : w57.cell? ⟨gb195, 0, none⟩ = some (.int .i64 0) := (blk_cell BK195.out 0).trans rfl; have hcz59_1 : w57.cell? ⟨gb195, 1, none⟩ = some (.int .u64 0) := (blk_cell BK195.out 1).trans rfl; have hfz59_0 := blk_frozen BK195.out 0; have hfz59_1 := blk_frozen BK195.out 1))
                          have n0_ : Aside0 (Kd.R Kd.bool 4 ((w57.setCell ⟨gb195, 0, none⟩ (.int .i64 t192)).setCell ⟨gb195, 1, none⟩ (.int .u64 t193)) w.heap.size (fun _ => True) v189 x4_2) := ⟨by (with_reducible repeat (first | apply Kd.R_alloc | apply Kd.R_drewN | apply Kd.R_drew)); exact Kd.R_mono (Kd.R_far (p := ⟨gb195, 1, none⟩) (Kd.R_far (p := ⟨gb195, 0, none⟩) (Kd.R_types HO_4.out BK195.out (by decide)) (fun _ hk => hk.2) (.int .i64 t192)) (fun _ hk => hk.2) (.int .u64 t193)) (fun _ hk => trivial)⟩
                          have n1_ : Aside0 (((w57.setCell ⟨gb195, 0, none⟩ (.int .i64 t192)).setCell ⟨gb195, 1, none⟩ (.int .u64 t193)).heap[gb187]? = some (.cells #[.int .i64 x188000_2, .int .u64 x188001_2] 24 (0, 0))) := ⟨by (with_reducible repeat (first | refine blk_drewN ?_ _ | refine blk_drew ?_ | refine blk_alloc ?_ _)); refine blk_far ?_ NB187_195.out _; (with_reducible repeat (first | refine blk_drewN ?_ _ | refine blk_drew ?_ | refine blk_alloc ?_ _)); refine blk_far ?_ NB187_195.out _; (with_reducible repeat (first | refine blk_drewN ?_ _ | refine blk_drew ?_ | refine blk_alloc ?_ _)); exact BK187.out⟩
                          have n2_ : Aside0 (((w57.setCell ⟨gb195, 0, none⟩ (.int .i64 t192)).setCell ⟨gb195, 1, none⟩ (.int .u64 t193)).heap[gb195]? = some (.cells #[.int .i64 t192, .int .u64 t193] 24 (0, 0))) := ⟨by (with_reducible repeat (first | refine blk_drewN ?_ _ | refine blk_drew ?_ | refine blk_alloc ?_ _)); refine blk_put (cs := #[.int .i64 t192, .int .u64 0]) ?_ 1 _ rfl; (with_reducible repeat (first | refine blk_drewN ?_ _ | refine blk_drew ?_ | refine blk_alloc ?_ _)); refine blk_put (cs := #[.int .i64 0, .int .u64 0]) ?_ 0 _ rfl; (with_reducible repeat (first | refine blk_drewN ?_ _ | refine blk_drew ?_ | refine blk_alloc ?_ _)); exact BK195.out⟩
                          have n3_ : Aside0 (Below w.heap.size w ((w57.setCell ⟨gb195, 0, none⟩ (.int .i64 t192)).setCell ⟨gb195, 1, none⟩ (.int .u64 t193))) := ⟨by repeat (first | (with_reducible first | exact HB.out | apply below_alloc | apply pw_below_drewN | apply below_drew1 | refine below_set ?_ GE187.out | refine below_set ?_ GE195.out) | exact HB.out)⟩
                          (try clear HO_4)
                          (try clear BK187)
                          (try clear BK195)
                          (try clear HB)
                          generalize ((w57.setCell ⟨gb195, 0, none⟩ (.int .i64 t192)).setCell ⟨gb195, 1, none⟩ (.int .u64 t193)) = w60 at n0_ n1_ n2_ n3_ ⊢
                          have HO_4 := n0_
                          have BK187 := n1_
                          have BK195 := n2_
                          have HB := n3_
                          clear n0_ n1_ n2_ n3_
                          have n0_ := Aside0.mk (Kd.R_drew HO_4.out)
                          have n1_ := Aside0.mk (blk_drew BK187.out)
                          have n2_ := Aside0.mk (blk_drew BK195.out)
                          have n3_ := Aside0.mk (below_drew1 HB.out)
                          clear HO_4
                          clear BK187
                          clear BK195
                          clear HB
                          have HO_4 := n0_
                          have BK187 := n1_
                          have BK195 := n2_
                          have HB := n3_
                          clear n0_ n1_ n2_ n3_
                          obtain ⟨Ao62, co62, eo62⟩ := Kd.R_slice HO_4.out
                          (first | subst eo62 | (injection eo62 with f1_ f2_ f3_; have f4_ := f1_.symm; have f5_ := f3_.symm; clear f1_ f2_ f3_; subst f4_; subst f5_))
                          have p201 : 0 ≤ ((ji51) : Int) := of_decide_eq_true (by first | (with_reducible assumption) | assumption)
                          have q201 : (ji51) < (x4_2.length : Int) := of_decide_eq_true (by first | (with_reducible assumption) | assumption)
                          obtain ⟨ad201, e201, hx201_0⟩ := Kd.at_bool (Kd.R_reads' HO_4.out).2.2 (ji51) p201 q201
                          cases e201
                          replace p201 := eq_true p201
                          replace q201 := eq_true q201
                          refine start_ (n := 7) (S := fun w' => w'.cell? (ad201.add ((ji51)).toNat) = some (.bool (rdOf false x4_2 (ji51)))) (ds := []) #[false, false, false, false, false, false, false] (by kernel_rfl) rfl rfl (hx201_0) (fun hHeld => ?_)
                          generalize w60.drew = w61 at HO_4 BK187 BK195 HB hx201_0 hHeld ⊢
                          refine pure_ (i := 0) (N := some 38) (v := ?_) (a' := ?_) #[true, false, false, false, false, false, false] rfl rfl (by kernel_rfl) (fun _ _ _ h => h) (Or.inl ⟨by rfl, ?_⟩) ?_ ?_
                          rotate_left
                          · intro w'
                            go_simp
                            with_reducible rfl
                          rotate_left
                          · simp only [Act.put, List.setIfInBounds_toArray, List.set_cons_zero, List.set_cons_succ, i64_w, i32_w]
                            rfl
                          refine pure_ (i := 1) (N := some 39) (v := ?_) (a' := ?_) #[true, true, false, false, false, false, false] rfl rfl (by kernel_rfl) (fun _ _ _ h => h) (Or.inl ⟨by rfl, ?_⟩) ?_ ?_
                          rotate_left
                          · intro w'
                            go_simp
                            with_reducible rfl
                          rotate_left
                          · simp only [Act.put, List.setIfInBounds_toArray, List.set_cons_zero, List.set_cons_succ, i64_w, i32_w]
                            rfl
                          refine pure_ (i := 2) (N := some 40) (v := ?_) (a' := ?_) #[true, true, true, false, false, false, false] rfl rfl (by kernel_rfl) (fun _ _ _ h => h) (Or.inl ⟨by rfl, ?_⟩) ?_ ?_
                          rotate_left
                          · intro w'
                            go_simp
                            with_reducible rfl
                          rotate_left
                          · simp only [Act.put, List.setIfInBounds_toArray, List.set_cons_zero, List.set_cons_succ, i64_w, i32_w]
                            rfl
                          refine pure_ (i := 3) (N := some 41) (v := ?_) (a' := ?_) #[true, true, true, true, false, false, false] rfl rfl (by kernel_rfl) (fun _ _ _ h => h) (Or.inl ⟨by rfl, ?_⟩) ?_ ?_
                          rotate_left
                          · intro w'
                            go_simp
                            with_reducible rfl
                          rotate_left
                          · simp only [Act.put, List.setIfInBounds_toArray, List.set_cons_zero, List.set_cons_succ, i64_w, i32_w]
                            rfl
                          refine pure_ (i := 4) (N := some 42) (v := ?_) (a' := ?_) #[true, true, true, true, true, false, false] rfl rfl (by kernel_rfl) (fun _ _ _ h => h) (Or.inl ⟨by rfl, ?_⟩) ?_ ?_
                          rotate_left
                          · intro w'
                            go_simp
                            with_reducible rfl
                          rotate_left
                          · simp only [Act.put, List.setIfInBounds_toArray, List.set_cons_zero, List.set_cons_succ, i64_w, i32_w]
                            rfl
                          refine take_ (i := 5) (N := some 43) (v := ?_) (a' := ?_) #[true, true, true, true, true, true, false] rfl rfl (by kernel_rfl) (fun _ _ _ h => h) (Or.inl ⟨by rfl, ?_⟩) hHeld ?_ ?_
                          rotate_left
                          · intro w' s0
                            go_simp
                            with_reducible rfl
                          rotate_left
                          · simp only [Act.put, List.setIfInBounds_toArray, List.set_cons_zero, List.set_cons_succ, i64_w, i32_w]
                            rfl
                          refine pure_ (i := 6) (N := some 44) (v := ?_) (a' := ?_) #[true, true, true, true, true, true, true] rfl rfl (by kernel_rfl) (fun _ _ _ h => h) (Or.inl ⟨by rfl, ?_⟩) ?_ ?_
                          rotate_left
                          · intro w'
                            go_simp
                            with_reducible rfl
                          rotate_left
                          · simp only [Act.put, List.setIfInBounds_toArray, List.set_cons_zero, List.set_cons_succ, i64_w, i32_w]
                            rfl
                          refine done_ (by kernel_rfl) ?_
                          try go_wp2
                          go_ret
                          exact ⟨by first | rfl | (simp [errW_none, errW_some] <;> rfl) | (simp only [← hji51]; first | rfl | (simp [errW_none, errW_some] <;> rfl)) | (simp [*, errW_none, errW_some] <;> rfl), by repeat (first | (with_reducible first | exact HB.out | apply below_alloc | apply pw_below_drewN | apply below_drew1 | refine below_set ?_ GE187.out | refine below_set ?_ GE195.out) | exact HB.out)⟩
                        · rw [if_neg c54] at H
                          have c54b0 : (false == (rdOf false x4_2 (ji51))) = false := by simpa using c54
                          (try (have c54b1 : decide (false = (rdOf false x4_2 (ji51))) = false := by simpa using c54))
                          (try (have c54b2 : (false == (rdOf false x4_2 (ji51))) = false := by simpa using c54))
                          (try (have c54b3 : ¬ (false = (rdOf false x4_2 (ji51))) := by simpa using c54))
                          clear c54
                          obtain ⟨y202, hy202⟩ : ∃ y_ : List Bool, y_ = (x4_2.set ((ji51) : Int).toNat true) := ⟨_, rfl⟩
                          replace H : (shutterlaw20_WindowNear.l1 k2 l0 y202 x5_2 1 t192 t193) = some r := by first | (rw [hy202]; with_reducible exact H) | (have H2_ := (Option.bind_some _ _).symm.trans H; rw [hy202]; with_reducible exact H2_) | (have H2_ := (Option.bind_some _ _).symm.trans H; with_reducible exact H2_) | with_reducible exact H | (rw [hy202]; exact H) | exact H
                          have Ny202 := Aside0.mk hy202
                          clear hy202
                          have H' := Aside0.mk H
                          clear H
                          have p191 : 0 ≤ (x5_2 : Int) := of_decide_eq_true (by first | (with_reducible assumption) | assumption)
                          have q191 : x5_2 < (l0.length : Int) := of_decide_eq_true (by first | (with_reducible assumption) | assumption)
                          obtain ⟨ad191, e191, hx191_0⟩ := Kd.at_int HR0.out x5_2 p191 q191
                          cases e191
                          replace hx191_0 := (HB.out.cell (World.block_lt_of_cell? w _ hx191_0)).trans hx191_0
                          replace p191 := eq_true p191
                          replace q191 := eq_true q191
                          have hcz64_0 : wr.cell? ⟨gb187, 0, none⟩ = some (.int .i64 x188000_2) := (blk_cell BK187.out 0).trans rfl
                          have hcz64_1 : wr.cell? ⟨gb187, 1, none⟩ = some (.int .u64 x188001_2) := (blk_cell BK187.out 1).trans rfl
                          have hfz64_0 := blk_frozen BK187.out 0
                          have hfz64_1 := blk_frozen BK187.out 1
                          try go_wp2_with (first | ((with_reducible refine gate_callee (f := 11) rfl ?_); refine goesL_ (some 35) rfl rfl Tryd.func11 (by kernel_rfl) rfl #[.agg #[.int .i64 x188000_2, .int .u64 x188001_2], .int .i64 ji51] rfl (by (try simp only [List.map_toArray, List.map_cons, List.map_nil]); first | done | (simp only [hji51]; rfl) | rfl | (simp only [List.length_drop, List.length_take]; rfl)) ?_; (with_reducible refine (window_Let.calls k2 x188000_2 x188001_2 ji51 t192 t193 (some q196) _ A16.out).mono ?_); rintro e w65 ⟨rfl, hb⟩; refine ⟨_, rfl, ?_⟩; have n0_ := Aside0.mk (Kd.R_below (by (with_reducible repeat (first | apply Kd.R_alloc | apply Kd.R_drewN | apply Kd.R_drew)); exact HO_4.out) hb); have n1_ := Aside0.mk (blk_below (g := gb187) (o := .cells #[.int .i64 x188000_2, .int .u64 x188001_2] 24 (0, 0)) (by (with_reducible repeat (first | refine blk_drewN ?_ _ | refine blk_drew ?_ | refine blk_alloc ?_ _)); exact BK187.out) hb); have n2_ := Aside0.mk (below_step (by repeat (first | (with_reducible first | exact HB.out | apply below_alloc | apply pw_below_drewN | apply below_drew1 | refine below_set ?_ GE187.out) | exact HB.out)) hb); clear HO_4; clear BK187; clear HB; have HO_4 := n0_; have BK187 := n1_; have HB := n2_; clear n0_ n1_ n2_; (try clear hb); (try clear hb2); (try clear hk); (try clear hi); (try simp only [errW_none, errW_some])) | ((with_reducible refine gate_dst (N := 7) rfl ?_); (try (refine gate_guard (by rfl) ?_; dsimp only)); refine box_event ?hg (N := 7) ?hd (cs := #[.int .i64 0, .int .u64 0]) (t := 24) ?hr ?_; (case hd => rfl); (case hg => rfl); (case hr => first | (go_simp; done) | (go_simp; rfl)); intro gb195 hg w66 hbox hb; have n0_ := Aside0.mk (Kd.R_below (by (with_reducible repeat (first | apply Kd.R_alloc | apply Kd.R_drewN | apply Kd.R_drew)); exact HO_4.out) hb); have n1_ := Aside0.mk (blk_below (g := gb187) (o := .cells #[.int .i64 x188000_2, .int .u64 x188001_2] 24 (0, 0)) (by (with_reducible repeat (first | refine blk_drewN ?_ _ | refine blk_drew ?_ | refine blk_alloc ?_ _)); exact BK187.out) hb); have n2_ := Aside0.mk (below_step (by repeat (first | (with_reducible first | exact HB.out | apply below_alloc | apply pw_below_drewN | apply below_drew1 | refine below_set ?_ GE187.out) | exact HB.out)) hb); have n3_ := Aside0.mk (hbox); have n4_ := Aside0.mk ((by rw [hg]; exact (below_size (by repeat (first | (with_reducible first | exact HB.out | apply below_alloc | apply pw_below_drewN | apply below_drew1 | refine below_set ?_ GE187.out) | exact HB.out))) : w.heap.size ≤ gb195)); have n5_ := Aside0.mk ((by rw [hg]; exact (below_size (by repeat (first | (with_reducible first | exact HB.out | apply below_alloc | apply pw_below_drewN | apply below_drew1 | refine below_set ?_ GE187.out) | exact HB.out))) : w.heap.size ≤ gb195)); have n6_ := Aside0.mk ((by rw [hg]; exact Nat.ne_of_lt (blk_lt (g := gb187) (o := .cells #[.int .i64 x188000_2, .int .u64 x188001_2] 24 (0, 0)) (by (with_reducible repeat (first | refine blk_drewN ?_ _ | refine blk_drew ?_ | refine blk_alloc ?_ _)); exact BK187.out)) : gb187 ≠ gb195)); have n7_ := Aside0.mk ((by rw [hg]; exact Nat.ne_of_gt (blk_lt (g := gb187) (o := .cells #[.int .i64 x188000_2, .int .u64 x188001_2] 24 (0, 0)) (by (with_reducible repeat (first | refine blk_drewN ?_ _ | refine blk_drew ?_ | refine blk_alloc ?_ _)); exact BK187.out)) : gb195 ≠ gb187)); clear HO_4; clear BK187; clear HB; have HO_4 := n0_; have BK187 := n1_; have HB := n2_; have BK195 := n3_; have GW195 := n4_; have GE195 := n5_; have NB187_195 := n6_; have NB195_187 := n7_; clear n0_ n1_ n2_ n3_ n4_ n5_ n6_ n7_; clear hb hbox hg; have hnb67 := NB195_187.out; have hnc67 := NB187_195.out; have hcz68_0 : w66.cell? ⟨gb195, 0, none⟩ = some (.int .i64 0) := (blk_cell BK195.out 0).trans rfl; have hcz68_1 : w66.cell? ⟨gb195, 1, none⟩ = some (.int .u64 0) := (blk_cell BK195.out 1).trans rfl; have hfz68_0 := blk_frozen BK195.out 0; have hfz68_1 := blk_frozen BK195.out 1))
                          have n0_ : Aside0 (Kd.R Kd.bool 4 ((w66.setCell ⟨gb195, 0, none⟩ (.int .i64 t192)).setCell ⟨gb195, 1, none⟩ (.int .u64 t193)) w.heap.size (fun _ => True) v189 x4_2) := ⟨by (with_reducible repeat (first | apply Kd.R_alloc | apply Kd.R_drewN | apply Kd.R_drew)); exact Kd.R_mono (Kd.R_far (p := ⟨gb195, 1, none⟩) (Kd.R_far (p := ⟨gb195, 0, none⟩) (Kd.R_types HO_4.out BK195.out (by decide)) (fun _ hk => hk.2) (.int .i64 t192)) (fun _ hk => hk.2) (.int .u64 t193)) (fun _ hk => trivial)⟩
                          have n1_ : Aside0 (((w66.setCell ⟨gb195, 0, none⟩ (.int .i64 t192)).setCell ⟨gb195, 1, none⟩ (.int .u64 t193)).heap[gb187]? = some (.cells #[.int .i64 x188000_2, .int .u64 x188001_2] 24 (0, 0))) := ⟨by (with_reducible repeat (first | refine blk_drewN ?_ _ | refine blk_drew ?_ | refine blk_alloc ?_ _)); refine blk_far ?_ NB187_195.out _; (with_reducible repeat (first | refine blk_drewN ?_ _ | refine blk_drew ?_ | refine blk_alloc ?_ _)); refine blk_far ?_ NB187_195.out _; (with_reducible repeat (first | refine blk_drewN ?_ _ | refine blk_drew ?_ | refine blk_alloc ?_ _)); exact BK187.out⟩
                          have n2_ : Aside0 (((w66.setCell ⟨gb195, 0, none⟩ (.int .i64 t192)).setCell ⟨gb195, 1, none⟩ (.int .u64 t193)).heap[gb195]? = some (.cells #[.int .i64 t192, .int .u64 t193] 24 (0, 0))) := ⟨by (with_reducible repeat (first | refine blk_drewN ?_ _ | refine blk_drew ?_ | refine blk_alloc ?_ _)); refine blk_put (cs := #[.int .i64 t192, .int .u64 0]) ?_ 1 _ rfl; (with_reducible repeat (first | refine blk_drewN ?_ _ | refine blk_drew ?_ | refine blk_alloc ?_ _)); refine blk_put (cs := #[.int .i64 0, .int .u64 0]) ?_ 0 _ rfl; (with_reducible repeat (first | refine blk_drewN ?_ _ | refine blk_drew ?_ | refine blk_alloc ?_ _)); exact BK195.out⟩
                          have n3_ : Aside0 (Below w.heap.size w ((w66.setCell ⟨gb195, 0, none⟩ (.int .i64 t192)).setCell ⟨gb195, 1, none⟩ (.int .u64 t193))) := ⟨by repeat (first | (with_reducible first | exact HB.out | apply below_alloc | apply pw_below_drewN | apply below_drew1 | refine below_set ?_ GE187.out | refine below_set ?_ GE195.out) | exact HB.out)⟩
                          (try clear HO_4)
                          (try clear BK187)
                          (try clear BK195)
                          (try clear HB)
                          generalize ((w66.setCell ⟨gb195, 0, none⟩ (.int .i64 t192)).setCell ⟨gb195, 1, none⟩ (.int .u64 t193)) = w69 at n0_ n1_ n2_ n3_ ⊢
                          have HO_4 := n0_
                          have BK187 := n1_
                          have BK195 := n2_
                          have HB := n3_
                          clear n0_ n1_ n2_ n3_
                          have n0_ := Aside0.mk (Kd.R_drew HO_4.out)
                          have n1_ := Aside0.mk (blk_drew BK187.out)
                          have n2_ := Aside0.mk (blk_drew BK195.out)
                          have n3_ := Aside0.mk (below_drew1 HB.out)
                          clear HO_4
                          clear BK187
                          clear BK195
                          clear HB
                          have HO_4 := n0_
                          have BK187 := n1_
                          have BK195 := n2_
                          have HB := n3_
                          clear n0_ n1_ n2_ n3_
                          obtain ⟨Ao71, co71, eo71⟩ := Kd.R_slice HO_4.out
                          (first | subst eo71 | (injection eo71 with f1_ f2_ f3_; have f4_ := f1_.symm; have f5_ := f3_.symm; clear f1_ f2_ f3_; subst f4_; subst f5_))
                          have p201 : 0 ≤ ((ji51) : Int) := of_decide_eq_true (by first | (with_reducible assumption) | assumption)
                          have q201 : (ji51) < (x4_2.length : Int) := of_decide_eq_true (by first | (with_reducible assumption) | assumption)
                          obtain ⟨ad201, e201, hx201_0⟩ := Kd.at_bool (Kd.R_reads' HO_4.out).2.2 (ji51) p201 q201
                          cases e201
                          replace p201 := eq_true p201
                          replace q201 := eq_true q201
                          refine start_ (n := 7) (S := fun w' => w'.cell? (ad201.add ((ji51)).toNat) = some (.bool (rdOf false x4_2 (ji51)))) (ds := []) #[false, false, false, false, false, false, false] (by kernel_rfl) rfl rfl (hx201_0) (fun hHeld => ?_)
                          generalize w69.drew = w70 at HO_4 BK187 BK195 HB hx201_0 hHeld ⊢
                          refine pure_ (i := 0) (N := some 38) (v := ?_) (a' := ?_) #[true, false, false, false, false, false, false] rfl rfl (by kernel_rfl) (fun _ _ _ h => h) (Or.inl ⟨by rfl, ?_⟩) ?_ ?_
                          rotate_left
                          · intro w'
                            go_simp
                            with_reducible rfl
                          rotate_left
                          · simp only [Act.put, List.setIfInBounds_toArray, List.set_cons_zero, List.set_cons_succ, i64_w, i32_w]
                            rfl
                          refine pure_ (i := 1) (N := some 39) (v := ?_) (a' := ?_) #[true, true, false, false, false, false, false] rfl rfl (by kernel_rfl) (fun _ _ _ h => h) (Or.inl ⟨by rfl, ?_⟩) ?_ ?_
                          rotate_left
                          · intro w'
                            go_simp
                            with_reducible rfl
                          rotate_left
                          · simp only [Act.put, List.setIfInBounds_toArray, List.set_cons_zero, List.set_cons_succ, i64_w, i32_w]
                            rfl
                          refine pure_ (i := 2) (N := some 40) (v := ?_) (a' := ?_) #[true, true, true, false, false, false, false] rfl rfl (by kernel_rfl) (fun _ _ _ h => h) (Or.inl ⟨by rfl, ?_⟩) ?_ ?_
                          rotate_left
                          · intro w'
                            go_simp
                            with_reducible rfl
                          rotate_left
                          · simp only [Act.put, List.setIfInBounds_toArray, List.set_cons_zero, List.set_cons_succ, i64_w, i32_w]
                            rfl
                          refine pure_ (i := 3) (N := some 41) (v := ?_) (a' := ?_) #[true, true, true, true, false, false, false] rfl rfl (by kernel_rfl) (fun _ _ _ h => h) (Or.inl ⟨by rfl, ?_⟩) ?_ ?_
                          rotate_left
                          · intro w'
                            go_simp
                            with_reducible rfl
                          rotate_left
                          · simp only [Act.put, List.setIfInBounds_toArray, List.set_cons_zero, List.set_cons_succ, i64_w, i32_w]
                            rfl
                          refine pure_ (i := 4) (N := some 42) (v := ?_) (a' := ?_) #[true, true, true, true, true, false, false] rfl rfl (by kernel_rfl) (fun _ _ _ h => h) (Or.inl ⟨by rfl, ?_⟩) ?_ ?_
                          rotate_left
                          · intro w'
                            go_simp
                            with_reducible rfl
                          rotate_left
                          · simp only [Act.put, List.setIfInBounds_toArray, List.set_cons_zero, List.set_cons_succ, i64_w, i32_w]
                            rfl
                          refine take_ (i := 5) (N := some 43) (v := ?_) (a' := ?_) #[true, true, true, true, true, true, false] rfl rfl (by kernel_rfl) (fun _ _ _ h => h) (Or.inl ⟨by rfl, ?_⟩) hHeld ?_ ?_
                          rotate_left
                          · intro w' s0
                            go_simp
                            with_reducible rfl
                          rotate_left
                          · simp only [Act.put, List.setIfInBounds_toArray, List.set_cons_zero, List.set_cons_succ, i64_w, i32_w]
                            rfl
                          refine pure_ (i := 6) (N := some 44) (v := ?_) (a' := ?_) #[true, true, true, true, true, true, true] rfl rfl (by kernel_rfl) (fun _ _ _ h => h) (Or.inl ⟨by rfl, ?_⟩) ?_ ?_
                          rotate_left
                          · intro w'
                            go_simp
                            with_reducible rfl
                          rotate_left
                          · simp only [Act.put, List.setIfInBounds_toArray, List.set_cons_zero, List.set_cons_succ, i64_w, i32_w]
                            rfl
                          refine done_ (by kernel_rfl) ?_
                          have p63 : 0 ≤ ((ji51) : Int) := of_decide_eq_true (by first | (with_reducible assumption) | assumption)
                          have q63 : ((ji51) : Int) < ((x4_2.length : Int) : Int) := of_decide_eq_true (by first | (with_reducible assumption) | assumption)
                          obtain ⟨go63, co63, eo63, gb63, gl63, cl63, HG63⟩ := Kd.R_form HO_4.out (by omega)
                          (first | cases eo63 | (injection eo63 with ea_ en_ ec_; (first | subst ea_ | (injection ea_ with ea_; subst ea_)); subst ec_; clear en_))
                          have GB63 := Aside0.mk gb63
                          have GG63 := Aside0.mk HG63
                          clear gb63 gl63 HG63
                          (first | simp only [add_plain] at hx201_0 | skip)
                          obtain ⟨hx63_0, hf63_0⟩ := Kd.R_celln false HO_4.out ((ji51) : Int) p63 q63
                          replace p63 := eq_true p63
                          replace q63 := eq_true q63
                          obtain ⟨hy72_, hz72_⟩ := Kd.R_celln false HO_4.out ((ji51) : Int) (of_decide_eq_true (by first | (with_reducible assumption) | assumption)) (of_decide_eq_true (by first | (with_reducible assumption) | assumption))
                          have HP72 := Kd.R_putg HO_4.out ((ji51) : Int) true
                          try go_wp2_with (first | ((with_reducible refine gate_store (t := 4) (p := 47) rfl ?_); refine store_event (t := 4) (p := 47) (v := ?vo_w73) (w1 := (w70.setCell ⟨go63, ((ji51) : Int).toNat, none⟩ (.bool true))) ?hg ?ho ?hn ?hr ?_; (case ho => rfl); (case hg => rfl); (case hn => rfl); (case hr => first | (go_simp; done) | (go_simp; rfl)); intro w73 hw; have hg : w70.grownBy w73 (some go63) := (by rw [hw]; exact HP72.2); have hp_ : Kd.R Kd.bool 4 w73 w.heap.size (fun _ => True) (.slice (some ⟨go63, 0, none⟩) x4_2.length co71) y202 := (by rw [hw, Ny202.out]; exact HP72.1); clear HP72; have n0_ := Aside0.mk (hp_); have n1_ := Aside0.mk (blk_grown (g := gb187) (o := .cells #[.int .i64 x188000_2, .int .u64 x188001_2] 24 (0, 0)) (by (with_reducible repeat (first | refine blk_drewN ?_ _ | refine blk_drew ?_ | refine blk_alloc ?_ _)); exact BK187.out) hg (Kd.R_ne HO_4.out BK187.out (by decide))); have n2_ := Aside0.mk (blk_grown (g := gb195) (o := .cells #[.int .i64 t192, .int .u64 t193] 24 (0, 0)) (by (with_reducible repeat (first | refine blk_drewN ?_ _ | refine blk_drew ?_ | refine blk_alloc ?_ _)); exact BK195.out) hg (Kd.R_ne HO_4.out BK195.out (by decide))); have n3_ := Aside0.mk ((by rw [hw]; exact below_set (HB.out) GB63.out : Below w.heap.size w w73)); clear HO_4; clear BK187; clear BK195; clear HB; have HO_4 := n0_; have BK187 := n1_; have BK195 := n2_; have HB := n3_; clear n0_ n1_ n2_ n3_; clear hg hw hp_; have hcz74_0 : w73.cell? ⟨gb195, 0, none⟩ = some (.int .i64 t192) := (blk_cell BK195.out 0).trans rfl; have hcz74_1 : w73.cell? ⟨gb195, 1, none⟩ = some (.int .u64 t193) := (blk_cell BK195.out 1).trans rfl; have hfz74_0 := blk_frozen BK195.out 0; have hfz74_1 := blk_frozen BK195.out 1; have hcz75_0 : w73.cell? ⟨gb187, 0, none⟩ = some (.int .i64 x188000_2) := (blk_cell BK187.out 0).trans rfl; have hcz75_1 : w73.cell? ⟨gb187, 1, none⟩ = some (.int .u64 x188001_2) := (blk_cell BK187.out 1).trans rfl; have hfz75_0 := blk_frozen BK187.out 0; have hfz75_1 := blk_frozen BK187.out 1))
                          (try simp only [add_plain])
                          go_loopg [9] k2 (fun kq v9 w' => ∃ (x9_3 : Int), v9 = .int .i64 x9_3 ∧ Aside0 (shutterlaw20_WindowNear.l1 kq l0 y202 x5_2 x9_3 t192 t193 = some r) ∧ Aside0 (kq ≤ k2) ∧ Aside0 (Kd.R Kd.bool 4 w' w.heap.size (fun _ => True) (.slice (some ⟨go63, 0, none⟩) x4_2.length co71) y202) ∧ Aside0 (w'.heap[gb187]? = some (.cells #[.int .i64 t192, .int .u64 t193] 24 (0, 0))) ∧ Aside0 (w'.heap[gb195]? = some (.cells #[.int .i64 t192, .int .u64 t193] 24 (0, 0))) ∧ Aside0 (Below w.heap.size w w'))
                          case atStart => exact ⟨(1), (by first | rfl | (simp; done) | (simp [*]; done)), H', ⟨Nat.le_refl _⟩, ⟨by (with_reducible repeat (first | apply Kd.R_alloc | apply Kd.R_drewN | apply Kd.R_drew)); exact Kd.R_mono (Kd.R_far (p := ⟨gb187, 1, none⟩) (Kd.R_far (p := ⟨gb187, 0, none⟩) (Kd.R_types HO_4.out BK187.out (by decide)) (fun _ hk => hk.2) (.int .i64 t192)) (fun _ hk => hk.2) (.int .u64 t193)) (fun _ hk => trivial)⟩, ⟨by (with_reducible repeat (first | refine blk_drewN ?_ _ | refine blk_drew ?_ | refine blk_alloc ?_ _)); refine blk_put (cs := #[.int .i64 t192, .int .u64 x188001_2]) ?_ 1 _ rfl; (with_reducible repeat (first | refine blk_drewN ?_ _ | refine blk_drew ?_ | refine blk_alloc ?_ _)); refine blk_put (cs := #[.int .i64 x188000_2, .int .u64 x188001_2]) ?_ 0 _ rfl; (with_reducible repeat (first | refine blk_drewN ?_ _ | refine blk_drew ?_ | refine blk_alloc ?_ _)); exact BK187.out⟩, ⟨by (with_reducible repeat (first | refine blk_drewN ?_ _ | refine blk_drew ?_ | refine blk_alloc ?_ _)); refine blk_far ?_ NB195_187.out _; (with_reducible repeat (first | refine blk_drewN ?_ _ | refine blk_drew ?_ | refine blk_alloc ?_ _)); refine blk_far ?_ NB195_187.out _; (with_reducible repeat (first | refine blk_drewN ?_ _ | refine blk_drew ?_ | refine blk_alloc ?_ _)); exact BK195.out⟩, ⟨by repeat (first | (with_reducible first | exact HB.out | apply below_alloc | apply pw_below_drewN | apply below_drew1 | refine below_set ?_ GE187.out | refine below_set ?_ GE195.out) | exact HB.out)⟩⟩
                          case round =>
                            clear H'
                            try clear c1
                            try clear p1
                            try clear q1
                            try clear hx1
                            try clear c2
                            try clear p2
                            try clear q2
                            try clear hx2
                            try clear hf2
                            try clear c3
                            try clear c4
                            try clear c5
                            try clear c6
                            try clear p6
                            try clear q6
                            try clear hx6
                            try clear hf6
                            try clear c11
                            try clear c14
                            try clear c18
                            try clear c19
                            try clear p19
                            try clear q19
                            try clear hx19
                            try clear p20
                            try clear q20
                            try clear hx20
                            try clear c24
                            try clear p29
                            try clear q29
                            try clear hx29
                            try clear hf29
                            try clear c33
                            try clear c42
                            try clear c42b0
                            try clear c44
                            try clear c44b0
                            try clear c45
                            try clear c45b0
                            try clear c46
                            try clear c46b0
                            try clear c46b1
                            try clear c46b2
                            try clear c52
                            try clear c52b0
                            try clear c53
                            try clear c53b0
                            try clear c54
                            try clear c54b0
                            try clear c54b1
                            try clear c54b2
                            try clear c58
                            try clear p63
                            try clear q63
                            try clear hx63
                            try clear hf63
                            try clear p64
                            try clear c67
                            try clear hcz21_0
                            try clear hcz21_1
                            try clear hcz25_0
                            try clear hcz25_1
                            try clear hcz30_0
                            try clear hcz30_1
                            try clear hcz34_0
                            try clear hcz34_1
                            try clear hcz40_0
                            try clear hcz40_1
                            try clear hcz41_0
                            try clear hcz41_1
                            try clear hcz55_0
                            try clear hcz55_1
                            try clear hcz59_0
                            try clear hcz59_1
                            try clear hcz64_0
                            try clear hcz64_1
                            try clear hcz68_0
                            try clear hcz68_1
                            try clear hcz74_0
                            try clear hcz74_1
                            try clear hcz75_0
                            try clear hcz75_1
                            try clear hfz21_0
                            try clear hfz21_1
                            try clear hfz25_0
                            try clear hfz25_1
                            try clear hfz30_0
                            try clear hfz30_1
                            try clear hfz34_0
                            try clear hfz34_1
                            try clear hfz40_0
                            try clear hfz40_1
                            try clear hfz41_0
                            try clear hfz41_1
                            try clear hfz55_0
                            try clear hfz55_1
                            try clear hfz59_0
                            try clear hfz59_1
                            try clear hfz64_0
                            try clear hfz64_1
                            try clear hfz68_0
                            try clear hfz68_1
                            try clear hfz74_0
                            try clear hfz74_1
                            try clear hfz75_0
                            try clear hfz75_1
                            try clear hx191_0
                            try clear hx197_0
                            try clear hx200_0
                            try clear hx201_0
                            try clear hx29_0
                            try clear hx63_0
                            try clear p191
                            try clear p197
                            try clear p2
                            try clear p200
                            try clear p201
                            try clear p29
                            try clear p63
                            try clear q191
                            try clear q196
                            try clear q197
                            try clear q200
                            try clear q201
                            try clear q29
                            try clear q63
                            obtain ⟨x9_3, rfl, HA, HK3, HO_4, BK187, BK195, HB⟩ := hrel
                            have hl4_3 := (Kd.R_reads' HO_4.out).1
                            rw [hl4_3] at HO_4
                            (try simp only [hl4_3])
                            (try simp only [hl4_3] at BK187)
                            (try simp only [hl4_3] at BK195)
                            cases gk with
                            | zero => exact absurd HA.out (by simp [shutterlaw20_WindowNear.l1])
                            | succ k3 =>
                              have H := HA.out
                              clear HA
                              simp only [shutterlaw20_WindowNear.l1] at H
                              by_cases c76 : x9_3 ≤ 64
                              · rw [if_pos c76] at H
                                have c76b0 : decide (x9_3 ≤ 64) = true := decide_eq_true c76
                                clear c76
                                replace H := Option.bind_eq_some_iff.mp H
                                obtain ⟨t199, A770, H⟩ := H
                                replace H : (if 0 ≤ x9_3 then (if x9_3 < (y202.length : Int) then (if (t199 != (rdOf false y202 x9_3)) = true then (some false) else (shutterlaw20_WindowNear.l1 k3 l0 y202 x5_2 (wrap64 (x9_3 + 1)) t192 t193)) else (none)) else (none)) = some r := H
                                have A77 := Aside0.mk A770
                                clear A770
                                by_cases c78 : 0 ≤ x9_3
                                · rw [if_pos c78] at H
                                  have c78b0 : decide (0 ≤ x9_3) = true := decide_eq_true c78
                                  clear c78
                                  by_cases c79 : x9_3 < (y202.length : Int)
                                  · rw [if_pos c79] at H
                                    have c79b0 : decide (x9_3 < (y202.length : Int)) = true := decide_eq_true c79
                                    clear c79
                                    by_cases c80 : (t199 != (rdOf false y202 x9_3)) = true
                                    · rw [if_pos c80] at H
                                      have c80b0 : (t199 != (rdOf false y202 x9_3)) = true := c80
                                      (try (have c80b1 : decide (t199 = (rdOf false y202 x9_3)) = false := by simpa using c80))
                                      (try (have c80b2 : (t199 == (rdOf false y202 x9_3)) = false := by simpa using c80))
                                      (try (have c80b3 : ¬ (t199 = (rdOf false y202 x9_3)) := by simpa using c80))
                                      clear c80
                                      obtain rfl := Option.some.inj H
                                      try go_wp2
                                      have n0_ := Aside0.mk (Kd.R_drew HO_4.out)
                                      have n1_ := Aside0.mk (blk_drew BK187.out)
                                      have n2_ := Aside0.mk (blk_drew BK195.out)
                                      have n3_ := Aside0.mk (below_drew1 HB.out)
                                      clear HO_4
                                      clear BK187
                                      clear BK195
                                      clear HB
                                      have HO_4 := n0_
                                      have BK187 := n1_
                                      have BK195 := n2_
                                      have HB := n3_
                                      clear n0_ n1_ n2_ n3_
                                      have p200 : 0 ≤ (x9_3 : Int) := of_decide_eq_true (by first | (with_reducible assumption) | assumption)
                                      have q200 : x9_3 < (y202.length : Int) := of_decide_eq_true (by first | (with_reducible assumption) | assumption)
                                      obtain ⟨ad200, e200, hx200_0⟩ := Kd.at_bool (Kd.R_reads' HO_4.out).2.2 x9_3 p200 q200
                                      obtain rfl : (⟨go63, 0, none⟩ : Addr) = ad200 := (by injection e200)
                                      (first | simp only [add_plain] at hx200_0 | simp only [add_at] at hx200_0 | simp only [Addr.add, Nat.zero_add] at hx200_0 | skip)
                                      replace p200 := eq_true p200
                                      replace q200 := eq_true q200
                                      refine start_ (n := 8) (S := fun w' => w'.cell? ⟨gb187, 0, none⟩ = some (.int .i64 t192) ∧ w'.cell? ⟨gb187, 1, none⟩ = some (.int .u64 t193) ∧ w'.cell? ⟨go63, (x9_3).toNat, none⟩ = some (.bool (rdOf false y202 x9_3))) (ds := []) #[false, false, false, false, false, false, false, false] (by kernel_rfl) rfl rfl ⟨(blk_cell BK187.out 0).trans rfl, (blk_cell BK187.out 1).trans rfl, hx200_0⟩ (fun hHeld => ?_); refine with_tabW shutterlaw20_WindowNear.tab17 shutterlaw20_WindowNear.bits17 (fun HT_ HW_ => ?_)
                                      generalize wr.drew = w81 at HO_4 BK187 BK195 HB hx200_0 hHeld ⊢
                                      refine pure_ (i := 1) (N := some 54) (v := ?_) (a' := ?_) #[false, true, false, false, false, false, false, false] rfl rfl (any_of HT_.out (by kernel_rfl)) (fun _ _ _ h => h) (Or.inl ⟨by rfl, ?_⟩) ?_ ?_
                                      rotate_left
                                      · intro w'
                                        go_simp
                                        with_reducible rfl
                                      rotate_left
                                      · simp only [Act.put, List.setIfInBounds_toArray, List.set_cons_zero, List.set_cons_succ, i64_w, i32_w]
                                        rfl
                                      refine pure_ (i := 3) (N := some 56) (v := ?_) (a' := ?_) #[false, true, false, true, false, false, false, false] rfl rfl (any_of HT_.out (by kernel_rfl)) (fun _ _ _ h => h) (Or.inl ⟨by rfl, ?_⟩) ?_ ?_
                                      rotate_left
                                      · intro w'
                                        go_simp
                                        with_reducible rfl
                                      rotate_left
                                      · simp only [Act.put, List.setIfInBounds_toArray, List.set_cons_zero, List.set_cons_succ, i64_w, i32_w]
                                        rfl
                                      refine pure_ (i := 4) (N := some 57) (v := ?_) (a' := ?_) #[false, true, false, true, true, false, false, false] rfl rfl (any_of HT_.out (by kernel_rfl)) (fun _ _ _ h => h) (Or.inl ⟨by rfl, ?_⟩) ?_ ?_
                                      rotate_left
                                      · intro w'
                                        go_simp
                                        with_reducible rfl
                                      rotate_left
                                      · simp only [Act.put, List.setIfInBounds_toArray, List.set_cons_zero, List.set_cons_succ, i64_w, i32_w]
                                        rfl
                                      refine pure_ (i := 5) (N := some 58) (v := ?_) (a' := ?_) #[false, true, false, true, true, true, false, false] rfl rfl (any_of HT_.out (by kernel_rfl)) (fun _ _ _ h => h) (Or.inl ⟨by rfl, ?_⟩) ?_ ?_
                                      rotate_left
                                      · intro w'
                                        go_simp
                                        with_reducible rfl
                                      rotate_left
                                      · simp only [Act.put, List.setIfInBounds_toArray, List.set_cons_zero, List.set_cons_succ, i64_w, i32_w]
                                        rfl
                                      refine take_ (i := 0) (N := some 53) (v := ?_) (a' := ?_) #[true, true, false, true, true, true, false, false] rfl rfl (take_ofW HT_.out HW_.out (by kernel_rfl)) (fun _ _ _ h => h) (Or.inl ⟨by rfl, ?_⟩) hHeld ?_ ?_
                                      rotate_left
                                      · rintro w' ⟨s0, s1, s2⟩
                                        go_simp
                                        with_reducible rfl
                                      rotate_left
                                      · simp only [Act.put, List.setIfInBounds_toArray, List.set_cons_zero, List.set_cons_succ, i64_w, i32_w]
                                        rfl
                                      refine take_ (i := 6) (N := some 59) (v := ?_) (a' := ?_) #[true, true, false, true, true, true, true, false] rfl rfl (take_ofW HT_.out HW_.out (by kernel_rfl)) (fun _ _ _ h => h) (Or.inl ⟨by rfl, ?_⟩) hHeld ?_ ?_
                                      rotate_left
                                      · rintro w' ⟨s0, s1, s2⟩
                                        go_simp
                                        with_reducible rfl
                                      rotate_left
                                      · simp only [Act.put, List.setIfInBounds_toArray, List.set_cons_zero, List.set_cons_succ, i64_w, i32_w]
                                        rfl
                                      refine one_ (i := 2) (N := some 55) #[true, true, true, true, true, true, true, false] rfl rfl (one_of HT_.out (by kernel_rfl)) (by decide) (fun K hK => ?_)
                                      refine goes_ Tryd.func14 (by kernel_rfl) rfl #[.agg #[.int .i64 t192, .int .u64 t193], .int .i64 x9_3] (by rfl) rfl rfl (by (try simp only [List.map_toArray, List.map_cons, List.map_nil]); first | done | rfl | (simp only [List.length_drop, List.length_take]; rfl)) ?_
                                      with_reducible refine (window_Has.calls t192 t193 x9_3 t199 _ A77.out).mono ?_
                                      rintro e w82 ⟨rfl, hb⟩
                                      have HS2_ := (hb.cell (World.block_lt_of_cell? _ _ (hHeld.2.2))).trans (hHeld.2.2)
                                      refine ⟨_, rfl, ?_⟩
                                      have n0_ := Aside0.mk (Kd.R_below (by (with_reducible repeat (first | apply Kd.R_alloc | apply Kd.R_drewN | apply Kd.R_drew)); exact HO_4.out) hb)
                                      have n1_ := Aside0.mk (blk_below (g := gb187) (o := .cells #[.int .i64 t192, .int .u64 t193] 24 (0, 0)) (by (with_reducible repeat (first | refine blk_drewN ?_ _ | refine blk_drew ?_ | refine blk_alloc ?_ _)); exact BK187.out) hb)
                                      have n2_ := Aside0.mk (blk_below (g := gb195) (o := .cells #[.int .i64 t192, .int .u64 t193] 24 (0, 0)) (by (with_reducible repeat (first | refine blk_drewN ?_ _ | refine blk_drew ?_ | refine blk_alloc ?_ _)); exact BK195.out) hb)
                                      have n3_ := Aside0.mk (below_step (by repeat (first | (with_reducible first | exact HB.out | apply below_alloc | apply pw_below_drewN | apply below_drew1 | refine below_set ?_ GE187.out | refine below_set ?_ GE195.out) | exact HB.out)) hb)
                                      clear HO_4
                                      clear BK187
                                      clear BK195
                                      clear HB
                                      have HO_4 := n0_
                                      have BK187 := n1_
                                      have BK195 := n2_
                                      have HB := n3_
                                      clear n0_ n1_ n2_ n3_
                                      (try clear hb)
                                      (try clear hb2)
                                      (try clear hk)
                                      (try clear hi)
                                      refine hK.out _ _ ⟨(blk_cell BK187.out 0).trans rfl, (blk_cell BK187.out 1).trans rfl, HS2_⟩ (fun hHeld => ?_)
                                      clear hK K
                                      refine norm_ (a' := ?_) ?_ ?_
                                      rotate_left
                                      · show Act.put _ (some 55) _ = _
                                        simp only [Act.put, List.setIfInBounds_toArray, List.set_cons_zero, List.set_cons_succ, i64_w, i32_w]
                                        rfl
                                      refine pure_ (i := 7) (N := some 60) (v := ?_) (a' := ?_) #[true, true, true, true, true, true, true, true] rfl rfl (any_of HT_.out (by kernel_rfl)) (fun _ _ _ h => h) (Or.inl ⟨by rfl, ?_⟩) ?_ ?_
                                      rotate_left
                                      · intro w'
                                        go_simp
                                        with_reducible rfl
                                      rotate_left
                                      · simp only [Act.put, List.setIfInBounds_toArray, List.set_cons_zero, List.set_cons_succ, i64_w, i32_w]
                                        rfl
                                      refine done_ (done_of HT_.out (by kernel_rfl)) ?_
                                      try go_wp2
                                      go_ret
                                      exact ⟨by first | rfl | (simp [errW_none, errW_some] <;> rfl) | (simp only [← hji51]; first | rfl | (simp [errW_none, errW_some] <;> rfl)) | (simp [*, errW_none, errW_some] <;> rfl), by repeat (first | (with_reducible first | exact HB.out | apply below_alloc | apply pw_below_drewN | apply below_drew1 | refine below_set ?_ GE187.out | refine below_set ?_ GE195.out) | exact HB.out)⟩
                                    · rw [if_neg c80] at H
                                      have c80b0 : (t199 != (rdOf false y202 x9_3)) = false := by simpa using c80
                                      (try (have c80b1 : decide (t199 = (rdOf false y202 x9_3)) = true := by simpa using c80))
                                      (try (have c80b2 : (t199 == (rdOf false y202 x9_3)) = true := by simpa using c80))
                                      clear c80
                                      have H' := Aside0.mk H
                                      clear H
                                      try go_wp2
                                      have n0_ := Aside0.mk (Kd.R_drew HO_4.out)
                                      have n1_ := Aside0.mk (blk_drew BK187.out)
                                      have n2_ := Aside0.mk (blk_drew BK195.out)
                                      have n3_ := Aside0.mk (below_drew1 HB.out)
                                      clear HO_4
                                      clear BK187
                                      clear BK195
                                      clear HB
                                      have HO_4 := n0_
                                      have BK187 := n1_
                                      have BK195 := n2_
                                      have HB := n3_
                                      clear n0_ n1_ n2_ n3_
                                      have p200 : 0 ≤ (x9_3 : Int) := of_decide_eq_true (by first | (with_reducible assumption) | assumption)
                                      have q200 : x9_3 < (y202.length : Int) := of_decide_eq_true (by first | (with_reducible assumption) | assumption)
                                      obtain ⟨ad200, e200, hx200_0⟩ := Kd.at_bool (Kd.R_reads' HO_4.out).2.2 x9_3 p200 q200
                                      obtain rfl : (⟨go63, 0, none⟩ : Addr) = ad200 := (by injection e200)
                                      (first | simp only [add_plain] at hx200_0 | simp only [add_at] at hx200_0 | simp only [Addr.add, Nat.zero_add] at hx200_0 | skip)
                                      replace p200 := eq_true p200
                                      replace q200 := eq_true q200
                                      refine start_ (n := 8) (S := fun w' => w'.cell? ⟨gb187, 0, none⟩ = some (.int .i64 t192) ∧ w'.cell? ⟨gb187, 1, none⟩ = some (.int .u64 t193) ∧ w'.cell? ⟨go63, (x9_3).toNat, none⟩ = some (.bool (rdOf false y202 x9_3))) (ds := []) #[false, false, false, false, false, false, false, false] (by kernel_rfl) rfl rfl ⟨(blk_cell BK187.out 0).trans rfl, (blk_cell BK187.out 1).trans rfl, hx200_0⟩ (fun hHeld => ?_); refine with_tabW shutterlaw20_WindowNear.tab17 shutterlaw20_WindowNear.bits17 (fun HT_ HW_ => ?_)
                                      generalize wr.drew = w83 at HO_4 BK187 BK195 HB hx200_0 hHeld ⊢
                                      refine pure_ (i := 1) (N := some 54) (v := ?_) (a' := ?_) #[false, true, false, false, false, false, false, false] rfl rfl (any_of HT_.out (by kernel_rfl)) (fun _ _ _ h => h) (Or.inl ⟨by rfl, ?_⟩) ?_ ?_
                                      rotate_left
                                      · intro w'
                                        go_simp
                                        with_reducible rfl
                                      rotate_left
                                      · simp only [Act.put, List.setIfInBounds_toArray, List.set_cons_zero, List.set_cons_succ, i64_w, i32_w]
                                        rfl
                                      refine pure_ (i := 3) (N := some 56) (v := ?_) (a' := ?_) #[false, true, false, true, false, false, false, false] rfl rfl (any_of HT_.out (by kernel_rfl)) (fun _ _ _ h => h) (Or.inl ⟨by rfl, ?_⟩) ?_ ?_
                                      rotate_left
                                      · intro w'
                                        go_simp
                                        with_reducible rfl
                                      rotate_left
                                      · simp only [Act.put, List.setIfInBounds_toArray, List.set_cons_zero, List.set_cons_succ, i64_w, i32_w]
                                        rfl
                                      refine pure_ (i := 4) (N := some 57) (v := ?_) (a' := ?_) #[false, true, false, true, true, false, false, false] rfl rfl (any_of HT_.out (by kernel_rfl)) (fun _ _ _ h => h) (Or.inl ⟨by rfl, ?_⟩) ?_ ?_
                                      rotate_left
                                      · intro w'
                                        go_simp
                                        with_reducible rfl
                                      rotate_left
                                      · simp only [Act.put, List.setIfInBounds_toArray, List.set_cons_zero, List.set_cons_succ, i64_w, i32_w]
                                        rfl
                                      refine pure_ (i := 5) (N := some 58) (v := ?_) (a' := ?_) #[false, true, false, true, true, true, false, false] rfl rfl (any_of HT_.out (by kernel_rfl)) (fun _ _ _ h => h) (Or.inl ⟨by rfl, ?_⟩) ?_ ?_
                                      rotate_left
                                      · intro w'
                                        go_simp
                                        with_reducible rfl
                                      rotate_left
                                      · simp only [Act.put, List.setIfInBounds_toArray, List.set_cons_zero, List.set_cons_succ, i64_w, i32_w]
                                        rfl
                                      refine take_ (i := 0) (N := some 53) (v := ?_) (a' := ?_) #[true, true, false, true, true, true, false, false] rfl rfl (take_ofW HT_.out HW_.out (by kernel_rfl)) (fun _ _ _ h => h) (Or.inl ⟨by rfl, ?_⟩) hHeld ?_ ?_
                                      rotate_left
                                      · rintro w' ⟨s0, s1, s2⟩
                                        go_simp
                                        with_reducible rfl
                                      rotate_left
                                      · simp only [Act.put, List.setIfInBounds_toArray, List.set_cons_zero, List.set_cons_succ, i64_w, i32_w]
                                        rfl
                                      refine take_ (i := 6) (N := some 59) (v := ?_) (a' := ?_) #[true, true, false, true, true, true, true, false] rfl rfl (take_ofW HT_.out HW_.out (by kernel_rfl)) (fun _ _ _ h => h) (Or.inl ⟨by rfl, ?_⟩) hHeld ?_ ?_
                                      rotate_left
                                      · rintro w' ⟨s0, s1, s2⟩
                                        go_simp
                                        with_reducible rfl
                                      rotate_left
                                      · simp only [Act.put, List.setIfInBounds_toArray, List.set_cons_zero, List.set_cons_succ, i64_w, i32_w]
                                        rfl
                                      refine one_ (i := 2) (N := some 55) #[true, true, true, true, true, true, true, false] rfl rfl (one_of HT_.out (by kernel_rfl)) (by decide) (fun K hK => ?_)
                                      refine goes_ Tryd.func14 (by kernel_rfl) rfl #[.agg #[.int .i64 t192, .int .u64 t193], .int .i64 x9_3] (by rfl) rfl rfl (by (try simp only [List.map_toArray, List.map_cons, List.map_nil]); first | done | rfl | (simp only [List.length_drop, List.length_take]; rfl)) ?_
                                      with_reducible refine (window_Has.calls t192 t193 x9_3 t199 _ A77.out).mono ?_
                                      rintro e w84 ⟨rfl, hb⟩
                                      have HS2_ := (hb.cell (World.block_lt_of_cell? _ _ (hHeld.2.2))).trans (hHeld.2.2)
                                      refine ⟨_, rfl, ?_⟩
                                      have n0_ := Aside0.mk (Kd.R_below (by (with_reducible repeat (first | apply Kd.R_alloc | apply Kd.R_drewN | apply Kd.R_drew)); exact HO_4.out) hb)
                                      have n1_ := Aside0.mk (blk_below (g := gb187) (o := .cells #[.int .i64 t192, .int .u64 t193] 24 (0, 0)) (by (with_reducible repeat (first | refine blk_drewN ?_ _ | refine blk_drew ?_ | refine blk_alloc ?_ _)); exact BK187.out) hb)
                                      have n2_ := Aside0.mk (blk_below (g := gb195) (o := .cells #[.int .i64 t192, .int .u64 t193] 24 (0, 0)) (by (with_reducible repeat (first | refine blk_drewN ?_ _ | refine blk_drew ?_ | refine blk_alloc ?_ _)); exact BK195.out) hb)
                                      have n3_ := Aside0.mk (below_step (by repeat (first | (with_reducible first | exact HB.out | apply below_alloc | apply pw_below_drewN | apply below_drew1 | refine below_set ?_ GE187.out | refine below_set ?_ GE195.out) | exact HB.out)) hb)
                                      clear HO_4
                                      clear BK187
                                      clear BK195
                                      clear HB
                                      have HO_4 := n0_
                                      have BK187 := n1_
                                      have BK195 := n2_
                                      have HB := n3_
                                      clear n0_ n1_ n2_ n3_
                                      (try clear hb)
                                      (try clear hb2)
                                      (try clear hk)
                                      (try clear hi)
                                      refine hK.out _ _ ⟨(blk_cell BK187.out 0).trans rfl, (blk_cell BK187.out 1).trans rfl, HS2_⟩ (fun hHeld => ?_)
                                      clear hK K
                                      refine norm_ (a' := ?_) ?_ ?_
                                      rotate_left
                                      · show Act.put _ (some 55) _ = _
                                        simp only [Act.put, List.setIfInBounds_toArray, List.set_cons_zero, List.set_cons_succ, i64_w, i32_w]
                                        rfl
                                      refine pure_ (i := 7) (N := some 60) (v := ?_) (a' := ?_) #[true, true, true, true, true, true, true, true] rfl rfl (any_of HT_.out (by kernel_rfl)) (fun _ _ _ h => h) (Or.inl ⟨by rfl, ?_⟩) ?_ ?_
                                      rotate_left
                                      · intro w'
                                        go_simp
                                        with_reducible rfl
                                      rotate_left
                                      · simp only [Act.put, List.setIfInBounds_toArray, List.set_cons_zero, List.set_cons_succ, i64_w, i32_w]
                                        rfl
                                      refine done_ (done_of HT_.out (by kernel_rfl)) ?_
                                      try go_wp2
                                      (try simp only [← hl4_3])
                                      (try simp only [add_plain])
                                      go_roundg k3
                                      case measure => have := HJ1.out; have := HK2.out; have := HK3.out; omega
                                      case rel => exact ⟨(wrap64 (x9_3 + 1)), (by first | rfl | (simp; done) | (simp [*]; done)), H', ⟨by have := HJ1.out; have := HK2.out; have := HK3.out; omega⟩, ⟨by (try simp only [hl4_3]); (with_reducible repeat (first | apply Kd.R_alloc | apply Kd.R_drewN | apply Kd.R_drew)); exact HO_4.out⟩, ⟨by (try simp only [hl4_3]); (with_reducible repeat (first | refine blk_drewN ?_ _ | refine blk_drew ?_ | refine blk_alloc ?_ _)); exact BK187.out⟩, ⟨by (try simp only [hl4_3]); (with_reducible repeat (first | refine blk_drewN ?_ _ | refine blk_drew ?_ | refine blk_alloc ?_ _)); exact BK195.out⟩, ⟨by repeat (first | (with_reducible first | exact HB.out | apply below_alloc | apply pw_below_drewN | apply below_drew1 | refine below_set ?_ GE187.out | refine below_set ?_ GE195.out) | exact HB.out)⟩⟩
                                  · rw [if_neg c79] at H
                                    exact absurd H (by simp)
                                · rw [if_neg c78] at H
                                  exact absurd H (by simp)
                              · rw [if_neg c76] at H
                                have c76b0 : decide (x9_3 ≤ 64) = false := decide_eq_false c76
                                clear c76
                                have H' := Aside0.mk H
                                clear H
                                go_wp2
                                (try simp only [← hl4_3])
                                (try simp only [add_plain])
                                go_roundg k3
                                case measure => have := HJ1.out; have := HK2.out; have := HK3.out; omega
                                case rel => exact ⟨(y202), (wrap64 (x5_2 + 1)), (t192), (t193), (by first | rfl | (simp; done) | (simp [*]; done)), H', ⟨by have := HJ1.out; have := HK2.out; have := HK3.out; omega⟩, ⟨by (try simp only [hl4_3]); (with_reducible repeat (first | apply Kd.R_alloc | apply Kd.R_drewN | apply Kd.R_drew)); exact HO_4.out⟩, ⟨by (try simp only [hl4_3]); (with_reducible repeat (first | refine blk_drewN ?_ _ | refine blk_drew ?_ | refine blk_alloc ?_ _)); exact BK187.out⟩, ⟨by repeat (first | (with_reducible first | exact HB.out | apply below_alloc | apply pw_below_drewN | apply below_drew1 | refine below_set ?_ GE187.out | refine below_set ?_ GE195.out) | exact HB.out)⟩⟩
                      · rw [if_neg c53] at H
                        exact absurd H (by simp)
                    · rw [if_neg c52] at H
                      exact absurd H (by simp)
                · rw [if_neg c15] at H
                  exact absurd H (by simp)
              · rw [if_neg c14] at H
                have c14b0 : decide (x5_2 < (l0.length : Int)) = false := decide_eq_false c14
                clear c14
                obtain rfl := Option.some.inj H
                go_wp2
                go_ret
                exact ⟨by first | rfl | (simp [errW_none, errW_some] <;> rfl) | (simp [*, errW_none, errW_some] <;> rfl), by repeat (first | (with_reducible first | exact HB.out | apply below_alloc | apply pw_below_drewN | apply below_drew1 | refine below_set ?_ GE187.out) | exact HB.out)⟩
        · rw [if_neg c10] at H
          exact absurd H (by simp)

/-- THE ONE PURE STATEMENT of shutterlaw20_WindowNear: yours. -/
def shutterlaw20_WindowNear.Pure : Prop := ∀ (l0 : List Int), l0.length ≤ maxLen → l0.length * 1 ≤ 140737488351232 → (∀ x ∈ l0, (Lit.int .u8 x).wf = true) → ∃ k, shutterlaw20_WindowNear.f k l0 = some true
theorem shutterlaw20_WindowNear.walk (P : shutterlaw20_WindowNear.Pure) (a0 : Option Addr) (len0 cap0 : Nat) (z0 : List Int) (w : World) (hGl : Aside0 (Code.Gl w)) (w0 : (a0 = none ∧ len0 = 0 ∧ cap0 = 0 ∧ z0 = []) ∨ ∃ x, a0 = some x ∧ len0 ≤ cap0 ∧ cap0 ≤ maxLen ∧ z0.length = cap0 ∧ (∀ i, i < z0.length → w.cell? (x.add i) = some (.int .u8 (z0.getD i 0))) ∧ ∀ n ∈ z0, (Lit.int .u8 n).wf = true) (y0 : len0 * 1 ≤ 140737488351232) :
    Calls Tryd.prog 5 #[.slice a0 len0 cap0] w fun e w' => e = .returned (.bool true) ∧ Below w.heap.size w w' := by
  obtain ⟨l0, rfl, hr0, hm0, hw0, hc0⟩ := ReadsInt.ofRowC w0
  obtain ⟨k, h⟩ := P l0 hm0 y0 hw0
  refine (shutterlaw20_WindowNear.calls k _ _ l0 true w hGl (Kd.C_of_reads (d := (0 : Int)) (h1 := fun _ => rfl) hr0) hc0 h).mono ?_
  rintro e w' ⟨rfl, hd⟩
  exact ⟨rfl, hd⟩

end Go.Proofs.YtmpaljelolakhaaDoor.YWin

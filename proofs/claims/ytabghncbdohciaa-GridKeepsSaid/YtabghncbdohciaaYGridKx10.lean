-- Own text, made by this session out of the translation by wip/tools/xprint.sh: Lean functions with the answers of Go functions, and their walks.
import Derived.Test.YtabghncbdohciaaYGridKx0
import Derived.Test.YtabghncbdohciaaYGridKx3
import Derived.Test.YtabghncbdohciaaYGridKx6
import Derived.Test.YtabghncbdohciaaYGridKx7
import Derived.Test.YtabghncbdohciaaYGridKx8
import Derived.Test.YtabghncbdohciaaYGridKx9
namespace Go.Proofs.Ytabghncbdohciaa.YGridK
open Go.RowKit Go.Proofs.YtabghncbdohciaaW.PrintWords Go.Proofs.YtabghncbdohciaaW.PrintLast Go.Proofs.YtabghncbdohciaaW.PrintMore
attribute [local go_sem] max2_int min2_int max_two min_two max_three min_three max_four min_four   -- for this text's walks alone
set_option linter.unusedVariables false
set_option linter.unusedSimpArgs false

/-! ### shutterlaw10_GridKeeps: function 5 -/
mutual
def shutterlaw10_GridKeeps.j0 : Nat → Int → Int → Bool → Int → Int → List (S44) → Int → Bool → Bool → Option (Bool)
  | 0, _, _, _, _, _, _, _, _, _ => none
  | k + 1, x1, x2, x22, x235000, x235001, x235002, x235003, x235004, x235005 => if x22 = true then ((shutterlaw10_awake.f k).bind fun t237 => (some t237)) else ((shutterref10_Copy.f x235000 x235001 x235002 x235003 x235004 x235005).bind fun bt238 => (if (x235002.length : Int) = 0 then (none) else ((grid_Copy.f x235000 x235001 x235002 x235003 x235004 x235005).bind fun bt247 => ((grid_Put.f k x235000 x235001 x235002 x235003 x235004 x235005 (Int.tmod (wrap64 (x1)) (x235002.length : Int)) false false false 0 false 193).bind fun bt256 => (shutterlaw10_GridKeeps.l0 k x2 (Int.tmod (wrap64 (x1)) (x235002.length : Int)) 0 x235000 x235001 x235002 x235003 x235004 x235005 bt238.1 bt238.2.1 bt238.2.2.1 bt238.2.2.2.1 bt238.2.2.2.2.1 bt238.2.2.2.2.2 bt247.1 bt247.2.1 bt247.2.2.1 bt247.2.2.2.1 bt247.2.2.2.2.1 bt247.2.2.2.2.2 bt256.1 bt256.2.1 bt256.2.2.1 bt256.2.2.2.1 bt256.2.2.2.2.1 bt256.2.2.2.2.2.1)))))
def shutterlaw10_GridKeeps.l0 : Nat → Int → Int → Int → Int → Int → List (S44) → Int → Bool → Bool → Int → Int → List (S44) → Int → Bool → Bool → Int → Int → List (S44) → Int → Bool → Bool → Int → Int → List (S44) → Int → Bool → Bool → Option (Bool)
  | 0, _, _, _, _, _, _, _, _, _, _, _, _, _, _, _, _, _, _, _, _, _, _, _, _, _, _, _ => none
  | k + 1, x2, x8, x12, x235000, x235001, x235002, x235003, x235004, x235005, x247000, x247001, x247002, x247003, x247004, x247005, x256000, x256001, x256002, x256003, x256004, x256005, x266000, x266001, x266002, x266003, x266004, x266005 => if x12 < (x256002.length : Int) then (if 0 ≤ x12 then (if x12 < (x266002.length : Int) then (shutterlaw10_GridKeeps.l0 k x2 x8 (wrap64 (x12 + 1)) x235000 x235001 x235002 x235003 x235004 x235005 x247000 x247001 x247002 x247003 x247004 x247005 x256000 x256001 (x256002.set (x12 : Int).toNat (⟨(rd_T44 x256002 x12).f0, (⟨(rd_T44 x256002 x12).f1.f0, (rd_T44 x256002 x12).f1.f1, (rd_T44 x256002 x12).f1.f2, (rd_T44 x256002 x12).f1.f3⟩ : S42), 7⟩ : S44)) x256003 x256004 x256005 x266000 x266001 (x266002.set (x12 : Int).toNat (⟨(rd_T44 x266002 x12).f0, (⟨(rd_T44 x266002 x12).f1.f0, (rd_T44 x266002 x12).f1.f1, (rd_T44 x266002 x12).f1.f2, (rd_T44 x266002 x12).f1.f3⟩ : S42), 7⟩ : S44)) x266003 x266004 x266005) else (none)) else (none)) else (if (x235002.length : Int) = 0 then (none) else ((grid_Span.f k x235000 x235001 x235002 x235003 x235004 x235005 x8 (Int.tmod (wrap64 (x2)) (x235002.length : Int))).bind fun t268 => (if 0 ≤ (x235002.length : Int) then (if ((x235002.length : Int) : Int).toNat ≤ 281474976710656 then (shutterlaw10_GridKeeps.l1 k t268 (List.replicate ((x235002.length : Int) : Int).toNat false) 0 x235000 x235001 x235002 x235003 x235004 x235005 x247000 x247001 x247002 x247003 x247004 x247005) else (none)) else (none))))
def shutterlaw10_GridKeeps.l1 : Nat → List Int → List Bool → Int → Int → Int → List (S44) → Int → Bool → Bool → Int → Int → List (S44) → Int → Bool → Bool → Option (Bool)
  | 0, _, _, _, _, _, _, _, _, _, _, _, _, _, _, _ => none
  | k + 1, x13, x14, x15, x235000, x235001, x235002, x235003, x235004, x235005, x247000, x247001, x247002, x247003, x247004, x247005 => if x15 < (x13.length : Int) then (if 0 ≤ x15 then (if 0 ≤ (rd x13 x15) then (if (rd x13 x15) < (x14.length : Int) then (if rdOf false x14 (rd x13 x15) = true then (some false) else (shutterlaw10_GridKeeps.l1 k x13 (x14.set ((rd x13 x15) : Int).toNat true) (wrap64 (x15 + 1)) x235000 x235001 x235002 x235003 x235004 x235005 x247000 x247001 x247002 x247003 x247004 x247005)) else (none)) else (none)) else (none)) else ((shutterref10_Same.f k x235000 x235001 x235002 x235003 x235004 x235005 x247000 x247001 x247002 x247003 x247004 x247005).bind fun t278 => (some t278))
end
def shutterlaw10_GridKeeps.f (k : Nat) (a0_0 : Int) (a0_1 : Int) (l0_2 : List (S44)) (a0_3 : Int) (a0_4 : Bool) (a0_5 : Bool) (a1 : Int) (a2 : Int) : Option (Bool) := (shutterlaw10_awake.f k).bind fun t235 => (if t235 = true then ((shutterref10_Few.f k a0_0 a0_1 l0_2 a0_3 a0_4 a0_5).bind fun t236 => (shutterlaw10_GridKeeps.j0 k a1 a2 (!t236) a0_0 a0_1 l0_2 a0_3 a0_4 a0_5)) else (shutterlaw10_GridKeeps.j0 k a1 a2 true a0_0 a0_1 l0_2 a0_3 a0_4 a0_5))
theorem shutterlaw10_GridKeeps.mono_l : ∀ k, (∀ y0 y1 y2 y3 y4 y5 y6 y7 y8, LeO (shutterlaw10_GridKeeps.j0 k y0 y1 y2 y3 y4 y5 y6 y7 y8) (shutterlaw10_GridKeeps.j0 (k + 1) y0 y1 y2 y3 y4 y5 y6 y7 y8)) ∧ (∀ y0 y1 y2 y3 y4 y5 y6 y7 y8 y9 y10 y11 y12 y13 y14 y15 y16 y17 y18 y19 y20 y21 y22 y23 y24 y25 y26, LeO (shutterlaw10_GridKeeps.l0 k y0 y1 y2 y3 y4 y5 y6 y7 y8 y9 y10 y11 y12 y13 y14 y15 y16 y17 y18 y19 y20 y21 y22 y23 y24 y25 y26) (shutterlaw10_GridKeeps.l0 (k + 1) y0 y1 y2 y3 y4 y5 y6 y7 y8 y9 y10 y11 y12 y13 y14 y15 y16 y17 y18 y19 y20 y21 y22 y23 y24 y25 y26)) ∧ (∀ y0 y1 y2 y3 y4 y5 y6 y7 y8 y9 y10 y11 y12 y13 y14, LeO (shutterlaw10_GridKeeps.l1 k y0 y1 y2 y3 y4 y5 y6 y7 y8 y9 y10 y11 y12 y13 y14) (shutterlaw10_GridKeeps.l1 (k + 1) y0 y1 y2 y3 y4 y5 y6 y7 y8 y9 y10 y11 y12 y13 y14))
  | 0 => ⟨fun _ _ _ _ _ _ _ _ _ r h => by simp [shutterlaw10_GridKeeps.j0] at h, fun _ _ _ _ _ _ _ _ _ _ _ _ _ _ _ _ _ _ _ _ _ _ _ _ _ _ _ r h => by simp [shutterlaw10_GridKeeps.l0] at h, fun _ _ _ _ _ _ _ _ _ _ _ _ _ _ _ r h => by simp [shutterlaw10_GridKeeps.l1] at h⟩
  | k + 1 => by
    obtain ⟨ih0, ih1, ih2⟩ := shutterlaw10_GridKeeps.mono_l k
    refine ⟨?_, ?_, ?_⟩
    · intro y0 y1 y2 y3 y4 y5 y6 y7 y8
      unfold shutterlaw10_GridKeeps.j0
      repeat' first
      | (with_reducible exact ih0 _ _ _ _ _ _ _ _ _)
      | (with_reducible exact ih1 _ _ _ _ _ _ _ _ _ _ _ _ _ _ _ _ _ _ _ _ _ _ _ _ _ _ _)
      | (with_reducible exact ih2 _ _ _ _ _ _ _ _ _ _ _ _ _ _ _)
      | (with_reducible exact grid_Put.mono _ _ _ _ _ _ _ _ _ _ _ _ _ _)
      | (with_reducible exact grid_Span.mono _ _ _ _ _ _ _ _ _)
      | (with_reducible exact shutterlaw10_awake.mono _)
      | (with_reducible exact shutterref10_Few.mono _ _ _ _ _ _ _)
      | (with_reducible exact shutterref10_Same.mono _ _ _ _ _ _ _ _ _ _ _ _ _)
      | (with_reducible exact LeO.refl _)
      | (with_reducible exact LeO.none _)
      | (with_reducible refine LeO.ite ?_ ?_)
      | (with_reducible refine LeO.bind ?_ (fun _ => ?_))
      | exact ih0 _ _ _ _ _ _ _ _ _
      | exact ih1 _ _ _ _ _ _ _ _ _ _ _ _ _ _ _ _ _ _ _ _ _ _ _ _ _ _ _
      | exact ih2 _ _ _ _ _ _ _ _ _ _ _ _ _ _ _
      | exact grid_Put.mono _ _ _ _ _ _ _ _ _ _ _ _ _ _
      | exact grid_Span.mono _ _ _ _ _ _ _ _ _
      | exact shutterlaw10_awake.mono _
      | exact shutterref10_Few.mono _ _ _ _ _ _ _
      | exact shutterref10_Same.mono _ _ _ _ _ _ _ _ _ _ _ _ _
      | exact LeO.none _
      | refine LeO.ite ?_ ?_
      | refine LeO.bind ?_ (fun _ => ?_)
    · intro y0 y1 y2 y3 y4 y5 y6 y7 y8 y9 y10 y11 y12 y13 y14 y15 y16 y17 y18 y19 y20 y21 y22 y23 y24 y25 y26
      unfold shutterlaw10_GridKeeps.l0
      repeat' first
      | (with_reducible exact ih0 _ _ _ _ _ _ _ _ _)
      | (with_reducible exact ih1 _ _ _ _ _ _ _ _ _ _ _ _ _ _ _ _ _ _ _ _ _ _ _ _ _ _ _)
      | (with_reducible exact ih2 _ _ _ _ _ _ _ _ _ _ _ _ _ _ _)
      | (with_reducible exact grid_Put.mono _ _ _ _ _ _ _ _ _ _ _ _ _ _)
      | (with_reducible exact grid_Span.mono _ _ _ _ _ _ _ _ _)
      | (with_reducible exact shutterlaw10_awake.mono _)
      | (with_reducible exact shutterref10_Few.mono _ _ _ _ _ _ _)
      | (with_reducible exact shutterref10_Same.mono _ _ _ _ _ _ _ _ _ _ _ _ _)
      | (with_reducible exact LeO.refl _)
      | (with_reducible exact LeO.none _)
      | (with_reducible refine LeO.ite ?_ ?_)
      | (with_reducible refine LeO.bind ?_ (fun _ => ?_))
      | exact ih0 _ _ _ _ _ _ _ _ _
      | exact ih1 _ _ _ _ _ _ _ _ _ _ _ _ _ _ _ _ _ _ _ _ _ _ _ _ _ _ _
      | exact ih2 _ _ _ _ _ _ _ _ _ _ _ _ _ _ _
      | exact grid_Put.mono _ _ _ _ _ _ _ _ _ _ _ _ _ _
      | exact grid_Span.mono _ _ _ _ _ _ _ _ _
      | exact shutterlaw10_awake.mono _
      | exact shutterref10_Few.mono _ _ _ _ _ _ _
      | exact shutterref10_Same.mono _ _ _ _ _ _ _ _ _ _ _ _ _
      | exact LeO.none _
      | refine LeO.ite ?_ ?_
      | refine LeO.bind ?_ (fun _ => ?_)
    · intro y0 y1 y2 y3 y4 y5 y6 y7 y8 y9 y10 y11 y12 y13 y14
      unfold shutterlaw10_GridKeeps.l1
      repeat' first
      | (with_reducible exact ih0 _ _ _ _ _ _ _ _ _)
      | (with_reducible exact ih1 _ _ _ _ _ _ _ _ _ _ _ _ _ _ _ _ _ _ _ _ _ _ _ _ _ _ _)
      | (with_reducible exact ih2 _ _ _ _ _ _ _ _ _ _ _ _ _ _ _)
      | (with_reducible exact grid_Put.mono _ _ _ _ _ _ _ _ _ _ _ _ _ _)
      | (with_reducible exact grid_Span.mono _ _ _ _ _ _ _ _ _)
      | (with_reducible exact shutterlaw10_awake.mono _)
      | (with_reducible exact shutterref10_Few.mono _ _ _ _ _ _ _)
      | (with_reducible exact shutterref10_Same.mono _ _ _ _ _ _ _ _ _ _ _ _ _)
      | (with_reducible exact LeO.refl _)
      | (with_reducible exact LeO.none _)
      | (with_reducible refine LeO.ite ?_ ?_)
      | (with_reducible refine LeO.bind ?_ (fun _ => ?_))
      | exact ih0 _ _ _ _ _ _ _ _ _
      | exact ih1 _ _ _ _ _ _ _ _ _ _ _ _ _ _ _ _ _ _ _ _ _ _ _ _ _ _ _
      | exact ih2 _ _ _ _ _ _ _ _ _ _ _ _ _ _ _
      | exact grid_Put.mono _ _ _ _ _ _ _ _ _ _ _ _ _ _
      | exact grid_Span.mono _ _ _ _ _ _ _ _ _
      | exact shutterlaw10_awake.mono _
      | exact shutterref10_Few.mono _ _ _ _ _ _ _
      | exact shutterref10_Same.mono _ _ _ _ _ _ _ _ _ _ _ _ _
      | exact LeO.none _
      | refine LeO.ite ?_ ?_
      | refine LeO.bind ?_ (fun _ => ?_)
theorem shutterlaw10_GridKeeps.mono : ∀ a0 a1 a2 a3 a4 a5 a6 a7 k, LeO (shutterlaw10_GridKeeps.f k a0 a1 a2 a3 a4 a5 a6 a7) (shutterlaw10_GridKeeps.f (k + 1) a0 a1 a2 a3 a4 a5 a6 a7) := by
  intro a0 a1 a2 a3 a4 a5 a6 a7 k
  obtain ⟨ih0, ih1, ih2⟩ := shutterlaw10_GridKeeps.mono_l k
  unfold shutterlaw10_GridKeeps.f
  repeat' first
      | (with_reducible exact ih0 _ _ _ _ _ _ _ _ _)
      | (with_reducible exact ih1 _ _ _ _ _ _ _ _ _ _ _ _ _ _ _ _ _ _ _ _ _ _ _ _ _ _ _)
      | (with_reducible exact ih2 _ _ _ _ _ _ _ _ _ _ _ _ _ _ _)
      | (with_reducible exact grid_Put.mono _ _ _ _ _ _ _ _ _ _ _ _ _ _)
      | (with_reducible exact grid_Span.mono _ _ _ _ _ _ _ _ _)
      | (with_reducible exact shutterlaw10_awake.mono _)
      | (with_reducible exact shutterref10_Few.mono _ _ _ _ _ _ _)
      | (with_reducible exact shutterref10_Same.mono _ _ _ _ _ _ _ _ _ _ _ _ _)
      | (with_reducible exact LeO.refl _)
      | (with_reducible exact LeO.none _)
      | (with_reducible refine LeO.ite ?_ ?_)
      | (with_reducible refine LeO.bind ?_ (fun _ => ?_))
      | exact ih0 _ _ _ _ _ _ _ _ _
      | exact ih1 _ _ _ _ _ _ _ _ _ _ _ _ _ _ _ _ _ _ _ _ _ _ _ _ _ _ _
      | exact ih2 _ _ _ _ _ _ _ _ _ _ _ _ _ _ _
      | exact grid_Put.mono _ _ _ _ _ _ _ _ _ _ _ _ _ _
      | exact grid_Span.mono _ _ _ _ _ _ _ _ _
      | exact shutterlaw10_awake.mono _
      | exact shutterref10_Few.mono _ _ _ _ _ _ _
      | exact shutterref10_Same.mono _ _ _ _ _ _ _ _ _ _ _ _ _
      | exact LeO.none _
      | refine LeO.ite ?_ ?_
      | refine LeO.bind ?_ (fun _ => ?_)
def shutterlaw10_GridKeeps.T12 : Bool × List (List Nat × List Nat) := (true, [([], []), ([], []), ([], []), ([2], [2]), ([], []), ([4], [4]), ([5], [5]), ([3, 6], [3, 6]), ([0, 1, 7], [0, 1, 7]), ([8, 8, 0, 1, 2, 3, 4, 5, 6, 7, 8], [8])])
def shutterlaw10_GridKeeps.B12 : List Nat := [0, 0, 0, 4, 0, 16, 48, 124, 255, 511]
theorem shutterlaw10_GridKeeps.tab12 : rtab .any (opsOf Try.f5 12) = shutterlaw10_GridKeeps.T12 := by kernel_rfl
theorem shutterlaw10_GridKeeps.bits12 : waitsOk shutterlaw10_GridKeeps.T12.2 shutterlaw10_GridKeeps.B12 = true := by kernel_rfl
set_option maxHeartbeats 8000000 in
set_option maxRecDepth 100000 in
theorem shutterlaw10_GridKeeps.calls (k : Nat) (a0_0 : Int) (a0_1 : Int) (A0_2 : Option Addr) (c0_2 : Nat) (l0_2 : List (S44)) (a0_3 : Int) (a0_4 : Bool) (a0_5 : Bool) (a1 : Int) (a2 : Int) (r : Bool) (w : World) (hr0_2 : Kd.C k44 w A0_2 l0_2.length l0_2) (hc0_2 : l0_2.length ≤ c0_2) (h : shutterlaw10_GridKeeps.f k a0_0 a0_1 l0_2 a0_3 a0_4 a0_5 a1 a2 = some r) :
    Calls Try.prog 5 #[.agg #[.int .i64 a0_0, .int .i64 a0_1, .slice A0_2 l0_2.length c0_2, .int .i64 a0_3, .bool a0_4, .bool a0_5], .int .u16 a1, .int .u16 a2] w fun e w' => e = .returned (.bool r) ∧ Below w.heap.size w w' := by
  have hu24 := Try.underlying24
  have hu44 := Try.underlying44
  have HR0_2 := Aside0.mk hr0_2
  have HC0_2 := Aside0.mk hc0_2
  clear hr0_2 hc0_2
  have HB := Aside0.mk (Below.refl w.heap.size w)
  have H : ((shutterlaw10_awake.f k).bind fun t235 => (if t235 = true then ((shutterref10_Few.f k a0_0 a0_1 l0_2 a0_3 a0_4 a0_5).bind fun t236 => (shutterlaw10_GridKeeps.j0 k a1 a2 (!t236) a0_0 a0_1 l0_2 a0_3 a0_4 a0_5)) else (shutterlaw10_GridKeeps.j0 k a1 a2 true a0_0 a0_1 l0_2 a0_3 a0_4 a0_5))) = some r := h
  clear h
  have HC4 := Aside0.mk H
  clear H
  go_enter Try.func5, Try.ntmps5
  go_upto_region 1 with (first | ((with_reducible refine gate_dst (N := 3) rfl ?_); refine box_event ?hg (N := 3) ?hd (cs := #[.int .i64 a0_0, .int .i64 a0_1, .slice A0_2 l0_2.length c0_2, .int .i64 a0_3, .bool a0_4, .bool a0_5]) (t := 24) ?hr ?_; (case hd => rfl); (case hg => rfl); (case hr => first | (go_simp; done) | (go_simp; rfl)); intro gb234 hg w5 hbox hb; have n0_ := Aside0.mk (below_step (by repeat (first | (with_reducible first | exact HB.out | apply below_alloc | apply pw_below_drewN | apply below_drew1) | exact HB.out)) hb); have n1_ := Aside0.mk (hbox); have n2_ := Aside0.mk ((by rw [hg]; exact (below_size (by repeat (first | (with_reducible first | exact HB.out | apply below_alloc | apply pw_below_drewN | apply below_drew1) | exact HB.out))) : w.heap.size ≤ gb234)); have n3_ := Aside0.mk ((by rw [hg]; exact (below_size (by repeat (first | (with_reducible first | exact HB.out | apply below_alloc | apply pw_below_drewN | apply below_drew1) | exact HB.out))) : w.heap.size ≤ gb234)); clear HB; have HB := n0_; have BK234 := n1_; have GW234 := n2_; have GE234 := n3_; clear n0_ n1_ n2_ n3_; clear hb hbox hg))
  (try simp only [Act.put, List.setIfInBounds_toArray, List.set_cons_zero, List.set_cons_succ])
  go_cut [22] (fun v22 wc => ∃ (kq : Nat) (x22_3 : Bool), v22 = .bool x22_3 ∧ Aside0 (shutterlaw10_GridKeeps.j0 kq a1 a2 x22_3 a0_0 a0_1 l0_2 a0_3 a0_4 a0_5 = some r) ∧ Aside0 (kq ≤ k) ∧ Aside0 (wc.heap[gb234]? = some (.cells #[.int .i64 a0_0, .int .i64 a0_1, (.slice A0_2 l0_2.length c0_2), .int .i64 a0_3, .bool a0_4, .bool a0_5] 24 (0, 0))) ∧ Aside0 (Below w.heap.size w wc))
  case first =>
    have H := HC4.out
    clear HC4
    replace H := Option.bind_eq_some_iff.mp H
    obtain ⟨t235, A60, H⟩ := H
    replace H : (if t235 = true then ((shutterref10_Few.f k a0_0 a0_1 l0_2 a0_3 a0_4 a0_5).bind fun t236 => (shutterlaw10_GridKeeps.j0 k a1 a2 (!t236) a0_0 a0_1 l0_2 a0_3 a0_4 a0_5)) else (shutterlaw10_GridKeeps.j0 k a1 a2 true a0_0 a0_1 l0_2 a0_3 a0_4 a0_5)) = some r := H
    have A6 := Aside0.mk A60
    clear A60
    by_cases c7 : t235 = true
    · subst c7
      have H1 : ((shutterref10_Few.f k a0_0 a0_1 l0_2 a0_3 a0_4 a0_5).bind fun t236 => (shutterlaw10_GridKeeps.j0 k a1 a2 (!t236) a0_0 a0_1 l0_2 a0_3 a0_4 a0_5)) = some r := by rw [if_pos rfl] at H; exact H
      clear H
      have H := H1
      clear H1
      replace H := Option.bind_eq_some_iff.mp H
      obtain ⟨t236, A80, H⟩ := H
      replace H : (shutterlaw10_GridKeeps.j0 k a1 a2 (!t236) a0_0 a0_1 l0_2 a0_3 a0_4 a0_5) = some r := H
      have A8 := Aside0.mk A80
      clear A80
      have H' := Aside0.mk H
      clear H
      go_wp2_with (first | ((with_reducible refine gate_callee (f := 6) rfl ?_); refine goesL_ (some 16) rfl rfl Try.func6 (by kernel_rfl) rfl #[] rfl (by (try simp only [List.map_toArray, List.map_cons, List.map_nil]); first | done | rfl | (simp only [List.length_drop, List.length_take]; rfl)) ?_; (with_reducible refine (shutterlaw10_awake.calls k  true _ A6.out).mono ?_); rintro e w9 ⟨rfl, hb⟩; refine ⟨_, rfl, ?_⟩; have n0_ := Aside0.mk (blk_below (g := gb234) (o := .cells #[.int .i64 a0_0, .int .i64 a0_1, .slice A0_2 l0_2.length c0_2, .int .i64 a0_3, .bool a0_4, .bool a0_5] 24 (0, 0)) (by (with_reducible repeat (first | refine blk_drewN ?_ _ | refine blk_drew ?_ | refine blk_alloc ?_ _)); exact BK234.out) hb); have n1_ := Aside0.mk (below_step (by repeat (first | (with_reducible first | exact HB.out | apply below_alloc | apply pw_below_drewN | apply below_drew1 | refine below_set ?_ GE234.out) | exact HB.out)) hb); clear BK234; clear HB; have BK234 := n0_; have HB := n1_; clear n0_ n1_; (try clear hb); (try clear hb2); (try clear hk); (try clear hi); have hcz10_0 : w9.cell? ⟨gb234, 0, none⟩ = some (.int .i64 a0_0) := (blk_cell BK234.out 0).trans rfl; have hcz10_1 : w9.cell? ⟨gb234, 1, none⟩ = some (.int .i64 a0_1) := (blk_cell BK234.out 1).trans rfl; have hcz10_2 : w9.cell? ⟨gb234, 2, none⟩ = some (.slice A0_2 l0_2.length c0_2) := (blk_cell BK234.out 2).trans rfl; have hcz10_3 : w9.cell? ⟨gb234, 3, none⟩ = some (.int .i64 a0_3) := (blk_cell BK234.out 3).trans rfl; have hcz10_4 : w9.cell? ⟨gb234, 4, none⟩ = some (.bool a0_4) := (blk_cell BK234.out 4).trans rfl; have hcz10_5 : w9.cell? ⟨gb234, 5, none⟩ = some (.bool a0_5) := (blk_cell BK234.out 5).trans rfl; have hfz10_0 := blk_frozen BK234.out 0; have hfz10_1 := blk_frozen BK234.out 1; have hfz10_2 := blk_frozen BK234.out 2; have hfz10_3 := blk_frozen BK234.out 3; have hfz10_4 := blk_frozen BK234.out 4; have hfz10_5 := blk_frozen BK234.out 5) | (go_at_call 7; (with_reducible refine (shutterref10_Few.calls k a0_0 a0_1 _ _ l0_2 a0_3 a0_4 a0_5 t236 _ ?side1 ?side2 A8.out).mono ?_); (case side1 => repeat (first | exact (Kd.C_below HR0_2.out HB.out) | (with_reducible refine Kd.C_alloc ?_ _) | (with_reducible refine Kd.C_drewN ?_ _) | (with_reducible refine Kd.C_drew ?_))); (case side2 => exact HC0_2.out); rintro e w11 ⟨rfl, hb⟩; have n0_ := Aside0.mk (blk_below (g := gb234) (o := .cells #[.int .i64 a0_0, .int .i64 a0_1, .slice A0_2 l0_2.length c0_2, .int .i64 a0_3, .bool a0_4, .bool a0_5] 24 (0, 0)) (by (with_reducible repeat (first | refine blk_drewN ?_ _ | refine blk_drew ?_ | refine blk_alloc ?_ _)); exact BK234.out) hb); have n1_ := Aside0.mk (below_step (by repeat (first | (with_reducible first | exact HB.out | apply below_alloc | apply pw_below_drewN | apply below_drew1 | refine below_set ?_ GE234.out) | exact HB.out)) hb); clear BK234; clear HB; have BK234 := n0_; have HB := n1_; clear n0_ n1_; (try clear hb); (try clear hb2); (try clear hk); (try clear hi)))
      go_meet
      case rel => exact ⟨_, (!t236), (by first | rfl | (simp; done) | (simp [*]; done)), H', ⟨by first | omega | exact Nat.le_refl _⟩, ⟨by (with_reducible repeat (first | refine blk_drewN ?_ _ | refine blk_drew ?_ | refine blk_alloc ?_ _)); exact BK234.out⟩, ⟨by repeat (first | (with_reducible first | exact HB.out | apply below_alloc | apply pw_below_drewN | apply below_drew1 | refine below_set ?_ GE234.out) | exact HB.out)⟩⟩
    · replace c7 := Bool.eq_false_iff.mpr c7
      subst c7
      have H1 : (shutterlaw10_GridKeeps.j0 k a1 a2 true a0_0 a0_1 l0_2 a0_3 a0_4 a0_5) = some r := by rw [if_neg (show ¬ (false = true) by decide)] at H; exact H
      clear H
      have H := H1
      clear H1
      have H' := Aside0.mk H
      clear H
      go_wp2_with (first | ((with_reducible refine gate_callee (f := 6) rfl ?_); refine goesL_ (some 16) rfl rfl Try.func6 (by kernel_rfl) rfl #[] rfl (by (try simp only [List.map_toArray, List.map_cons, List.map_nil]); first | done | rfl | (simp only [List.length_drop, List.length_take]; rfl)) ?_; (with_reducible refine (shutterlaw10_awake.calls k  false _ A6.out).mono ?_); rintro e w12 ⟨rfl, hb⟩; refine ⟨_, rfl, ?_⟩; have n0_ := Aside0.mk (blk_below (g := gb234) (o := .cells #[.int .i64 a0_0, .int .i64 a0_1, .slice A0_2 l0_2.length c0_2, .int .i64 a0_3, .bool a0_4, .bool a0_5] 24 (0, 0)) (by (with_reducible repeat (first | refine blk_drewN ?_ _ | refine blk_drew ?_ | refine blk_alloc ?_ _)); exact BK234.out) hb); have n1_ := Aside0.mk (below_step (by repeat (first | (with_reducible first | exact HB.out | apply below_alloc | apply pw_below_drewN | apply below_drew1 | refine below_set ?_ GE234.out) | exact HB.out)) hb); clear BK234; clear HB; have BK234 := n0_; have HB := n1_; clear n0_ n1_; (try clear hb); (try clear hb2); (try clear hk); (try clear hi)))
      go_meet
      case rel => exact ⟨_, (true), (by first | rfl | (simp; done) | (simp [*]; done)), H', ⟨by first | omega | exact Nat.le_refl _⟩, ⟨by (with_reducible repeat (first | refine blk_drewN ?_ _ | refine blk_drew ?_ | refine blk_alloc ?_ _)); exact BK234.out⟩, ⟨by repeat (first | (with_reducible first | exact HB.out | apply below_alloc | apply pw_below_drewN | apply below_drew1 | refine below_set ?_ GE234.out) | exact HB.out)⟩⟩
  case rest =>
    clear HC4
    try clear p2
    try clear c5
    try clear c6
    try clear c7
    try clear hcz10_0
    try clear hcz10_1
    try clear hcz10_2
    try clear hcz10_3
    try clear hcz10_4
    try clear hcz10_5
    try clear hfz10_0
    try clear hfz10_1
    try clear hfz10_2
    try clear hfz10_3
    try clear hfz10_4
    try clear hfz10_5
    obtain ⟨kq, x22_3, rfl, HA, HJ3, BK234, HB⟩ := hcut
    cases kq with
    | zero => exact absurd HA.out (by simp [shutterlaw10_GridKeeps.j0])
    | succ kj3 =>
      have H := HA.out
      clear HA
      simp only [shutterlaw10_GridKeeps.j0] at H
      by_cases c13 : x22_3 = true
      · subst c13
        have H1 : ((shutterlaw10_awake.f kj3).bind fun t237 => (some t237)) = some r := by rw [if_pos rfl] at H; exact H
        clear H
        have H := H1
        clear H1
        replace H := Option.bind_eq_some_iff.mp H
        obtain ⟨t237, A140, H⟩ := H
        replace H : (some t237) = some r := H
        have A14 := Aside0.mk A140
        clear A140
        obtain rfl := Option.some.inj H
        go_wp2_with (first | ((with_reducible refine gate_callee (f := 6) rfl ?_); refine goesL_ (some 23) rfl rfl Try.func6 (by kernel_rfl) rfl #[] rfl (by (try simp only [List.map_toArray, List.map_cons, List.map_nil]); first | done | rfl | (simp only [List.length_drop, List.length_take]; rfl)) ?_; (with_reducible refine (shutterlaw10_awake.calls kj3  t237 _ A14.out).mono ?_); rintro e w15 ⟨rfl, hb⟩; refine ⟨_, rfl, ?_⟩; have n0_ := Aside0.mk (blk_below (g := gb234) (o := .cells #[.int .i64 a0_0, .int .i64 a0_1, .slice A0_2 l0_2.length c0_2, .int .i64 a0_3, .bool a0_4, .bool a0_5] 24 (0, 0)) (by (with_reducible repeat (first | refine blk_drewN ?_ _ | refine blk_drew ?_ | refine blk_alloc ?_ _)); exact BK234.out) hb); have n1_ := Aside0.mk (below_step (by repeat (first | (with_reducible first | exact HB.out | apply below_alloc | apply pw_below_drewN | apply below_drew1 | refine below_set ?_ GE234.out) | exact HB.out)) hb); clear BK234; clear HB; have BK234 := n0_; have HB := n1_; clear n0_ n1_; (try clear hb); (try clear hb2); (try clear hk); (try clear hi)))
        go_ret
        exact ⟨by first | rfl | (simp [errW_none, errW_some] <;> rfl) | (simp [*, errW_none, errW_some] <;> rfl), by repeat (first | (with_reducible first | exact HB.out | apply below_alloc | apply pw_below_drewN | apply below_drew1 | refine below_set ?_ GE234.out) | exact HB.out)⟩
      · replace c13 := Bool.eq_false_iff.mpr c13
        subst c13
        have H1 : ((shutterref10_Copy.f a0_0 a0_1 l0_2 a0_3 a0_4 a0_5).bind fun bt238 => (if (l0_2.length : Int) = 0 then (none) else ((grid_Copy.f a0_0 a0_1 l0_2 a0_3 a0_4 a0_5).bind fun bt247 => ((grid_Put.f kj3 a0_0 a0_1 l0_2 a0_3 a0_4 a0_5 (Int.tmod (wrap64 (a1)) (l0_2.length : Int)) false false false 0 false 193).bind fun bt256 => (shutterlaw10_GridKeeps.l0 kj3 a2 (Int.tmod (wrap64 (a1)) (l0_2.length : Int)) 0 a0_0 a0_1 l0_2 a0_3 a0_4 a0_5 bt238.1 bt238.2.1 bt238.2.2.1 bt238.2.2.2.1 bt238.2.2.2.2.1 bt238.2.2.2.2.2 bt247.1 bt247.2.1 bt247.2.2.1 bt247.2.2.2.1 bt247.2.2.2.2.1 bt247.2.2.2.2.2 bt256.1 bt256.2.1 bt256.2.2.1 bt256.2.2.2.1 bt256.2.2.2.2.1 bt256.2.2.2.2.2.1))))) = some r := by rw [if_neg (show ¬ (false = true) by decide)] at H; exact H
        clear H
        have H := H1
        clear H1
        replace H := Option.bind_eq_some_iff.mp H
        obtain ⟨⟨t238, t239, t240, t243, t244, t245⟩, A160, H⟩ := H
        replace H : (if (l0_2.length : Int) = 0 then (none) else ((grid_Copy.f a0_0 a0_1 l0_2 a0_3 a0_4 a0_5).bind fun bt247 => ((grid_Put.f kj3 a0_0 a0_1 l0_2 a0_3 a0_4 a0_5 (Int.tmod (wrap64 (a1)) (l0_2.length : Int)) false false false 0 false 193).bind fun bt256 => (shutterlaw10_GridKeeps.l0 kj3 a2 (Int.tmod (wrap64 (a1)) (l0_2.length : Int)) 0 a0_0 a0_1 l0_2 a0_3 a0_4 a0_5 t238 t239 t240 t243 t244 t245 bt247.1 bt247.2.1 bt247.2.2.1 bt247.2.2.2.1 bt247.2.2.2.2.1 bt247.2.2.2.2.2 bt256.1 bt256.2.1 bt256.2.2.1 bt256.2.2.2.1 bt256.2.2.2.2.1 bt256.2.2.2.2.2.1)))) = some r := H
        have A16 := Aside0.mk A160
        clear A160
        by_cases c17 : (l0_2.length : Int) = 0
        · rw [if_pos c17] at H
          exact absurd H (by simp)
        · rw [if_neg c17] at H
          have c17b0 : ((l0_2.length : Int) == 0) = false := beq_eq_false_iff_ne.mpr c17
          have c17b1 : ((l0_2.length : Int) != 0) = true := bne_iff_ne.mpr c17
          have c17b2 : ¬ (l0_2 = []) := fun h_ => c17 (by rw [h_]; rfl)
          replace H := Option.bind_eq_some_iff.mp H
          obtain ⟨⟨t247, t248, t249, t252, t253, t254⟩, A180, H⟩ := H
          replace H : ((grid_Put.f kj3 a0_0 a0_1 l0_2 a0_3 a0_4 a0_5 (Int.tmod (wrap64 (a1)) (l0_2.length : Int)) false false false 0 false 193).bind fun bt256 => (shutterlaw10_GridKeeps.l0 kj3 a2 (Int.tmod (wrap64 (a1)) (l0_2.length : Int)) 0 a0_0 a0_1 l0_2 a0_3 a0_4 a0_5 t238 t239 t240 t243 t244 t245 t247 t248 t249 t252 t253 t254 bt256.1 bt256.2.1 bt256.2.2.1 bt256.2.2.2.1 bt256.2.2.2.2.1 bt256.2.2.2.2.2.1)) = some r := H
          have A18 := Aside0.mk A180
          clear A180
          replace H := Option.bind_eq_some_iff.mp H
          obtain ⟨⟨t256, t257, t258, t261, t262, t263, t264⟩, A190, H⟩ := H
          replace H : (shutterlaw10_GridKeeps.l0 kj3 a2 (Int.tmod (wrap64 (a1)) (l0_2.length : Int)) 0 a0_0 a0_1 l0_2 a0_3 a0_4 a0_5 t238 t239 t240 t243 t244 t245 t247 t248 t249 t252 t253 t254 t256 t257 t258 t261 t262 t263) = some r := H
          have A19 := Aside0.mk A190
          clear A190
          have H' := Aside0.mk H
          clear H
          have hcz20_0 : wc.cell? ⟨gb234, 0, none⟩ = some (.int .i64 a0_0) := (blk_cell BK234.out 0).trans rfl
          have hcz20_1 : wc.cell? ⟨gb234, 1, none⟩ = some (.int .i64 a0_1) := (blk_cell BK234.out 1).trans rfl
          have hcz20_2 : wc.cell? ⟨gb234, 2, none⟩ = some (.slice A0_2 l0_2.length c0_2) := (blk_cell BK234.out 2).trans rfl
          have hcz20_3 : wc.cell? ⟨gb234, 3, none⟩ = some (.int .i64 a0_3) := (blk_cell BK234.out 3).trans rfl
          have hcz20_4 : wc.cell? ⟨gb234, 4, none⟩ = some (.bool a0_4) := (blk_cell BK234.out 4).trans rfl
          have hcz20_5 : wc.cell? ⟨gb234, 5, none⟩ = some (.bool a0_5) := (blk_cell BK234.out 5).trans rfl
          have hfz20_0 := blk_frozen BK234.out 0
          have hfz20_1 := blk_frozen BK234.out 1
          have hfz20_2 := blk_frozen BK234.out 2
          have hfz20_3 := blk_frozen BK234.out 3
          have hfz20_4 := blk_frozen BK234.out 4
          have hfz20_5 := blk_frozen BK234.out 5
          go_wp2_with (first | ((with_reducible refine gate_callee (f := 13) rfl ?_); refine goesL_ (some 25) rfl rfl Try.func13 (by kernel_rfl) rfl #[.agg #[.int .i64 a0_0, .int .i64 a0_1, .slice A0_2 l0_2.length c0_2, .int .i64 a0_3, .bool a0_4, .bool a0_5]] rfl (by (try simp only [List.map_toArray, List.map_cons, List.map_nil]); first | done | rfl | (simp only [List.length_drop, List.length_take]; rfl)) ?_; (with_reducible refine (shutterref10_Copy.calls a0_0 a0_1 _ _ l0_2 a0_3 a0_4 a0_5 t238 t239 t240 t243 t244 t245 _ ?side1 ?side2 A16.out).mono ?_); (case side1 => repeat (first | exact (Kd.C_below HR0_2.out HB.out) | (with_reducible refine Kd.C_alloc ?_ _) | (with_reducible refine Kd.C_drewN ?_ _) | (with_reducible refine Kd.C_drew ?_))); (case side2 => exact HC0_2.out); rintro e w21 ⟨v241, rfl, ho0, hb⟩; refine ⟨_, rfl, ?_⟩; have n0_ := Aside0.mk (Kd.R_lower ho0 (below_size (by repeat (first | (with_reducible first | exact HB.out | apply below_alloc | apply pw_below_drewN | apply below_drew1 | refine below_set ?_ GE234.out) | exact HB.out)))); have n1_ := Aside0.mk (blk_below (g := gb234) (o := .cells #[.int .i64 a0_0, .int .i64 a0_1, .slice A0_2 l0_2.length c0_2, .int .i64 a0_3, .bool a0_4, .bool a0_5] 24 (0, 0)) (by (with_reducible repeat (first | refine blk_drewN ?_ _ | refine blk_drew ?_ | refine blk_alloc ?_ _)); exact BK234.out) hb); have n2_ := Aside0.mk (below_step (by repeat (first | (with_reducible first | exact HB.out | apply below_alloc | apply pw_below_drewN | apply below_drew1 | refine below_set ?_ GE234.out) | exact HB.out)) hb); clear BK234; clear HB; have HO242 := n0_; have BK234 := n1_; have HB := n2_; clear n0_ n1_ n2_; (try clear hb); (try clear hb2); (try clear hk); (try clear hi); (try clear ho0)) | ((with_reducible refine gate_dst (N := 7) rfl ?_); refine box_event ?hg (N := 7) ?hd (cs := #[.int .i64 0, .int .i64 0, .slice none 0 0, .int .i64 0, .bool false, .bool false]) (t := 24) ?hr ?_; (case hd => rfl); (case hg => rfl); (case hr => first | (go_simp; done) | (go_simp; rfl)); intro gb246 hg w22 hbox hb; have n0_ := Aside0.mk (Kd.R_below (by (with_reducible repeat (first | apply Kd.R_alloc | apply Kd.R_drewN | apply Kd.R_drew)); exact HO242.out) hb); have n1_ := Aside0.mk (blk_below (g := gb234) (o := .cells #[.int .i64 a0_0, .int .i64 a0_1, .slice A0_2 l0_2.length c0_2, .int .i64 a0_3, .bool a0_4, .bool a0_5] 24 (0, 0)) (by (with_reducible repeat (first | refine blk_drewN ?_ _ | refine blk_drew ?_ | refine blk_alloc ?_ _)); exact BK234.out) hb); have n2_ := Aside0.mk (below_step (by repeat (first | (with_reducible first | exact HB.out | apply below_alloc | apply pw_below_drewN | apply below_drew1 | refine below_set ?_ GE234.out) | exact HB.out)) hb); have n3_ := Aside0.mk (hbox); have n4_ := Aside0.mk ((by rw [hg]; exact (below_size (by repeat (first | (with_reducible first | exact HB.out | apply below_alloc | apply pw_below_drewN | apply below_drew1 | refine below_set ?_ GE234.out) | exact HB.out))) : w.heap.size ≤ gb246)); have n5_ := Aside0.mk ((by rw [hg]; exact (below_size (by repeat (first | (with_reducible first | exact HB.out | apply below_alloc | apply pw_below_drewN | apply below_drew1 | refine below_set ?_ GE234.out) | exact HB.out))) : w.heap.size ≤ gb246)); have n6_ := Aside0.mk ((by rw [hg]; exact Nat.ne_of_lt (blk_lt (g := gb234) (o := .cells #[.int .i64 a0_0, .int .i64 a0_1, .slice A0_2 l0_2.length c0_2, .int .i64 a0_3, .bool a0_4, .bool a0_5] 24 (0, 0)) (by (with_reducible repeat (first | refine blk_drewN ?_ _ | refine blk_drew ?_ | refine blk_alloc ?_ _)); exact BK234.out)) : gb234 ≠ gb246)); have n7_ := Aside0.mk ((by rw [hg]; exact Nat.ne_of_gt (blk_lt (g := gb234) (o := .cells #[.int .i64 a0_0, .int .i64 a0_1, .slice A0_2 l0_2.length c0_2, .int .i64 a0_3, .bool a0_4, .bool a0_5] 24 (0, 0)) (by (with_reducible repeat (first | refine blk_drewN ?_ _ | refine blk_drew ?_ | refine blk_alloc ?_ _)); exact BK234.out)) : gb246 ≠ gb234)); clear HO242; clear BK234; clear HB; have HO242 := n0_; have BK234 := n1_; have HB := n2_; have BK246 := n3_; have GW246 := n4_; have GE246 := n5_; have NB234_246 := n6_; have NB246_234 := n7_; clear n0_ n1_ n2_ n3_ n4_ n5_ n6_ n7_; clear hb hbox hg; have hnb23 := NB246_234.out; have hnc23 := NB234_246.out; have hcz24_0 : w22.cell? ⟨gb246, 0, none⟩ = some (.int .i64 0) := (blk_cell BK246.out 0).trans rfl; have hcz24_1 : w22.cell? ⟨gb246, 1, none⟩ = some (.int .i64 0) := (blk_cell BK246.out 1).trans rfl; have hcz24_2 : w22.cell? ⟨gb246, 2, none⟩ = some (.slice none 0 0) := (blk_cell BK246.out 2).trans rfl; have hcz24_3 : w22.cell? ⟨gb246, 3, none⟩ = some (.int .i64 0) := (blk_cell BK246.out 3).trans rfl; have hcz24_4 : w22.cell? ⟨gb246, 4, none⟩ = some (.bool false) := (blk_cell BK246.out 4).trans rfl; have hcz24_5 : w22.cell? ⟨gb246, 5, none⟩ = some (.bool false) := (blk_cell BK246.out 5).trans rfl; have hfz24_0 := blk_frozen BK246.out 0; have hfz24_1 := blk_frozen BK246.out 1; have hfz24_2 := blk_frozen BK246.out 2; have hfz24_3 := blk_frozen BK246.out 3; have hfz24_4 := blk_frozen BK246.out 4; have hfz24_5 := blk_frozen BK246.out 5; obtain ⟨Ao25, co25, eo25⟩ := Kd.R_slice HO242.out; subst eo25; have hcz26_0 : w22.cell? ⟨gb234, 0, none⟩ = some (.int .i64 a0_0) := (blk_cell BK234.out 0).trans rfl; have hcz26_1 : w22.cell? ⟨gb234, 1, none⟩ = some (.int .i64 a0_1) := (blk_cell BK234.out 1).trans rfl; have hcz26_2 : w22.cell? ⟨gb234, 2, none⟩ = some (.slice A0_2 l0_2.length c0_2) := (blk_cell BK234.out 2).trans rfl; have hcz26_3 : w22.cell? ⟨gb234, 3, none⟩ = some (.int .i64 a0_3) := (blk_cell BK234.out 3).trans rfl; have hcz26_4 : w22.cell? ⟨gb234, 4, none⟩ = some (.bool a0_4) := (blk_cell BK234.out 4).trans rfl; have hcz26_5 : w22.cell? ⟨gb234, 5, none⟩ = some (.bool a0_5) := (blk_cell BK234.out 5).trans rfl; have hfz26_0 := blk_frozen BK234.out 0; have hfz26_1 := blk_frozen BK234.out 1; have hfz26_2 := blk_frozen BK234.out 2; have hfz26_3 := blk_frozen BK234.out 3; have hfz26_4 := blk_frozen BK234.out 4; have hfz26_5 := blk_frozen BK234.out 5) | ((with_reducible refine gate_callee (f := 14) rfl ?_); refine goesL_ (some 33) rfl rfl Try.func14 (by kernel_rfl) rfl #[.agg #[.int .i64 a0_0, .int .i64 a0_1, .slice A0_2 l0_2.length c0_2, .int .i64 a0_3, .bool a0_4, .bool a0_5]] rfl (by (try simp only [List.map_toArray, List.map_cons, List.map_nil]); first | done | rfl | (simp only [List.length_drop, List.length_take]; rfl)) ?_; (with_reducible refine (grid_Copy.calls a0_0 a0_1 _ _ l0_2 a0_3 a0_4 a0_5 t247 t248 t249 t252 t253 t254 _ ?side1 ?side2 A18.out).mono ?_); (case side1 => exact Kd.C_below HR0_2.out (by repeat (first | (with_reducible first | exact HB.out | apply below_alloc | apply pw_below_drewN | apply below_drew1 | refine below_set ?_ GE234.out | refine below_set ?_ GE246.out) | exact HB.out))); (case side2 => exact HC0_2.out); rintro e w27 ⟨v250, rfl, ho0, hb⟩; refine ⟨_, rfl, ?_⟩; have n0_ := Aside0.mk (Kd.R_elder' (by (with_reducible repeat (first | apply Kd.R_alloc | apply Kd.R_drewN | apply Kd.R_drew)); exact (Kd.R_mono (Kd.R_far (p := ⟨gb246, 5, none⟩) (Kd.R_far (p := ⟨gb246, 4, none⟩) (Kd.R_far (p := ⟨gb246, 3, none⟩) (Kd.R_far (p := ⟨gb246, 2, none⟩) (Kd.R_far (p := ⟨gb246, 1, none⟩) (Kd.R_far (p := ⟨gb246, 0, none⟩) (Kd.R_types HO242.out BK246.out (by decide)) (fun _ hk => hk.2) (.int .i64 t238)) (fun _ hk => hk.2) (.int .i64 t239)) (fun _ hk => hk.2) (.slice Ao25 t240.length co25)) (fun _ hk => hk.2) (.int .i64 t243)) (fun _ hk => hk.2) (.bool t244)) (fun _ hk => hk.2) (.bool t245)) (fun _ h_ => h_.1))) (Kd.R_base ho0) hb); have n1_ := Aside0.mk (Kd.R_lower (Kd.R_new' ho0 (Kd.R_lt (by (with_reducible repeat (first | apply Kd.R_alloc | apply Kd.R_drewN | apply Kd.R_drew)); exact (Kd.R_mono (Kd.R_far (p := ⟨gb246, 5, none⟩) (Kd.R_far (p := ⟨gb246, 4, none⟩) (Kd.R_far (p := ⟨gb246, 3, none⟩) (Kd.R_far (p := ⟨gb246, 2, none⟩) (Kd.R_far (p := ⟨gb246, 1, none⟩) (Kd.R_far (p := ⟨gb246, 0, none⟩) (Kd.R_types HO242.out BK246.out (by decide)) (fun _ hk => hk.2) (.int .i64 t238)) (fun _ hk => hk.2) (.int .i64 t239)) (fun _ hk => hk.2) (.slice Ao25 t240.length co25)) (fun _ hk => hk.2) (.int .i64 t243)) (fun _ hk => hk.2) (.bool t244)) (fun _ hk => hk.2) (.bool t245)) (fun _ h_ => h_.1))))) (below_size (by repeat (first | (with_reducible first | exact HB.out | apply below_alloc | apply pw_below_drewN | apply below_drew1 | refine below_set ?_ GE234.out | refine below_set ?_ GE246.out) | exact HB.out)))); have n2_ := Aside0.mk (blk_below (g := gb234) (o := .cells #[.int .i64 a0_0, .int .i64 a0_1, .slice A0_2 l0_2.length c0_2, .int .i64 a0_3, .bool a0_4, .bool a0_5] 24 (0, 0)) (by (with_reducible repeat (first | refine blk_drewN ?_ _ | refine blk_drew ?_ | refine blk_alloc ?_ _)); refine blk_far ?_ NB234_246.out _; (with_reducible repeat (first | refine blk_drewN ?_ _ | refine blk_drew ?_ | refine blk_alloc ?_ _)); refine blk_far ?_ NB234_246.out _; (with_reducible repeat (first | refine blk_drewN ?_ _ | refine blk_drew ?_ | refine blk_alloc ?_ _)); refine blk_far ?_ NB234_246.out _; (with_reducible repeat (first | refine blk_drewN ?_ _ | refine blk_drew ?_ | refine blk_alloc ?_ _)); refine blk_far ?_ NB234_246.out _; (with_reducible repeat (first | refine blk_drewN ?_ _ | refine blk_drew ?_ | refine blk_alloc ?_ _)); refine blk_far ?_ NB234_246.out _; (with_reducible repeat (first | refine blk_drewN ?_ _ | refine blk_drew ?_ | refine blk_alloc ?_ _)); refine blk_far ?_ NB234_246.out _; (with_reducible repeat (first | refine blk_drewN ?_ _ | refine blk_drew ?_ | refine blk_alloc ?_ _)); exact BK234.out) hb); have n3_ := Aside0.mk (blk_below (g := gb246) (o := .cells #[.int .i64 t238, .int .i64 t239, .slice Ao25 t240.length co25, .int .i64 t243, .bool t244, .bool t245] 24 (0, 0)) (by (with_reducible repeat (first | refine blk_drewN ?_ _ | refine blk_drew ?_ | refine blk_alloc ?_ _)); refine blk_put (cs := #[.int .i64 t238, .int .i64 t239, .slice Ao25 t240.length co25, .int .i64 t243, .bool t244, .bool false]) ?_ 5 _ rfl; (with_reducible repeat (first | refine blk_drewN ?_ _ | refine blk_drew ?_ | refine blk_alloc ?_ _)); refine blk_put (cs := #[.int .i64 t238, .int .i64 t239, .slice Ao25 t240.length co25, .int .i64 t243, .bool false, .bool false]) ?_ 4 _ rfl; (with_reducible repeat (first | refine blk_drewN ?_ _ | refine blk_drew ?_ | refine blk_alloc ?_ _)); refine blk_put (cs := #[.int .i64 t238, .int .i64 t239, .slice Ao25 t240.length co25, .int .i64 0, .bool false, .bool false]) ?_ 3 _ rfl; (with_reducible repeat (first | refine blk_drewN ?_ _ | refine blk_drew ?_ | refine blk_alloc ?_ _)); refine blk_put (cs := #[.int .i64 t238, .int .i64 t239, .slice none 0 0, .int .i64 0, .bool false, .bool false]) ?_ 2 _ rfl; (with_reducible repeat (first | refine blk_drewN ?_ _ | refine blk_drew ?_ | refine blk_alloc ?_ _)); refine blk_put (cs := #[.int .i64 t238, .int .i64 0, .slice none 0 0, .int .i64 0, .bool false, .bool false]) ?_ 1 _ rfl; (with_reducible repeat (first | refine blk_drewN ?_ _ | refine blk_drew ?_ | refine blk_alloc ?_ _)); refine blk_put (cs := #[.int .i64 0, .int .i64 0, .slice none 0 0, .int .i64 0, .bool false, .bool false]) ?_ 0 _ rfl; (with_reducible repeat (first | refine blk_drewN ?_ _ | refine blk_drew ?_ | refine blk_alloc ?_ _)); exact BK246.out) hb); have n4_ := Aside0.mk (below_step (by repeat (first | (with_reducible first | exact HB.out | apply below_alloc | apply pw_below_drewN | apply below_drew1 | refine below_set ?_ GE234.out | refine below_set ?_ GE246.out) | exact HB.out)) hb); clear HO242; clear BK234; clear BK246; clear HB; have HO242 := n0_; have HO251 := n1_; have BK234 := n2_; have BK246 := n3_; have HB := n4_; clear n0_ n1_ n2_ n3_ n4_; (try clear hb); (try clear hb2); (try clear hk); (try clear hi); (try clear ho0)) | ((with_reducible refine gate_dst (N := 9) rfl ?_); refine box_event ?hg (N := 9) ?hd (cs := #[.int .i64 0, .int .i64 0, .slice none 0 0, .int .i64 0, .bool false, .bool false]) (t := 24) ?hr ?_; (case hd => rfl); (case hg => rfl); (case hr => first | (go_simp; done) | (go_simp; rfl)); intro gb255 hg w28 hbox hb; have n0_ := Aside0.mk (Kd.R_below (by (with_reducible repeat (first | apply Kd.R_alloc | apply Kd.R_drewN | apply Kd.R_drew)); exact HO242.out) hb); have n1_ := Aside0.mk (Kd.R_below (by (with_reducible repeat (first | apply Kd.R_alloc | apply Kd.R_drewN | apply Kd.R_drew)); exact HO251.out) hb); have n2_ := Aside0.mk (blk_below (g := gb234) (o := .cells #[.int .i64 a0_0, .int .i64 a0_1, .slice A0_2 l0_2.length c0_2, .int .i64 a0_3, .bool a0_4, .bool a0_5] 24 (0, 0)) (by (with_reducible repeat (first | refine blk_drewN ?_ _ | refine blk_drew ?_ | refine blk_alloc ?_ _)); exact BK234.out) hb); have n3_ := Aside0.mk (blk_below (g := gb246) (o := .cells #[.int .i64 t238, .int .i64 t239, .slice Ao25 t240.length co25, .int .i64 t243, .bool t244, .bool t245] 24 (0, 0)) (by (with_reducible repeat (first | refine blk_drewN ?_ _ | refine blk_drew ?_ | refine blk_alloc ?_ _)); exact BK246.out) hb); have n4_ := Aside0.mk (below_step (by repeat (first | (with_reducible first | exact HB.out | apply below_alloc | apply pw_below_drewN | apply below_drew1 | refine below_set ?_ GE234.out | refine below_set ?_ GE246.out) | exact HB.out)) hb); have n5_ := Aside0.mk (hbox); have n6_ := Aside0.mk ((by rw [hg]; exact (below_size (by repeat (first | (with_reducible first | exact HB.out | apply below_alloc | apply pw_below_drewN | apply below_drew1 | refine below_set ?_ GE234.out | refine below_set ?_ GE246.out) | exact HB.out))) : w.heap.size ≤ gb255)); have n7_ := Aside0.mk ((by rw [hg]; exact (below_size (by repeat (first | (with_reducible first | exact HB.out | apply below_alloc | apply pw_below_drewN | apply below_drew1 | refine below_set ?_ GE234.out | refine below_set ?_ GE246.out) | exact HB.out))) : w.heap.size ≤ gb255)); have n8_ := Aside0.mk ((by rw [hg]; exact Nat.ne_of_lt (blk_lt (g := gb234) (o := .cells #[.int .i64 a0_0, .int .i64 a0_1, .slice A0_2 l0_2.length c0_2, .int .i64 a0_3, .bool a0_4, .bool a0_5] 24 (0, 0)) (by (with_reducible repeat (first | refine blk_drewN ?_ _ | refine blk_drew ?_ | refine blk_alloc ?_ _)); exact BK234.out)) : gb234 ≠ gb255)); have n9_ := Aside0.mk ((by rw [hg]; exact Nat.ne_of_gt (blk_lt (g := gb234) (o := .cells #[.int .i64 a0_0, .int .i64 a0_1, .slice A0_2 l0_2.length c0_2, .int .i64 a0_3, .bool a0_4, .bool a0_5] 24 (0, 0)) (by (with_reducible repeat (first | refine blk_drewN ?_ _ | refine blk_drew ?_ | refine blk_alloc ?_ _)); exact BK234.out)) : gb255 ≠ gb234)); have n10_ := Aside0.mk ((by rw [hg]; exact Nat.ne_of_lt (blk_lt (g := gb246) (o := .cells #[.int .i64 t238, .int .i64 t239, .slice Ao25 t240.length co25, .int .i64 t243, .bool t244, .bool t245] 24 (0, 0)) (by (with_reducible repeat (first | refine blk_drewN ?_ _ | refine blk_drew ?_ | refine blk_alloc ?_ _)); exact BK246.out)) : gb246 ≠ gb255)); have n11_ := Aside0.mk ((by rw [hg]; exact Nat.ne_of_gt (blk_lt (g := gb246) (o := .cells #[.int .i64 t238, .int .i64 t239, .slice Ao25 t240.length co25, .int .i64 t243, .bool t244, .bool t245] 24 (0, 0)) (by (with_reducible repeat (first | refine blk_drewN ?_ _ | refine blk_drew ?_ | refine blk_alloc ?_ _)); exact BK246.out)) : gb255 ≠ gb246)); clear HO242; clear HO251; clear BK234; clear BK246; clear HB; have HO242 := n0_; have HO251 := n1_; have BK234 := n2_; have BK246 := n3_; have HB := n4_; have BK255 := n5_; have GW255 := n6_; have GE255 := n7_; have NB234_255 := n8_; have NB255_234 := n9_; have NB246_255 := n10_; have NB255_246 := n11_; clear n0_ n1_ n2_ n3_ n4_ n5_ n6_ n7_ n8_ n9_ n10_ n11_; clear hb hbox hg; have hnb29 := NB255_234.out; have hnc29 := NB234_255.out; have hnb30 := NB255_246.out; have hnc30 := NB246_255.out; have hcz31_0 : w28.cell? ⟨gb255, 0, none⟩ = some (.int .i64 0) := (blk_cell BK255.out 0).trans rfl; have hcz31_1 : w28.cell? ⟨gb255, 1, none⟩ = some (.int .i64 0) := (blk_cell BK255.out 1).trans rfl; have hcz31_2 : w28.cell? ⟨gb255, 2, none⟩ = some (.slice none 0 0) := (blk_cell BK255.out 2).trans rfl; have hcz31_3 : w28.cell? ⟨gb255, 3, none⟩ = some (.int .i64 0) := (blk_cell BK255.out 3).trans rfl; have hcz31_4 : w28.cell? ⟨gb255, 4, none⟩ = some (.bool false) := (blk_cell BK255.out 4).trans rfl; have hcz31_5 : w28.cell? ⟨gb255, 5, none⟩ = some (.bool false) := (blk_cell BK255.out 5).trans rfl; have hfz31_0 := blk_frozen BK255.out 0; have hfz31_1 := blk_frozen BK255.out 1; have hfz31_2 := blk_frozen BK255.out 2; have hfz31_3 := blk_frozen BK255.out 3; have hfz31_4 := blk_frozen BK255.out 4; have hfz31_5 := blk_frozen BK255.out 5; obtain ⟨Ao32, co32, eo32⟩ := Kd.R_slice HO251.out; subst eo32; have hcz33_0 : w28.cell? ⟨gb234, 0, none⟩ = some (.int .i64 a0_0) := (blk_cell BK234.out 0).trans rfl; have hcz33_1 : w28.cell? ⟨gb234, 1, none⟩ = some (.int .i64 a0_1) := (blk_cell BK234.out 1).trans rfl; have hcz33_2 : w28.cell? ⟨gb234, 2, none⟩ = some (.slice A0_2 l0_2.length c0_2) := (blk_cell BK234.out 2).trans rfl; have hcz33_3 : w28.cell? ⟨gb234, 3, none⟩ = some (.int .i64 a0_3) := (blk_cell BK234.out 3).trans rfl; have hcz33_4 : w28.cell? ⟨gb234, 4, none⟩ = some (.bool a0_4) := (blk_cell BK234.out 4).trans rfl; have hcz33_5 : w28.cell? ⟨gb234, 5, none⟩ = some (.bool a0_5) := (blk_cell BK234.out 5).trans rfl; have hfz33_0 := blk_frozen BK234.out 0; have hfz33_1 := blk_frozen BK234.out 1; have hfz33_2 := blk_frozen BK234.out 2; have hfz33_3 := blk_frozen BK234.out 3; have hfz33_4 := blk_frozen BK234.out 4; have hfz33_5 := blk_frozen BK234.out 5) | ((with_reducible refine gate_callee (f := 15) rfl ?_); refine goesL_ (some 38) rfl rfl Try.func15 (by kernel_rfl) rfl #[.agg #[.int .i64 a0_0, .int .i64 a0_1, .slice A0_2 l0_2.length c0_2, .int .i64 a0_3, .bool a0_4, .bool a0_5], .int .i64 (Int.tmod (wrap64 (a1)) (l0_2.length : Int)), .agg #[.bool false, .bool false, .bool false, .int .i64 0, .bool false, .int .u8 193]] rfl (by (try simp only [List.map_toArray, List.map_cons, List.map_nil]); first | done | rfl | (simp only [List.length_drop, List.length_take]; rfl)) ?_; (with_reducible refine (grid_Put.calls kj3 a0_0 a0_1 _ _ l0_2 a0_3 a0_4 a0_5 (Int.tmod (wrap64 (a1)) (l0_2.length : Int)) false false false 0 false 193 t256 t257 t258 t261 t262 t263 t264 _ ?side1 ?side2 A19.out).mono ?_); (case side1 => exact Kd.C_below HR0_2.out (by repeat (first | (with_reducible first | exact HB.out | apply below_alloc | apply pw_below_drewN | apply below_drew1 | refine below_set ?_ GE234.out | refine below_set ?_ GE246.out | refine below_set ?_ GE255.out) | exact HB.out))); (case side2 => exact HC0_2.out); rintro e w34 ⟨v259, rfl, ho0, hb⟩; refine ⟨_, rfl, ?_⟩; have n0_ := Aside0.mk (Kd.R_elder' (by (with_reducible repeat (first | apply Kd.R_alloc | apply Kd.R_drewN | apply Kd.R_drew)); exact (Kd.R_mono (Kd.R_far (p := ⟨gb255, 5, none⟩) (Kd.R_far (p := ⟨gb255, 4, none⟩) (Kd.R_far (p := ⟨gb255, 3, none⟩) (Kd.R_far (p := ⟨gb255, 2, none⟩) (Kd.R_far (p := ⟨gb255, 1, none⟩) (Kd.R_far (p := ⟨gb255, 0, none⟩) (Kd.R_types HO242.out BK255.out (by decide)) (fun _ hk => hk.2) (.int .i64 t247)) (fun _ hk => hk.2) (.int .i64 t248)) (fun _ hk => hk.2) (.slice Ao32 t249.length co32)) (fun _ hk => hk.2) (.int .i64 t252)) (fun _ hk => hk.2) (.bool t253)) (fun _ hk => hk.2) (.bool t254)) (fun _ h_ => h_.1))) (Kd.R_base ho0) hb); have n1_ := Aside0.mk (Kd.R_elder' (by (with_reducible repeat (first | apply Kd.R_alloc | apply Kd.R_drewN | apply Kd.R_drew)); exact (Kd.R_mono (Kd.R_far (p := ⟨gb255, 5, none⟩) (Kd.R_far (p := ⟨gb255, 4, none⟩) (Kd.R_far (p := ⟨gb255, 3, none⟩) (Kd.R_far (p := ⟨gb255, 2, none⟩) (Kd.R_far (p := ⟨gb255, 1, none⟩) (Kd.R_far (p := ⟨gb255, 0, none⟩) (Kd.R_types HO251.out BK255.out (by decide)) (fun _ hk => hk.2) (.int .i64 t247)) (fun _ hk => hk.2) (.int .i64 t248)) (fun _ hk => hk.2) (.slice Ao32 t249.length co32)) (fun _ hk => hk.2) (.int .i64 t252)) (fun _ hk => hk.2) (.bool t253)) (fun _ hk => hk.2) (.bool t254)) (fun _ h_ => h_.1))) (Kd.R_base ho0) hb); have n2_ := Aside0.mk (Kd.R_lower (Kd.R_new' (Kd.R_new' ho0 (Kd.R_lt (by (with_reducible repeat (first | apply Kd.R_alloc | apply Kd.R_drewN | apply Kd.R_drew)); exact (Kd.R_mono (Kd.R_far (p := ⟨gb255, 5, none⟩) (Kd.R_far (p := ⟨gb255, 4, none⟩) (Kd.R_far (p := ⟨gb255, 3, none⟩) (Kd.R_far (p := ⟨gb255, 2, none⟩) (Kd.R_far (p := ⟨gb255, 1, none⟩) (Kd.R_far (p := ⟨gb255, 0, none⟩) (Kd.R_types HO242.out BK255.out (by decide)) (fun _ hk => hk.2) (.int .i64 t247)) (fun _ hk => hk.2) (.int .i64 t248)) (fun _ hk => hk.2) (.slice Ao32 t249.length co32)) (fun _ hk => hk.2) (.int .i64 t252)) (fun _ hk => hk.2) (.bool t253)) (fun _ hk => hk.2) (.bool t254)) (fun _ h_ => h_.1))))) (Kd.R_lt (by (with_reducible repeat (first | apply Kd.R_alloc | apply Kd.R_drewN | apply Kd.R_drew)); exact (Kd.R_mono (Kd.R_far (p := ⟨gb255, 5, none⟩) (Kd.R_far (p := ⟨gb255, 4, none⟩) (Kd.R_far (p := ⟨gb255, 3, none⟩) (Kd.R_far (p := ⟨gb255, 2, none⟩) (Kd.R_far (p := ⟨gb255, 1, none⟩) (Kd.R_far (p := ⟨gb255, 0, none⟩) (Kd.R_types HO251.out BK255.out (by decide)) (fun _ hk => hk.2) (.int .i64 t247)) (fun _ hk => hk.2) (.int .i64 t248)) (fun _ hk => hk.2) (.slice Ao32 t249.length co32)) (fun _ hk => hk.2) (.int .i64 t252)) (fun _ hk => hk.2) (.bool t253)) (fun _ hk => hk.2) (.bool t254)) (fun _ h_ => h_.1))))) (below_size (by repeat (first | (with_reducible first | exact HB.out | apply below_alloc | apply pw_below_drewN | apply below_drew1 | refine below_set ?_ GE234.out | refine below_set ?_ GE246.out | refine below_set ?_ GE255.out) | exact HB.out)))); have n3_ := Aside0.mk (blk_below (g := gb234) (o := .cells #[.int .i64 a0_0, .int .i64 a0_1, .slice A0_2 l0_2.length c0_2, .int .i64 a0_3, .bool a0_4, .bool a0_5] 24 (0, 0)) (by (with_reducible repeat (first | refine blk_drewN ?_ _ | refine blk_drew ?_ | refine blk_alloc ?_ _)); refine blk_far ?_ NB234_255.out _; (with_reducible repeat (first | refine blk_drewN ?_ _ | refine blk_drew ?_ | refine blk_alloc ?_ _)); refine blk_far ?_ NB234_255.out _; (with_reducible repeat (first | refine blk_drewN ?_ _ | refine blk_drew ?_ | refine blk_alloc ?_ _)); refine blk_far ?_ NB234_255.out _; (with_reducible repeat (first | refine blk_drewN ?_ _ | refine blk_drew ?_ | refine blk_alloc ?_ _)); refine blk_far ?_ NB234_255.out _; (with_reducible repeat (first | refine blk_drewN ?_ _ | refine blk_drew ?_ | refine blk_alloc ?_ _)); refine blk_far ?_ NB234_255.out _; (with_reducible repeat (first | refine blk_drewN ?_ _ | refine blk_drew ?_ | refine blk_alloc ?_ _)); refine blk_far ?_ NB234_255.out _; (with_reducible repeat (first | refine blk_drewN ?_ _ | refine blk_drew ?_ | refine blk_alloc ?_ _)); exact BK234.out) hb); have n4_ := Aside0.mk (blk_below (g := gb246) (o := .cells #[.int .i64 t238, .int .i64 t239, .slice Ao25 t240.length co25, .int .i64 t243, .bool t244, .bool t245] 24 (0, 0)) (by (with_reducible repeat (first | refine blk_drewN ?_ _ | refine blk_drew ?_ | refine blk_alloc ?_ _)); refine blk_far ?_ NB246_255.out _; (with_reducible repeat (first | refine blk_drewN ?_ _ | refine blk_drew ?_ | refine blk_alloc ?_ _)); refine blk_far ?_ NB246_255.out _; (with_reducible repeat (first | refine blk_drewN ?_ _ | refine blk_drew ?_ | refine blk_alloc ?_ _)); refine blk_far ?_ NB246_255.out _; (with_reducible repeat (first | refine blk_drewN ?_ _ | refine blk_drew ?_ | refine blk_alloc ?_ _)); refine blk_far ?_ NB246_255.out _; (with_reducible repeat (first | refine blk_drewN ?_ _ | refine blk_drew ?_ | refine blk_alloc ?_ _)); refine blk_far ?_ NB246_255.out _; (with_reducible repeat (first | refine blk_drewN ?_ _ | refine blk_drew ?_ | refine blk_alloc ?_ _)); refine blk_far ?_ NB246_255.out _; (with_reducible repeat (first | refine blk_drewN ?_ _ | refine blk_drew ?_ | refine blk_alloc ?_ _)); exact BK246.out) hb); have n5_ := Aside0.mk (blk_below (g := gb255) (o := .cells #[.int .i64 t247, .int .i64 t248, .slice Ao32 t249.length co32, .int .i64 t252, .bool t253, .bool t254] 24 (0, 0)) (by (with_reducible repeat (first | refine blk_drewN ?_ _ | refine blk_drew ?_ | refine blk_alloc ?_ _)); refine blk_put (cs := #[.int .i64 t247, .int .i64 t248, .slice Ao32 t249.length co32, .int .i64 t252, .bool t253, .bool false]) ?_ 5 _ rfl; (with_reducible repeat (first | refine blk_drewN ?_ _ | refine blk_drew ?_ | refine blk_alloc ?_ _)); refine blk_put (cs := #[.int .i64 t247, .int .i64 t248, .slice Ao32 t249.length co32, .int .i64 t252, .bool false, .bool false]) ?_ 4 _ rfl; (with_reducible repeat (first | refine blk_drewN ?_ _ | refine blk_drew ?_ | refine blk_alloc ?_ _)); refine blk_put (cs := #[.int .i64 t247, .int .i64 t248, .slice Ao32 t249.length co32, .int .i64 0, .bool false, .bool false]) ?_ 3 _ rfl; (with_reducible repeat (first | refine blk_drewN ?_ _ | refine blk_drew ?_ | refine blk_alloc ?_ _)); refine blk_put (cs := #[.int .i64 t247, .int .i64 t248, .slice none 0 0, .int .i64 0, .bool false, .bool false]) ?_ 2 _ rfl; (with_reducible repeat (first | refine blk_drewN ?_ _ | refine blk_drew ?_ | refine blk_alloc ?_ _)); refine blk_put (cs := #[.int .i64 t247, .int .i64 0, .slice none 0 0, .int .i64 0, .bool false, .bool false]) ?_ 1 _ rfl; (with_reducible repeat (first | refine blk_drewN ?_ _ | refine blk_drew ?_ | refine blk_alloc ?_ _)); refine blk_put (cs := #[.int .i64 0, .int .i64 0, .slice none 0 0, .int .i64 0, .bool false, .bool false]) ?_ 0 _ rfl; (with_reducible repeat (first | refine blk_drewN ?_ _ | refine blk_drew ?_ | refine blk_alloc ?_ _)); exact BK255.out) hb); have n6_ := Aside0.mk (below_step (by repeat (first | (with_reducible first | exact HB.out | apply below_alloc | apply pw_below_drewN | apply below_drew1 | refine below_set ?_ GE234.out | refine below_set ?_ GE246.out | refine below_set ?_ GE255.out) | exact HB.out)) hb); clear HO242; clear HO251; clear BK234; clear BK246; clear BK255; clear HB; have HO242 := n0_; have HO251 := n1_; have HO260 := n2_; have BK234 := n3_; have BK246 := n4_; have BK255 := n5_; have HB := n6_; clear n0_ n1_ n2_ n3_ n4_ n5_ n6_; (try clear hb); (try clear hb2); (try clear hk); (try clear hi); (try clear ho0); (try simp only [errW_none, errW_some])) | ((with_reducible refine gate_dst (N := 10) rfl ?_); refine box_event ?hg (N := 10) ?hd (cs := #[.int .i64 0, .int .i64 0, .slice none 0 0, .int .i64 0, .bool false, .bool false]) (t := 24) ?hr ?_; (case hd => rfl); (case hg => rfl); (case hr => first | (go_simp; done) | (go_simp; rfl)); intro gb265 hg w35 hbox hb; have n0_ := Aside0.mk (Kd.R_below (by (with_reducible repeat (first | apply Kd.R_alloc | apply Kd.R_drewN | apply Kd.R_drew)); exact HO242.out) hb); have n1_ := Aside0.mk (Kd.R_below (by (with_reducible repeat (first | apply Kd.R_alloc | apply Kd.R_drewN | apply Kd.R_drew)); exact HO251.out) hb); have n2_ := Aside0.mk (Kd.R_below (by (with_reducible repeat (first | apply Kd.R_alloc | apply Kd.R_drewN | apply Kd.R_drew)); exact HO260.out) hb); have n3_ := Aside0.mk (blk_below (g := gb234) (o := .cells #[.int .i64 a0_0, .int .i64 a0_1, .slice A0_2 l0_2.length c0_2, .int .i64 a0_3, .bool a0_4, .bool a0_5] 24 (0, 0)) (by (with_reducible repeat (first | refine blk_drewN ?_ _ | refine blk_drew ?_ | refine blk_alloc ?_ _)); exact BK234.out) hb); have n4_ := Aside0.mk (blk_below (g := gb246) (o := .cells #[.int .i64 t238, .int .i64 t239, .slice Ao25 t240.length co25, .int .i64 t243, .bool t244, .bool t245] 24 (0, 0)) (by (with_reducible repeat (first | refine blk_drewN ?_ _ | refine blk_drew ?_ | refine blk_alloc ?_ _)); exact BK246.out) hb); have n5_ := Aside0.mk (blk_below (g := gb255) (o := .cells #[.int .i64 t247, .int .i64 t248, .slice Ao32 t249.length co32, .int .i64 t252, .bool t253, .bool t254] 24 (0, 0)) (by (with_reducible repeat (first | refine blk_drewN ?_ _ | refine blk_drew ?_ | refine blk_alloc ?_ _)); exact BK255.out) hb); have n6_ := Aside0.mk (below_step (by repeat (first | (with_reducible first | exact HB.out | apply below_alloc | apply pw_below_drewN | apply below_drew1 | refine below_set ?_ GE234.out | refine below_set ?_ GE246.out | refine below_set ?_ GE255.out) | exact HB.out)) hb); have n7_ := Aside0.mk (hbox); have n8_ := Aside0.mk ((by rw [hg]; exact (below_size (by repeat (first | (with_reducible first | exact HB.out | apply below_alloc | apply pw_below_drewN | apply below_drew1 | refine below_set ?_ GE234.out | refine below_set ?_ GE246.out | refine below_set ?_ GE255.out) | exact HB.out))) : w.heap.size ≤ gb265)); have n9_ := Aside0.mk ((by rw [hg]; exact (below_size (by repeat (first | (with_reducible first | exact HB.out | apply below_alloc | apply pw_below_drewN | apply below_drew1 | refine below_set ?_ GE234.out | refine below_set ?_ GE246.out | refine below_set ?_ GE255.out) | exact HB.out))) : w.heap.size ≤ gb265)); have n10_ := Aside0.mk ((by rw [hg]; exact Nat.ne_of_lt (blk_lt (g := gb234) (o := .cells #[.int .i64 a0_0, .int .i64 a0_1, .slice A0_2 l0_2.length c0_2, .int .i64 a0_3, .bool a0_4, .bool a0_5] 24 (0, 0)) (by (with_reducible repeat (first | refine blk_drewN ?_ _ | refine blk_drew ?_ | refine blk_alloc ?_ _)); exact BK234.out)) : gb234 ≠ gb265)); have n11_ := Aside0.mk ((by rw [hg]; exact Nat.ne_of_gt (blk_lt (g := gb234) (o := .cells #[.int .i64 a0_0, .int .i64 a0_1, .slice A0_2 l0_2.length c0_2, .int .i64 a0_3, .bool a0_4, .bool a0_5] 24 (0, 0)) (by (with_reducible repeat (first | refine blk_drewN ?_ _ | refine blk_drew ?_ | refine blk_alloc ?_ _)); exact BK234.out)) : gb265 ≠ gb234)); have n12_ := Aside0.mk ((by rw [hg]; exact Nat.ne_of_lt (blk_lt (g := gb246) (o := .cells #[.int .i64 t238, .int .i64 t239, .slice Ao25 t240.length co25, .int .i64 t243, .bool t244, .bool t245] 24 (0, 0)) (by (with_reducible repeat (first | refine blk_drewN ?_ _ | refine blk_drew ?_ | refine blk_alloc ?_ _)); exact BK246.out)) : gb246 ≠ gb265)); have n13_ := Aside0.mk ((by rw [hg]; exact Nat.ne_of_gt (blk_lt (g := gb246) (o := .cells #[.int .i64 t238, .int .i64 t239, .slice Ao25 t240.length co25, .int .i64 t243, .bool t244, .bool t245] 24 (0, 0)) (by (with_reducible repeat (first | refine blk_drewN ?_ _ | refine blk_drew ?_ | refine blk_alloc ?_ _)); exact BK246.out)) : gb265 ≠ gb246)); have n14_ := Aside0.mk ((by rw [hg]; exact Nat.ne_of_lt (blk_lt (g := gb255) (o := .cells #[.int .i64 t247, .int .i64 t248, .slice Ao32 t249.length co32, .int .i64 t252, .bool t253, .bool t254] 24 (0, 0)) (by (with_reducible repeat (first | refine blk_drewN ?_ _ | refine blk_drew ?_ | refine blk_alloc ?_ _)); exact BK255.out)) : gb255 ≠ gb265)); have n15_ := Aside0.mk ((by rw [hg]; exact Nat.ne_of_gt (blk_lt (g := gb255) (o := .cells #[.int .i64 t247, .int .i64 t248, .slice Ao32 t249.length co32, .int .i64 t252, .bool t253, .bool t254] 24 (0, 0)) (by (with_reducible repeat (first | refine blk_drewN ?_ _ | refine blk_drew ?_ | refine blk_alloc ?_ _)); exact BK255.out)) : gb265 ≠ gb255)); clear HO242; clear HO251; clear HO260; clear BK234; clear BK246; clear BK255; clear HB; have HO242 := n0_; have HO251 := n1_; have HO260 := n2_; have BK234 := n3_; have BK246 := n4_; have BK255 := n5_; have HB := n6_; have BK265 := n7_; have GW265 := n8_; have GE265 := n9_; have NB234_265 := n10_; have NB265_234 := n11_; have NB246_265 := n12_; have NB265_246 := n13_; have NB255_265 := n14_; have NB265_255 := n15_; clear n0_ n1_ n2_ n3_ n4_ n5_ n6_ n7_ n8_ n9_ n10_ n11_ n12_ n13_ n14_ n15_; clear hb hbox hg; have hnb36 := NB265_234.out; have hnc36 := NB234_265.out; have hnb37 := NB265_246.out; have hnc37 := NB246_265.out; have hnb38 := NB265_255.out; have hnc38 := NB255_265.out; have hcz39_0 : w35.cell? ⟨gb265, 0, none⟩ = some (.int .i64 0) := (blk_cell BK265.out 0).trans rfl; have hcz39_1 : w35.cell? ⟨gb265, 1, none⟩ = some (.int .i64 0) := (blk_cell BK265.out 1).trans rfl; have hcz39_2 : w35.cell? ⟨gb265, 2, none⟩ = some (.slice none 0 0) := (blk_cell BK265.out 2).trans rfl; have hcz39_3 : w35.cell? ⟨gb265, 3, none⟩ = some (.int .i64 0) := (blk_cell BK265.out 3).trans rfl; have hcz39_4 : w35.cell? ⟨gb265, 4, none⟩ = some (.bool false) := (blk_cell BK265.out 4).trans rfl; have hcz39_5 : w35.cell? ⟨gb265, 5, none⟩ = some (.bool false) := (blk_cell BK265.out 5).trans rfl; have hfz39_0 := blk_frozen BK265.out 0; have hfz39_1 := blk_frozen BK265.out 1; have hfz39_2 := blk_frozen BK265.out 2; have hfz39_3 := blk_frozen BK265.out 3; have hfz39_4 := blk_frozen BK265.out 4; have hfz39_5 := blk_frozen BK265.out 5; obtain ⟨Ao40, co40, eo40⟩ := Kd.R_slice HO260.out; subst eo40))
          (try simp only [add_plain])
          go_loopg [12] kj3 (fun kq v12 w' => ∃ (x12_2 : Int) (x247002_2 : List (S44)) (x256002_2 : List (S44)) (x266002_2 : List (S44)) (u247002 : Value) (u256002 : Value) (u266002 : Value), v12 = .int .i64 x12_2 ∧ Aside0 (shutterlaw10_GridKeeps.l0 kq a2 (Int.tmod (wrap64 (a1)) (l0_2.length : Int)) x12_2 a0_0 a0_1 l0_2 a0_3 a0_4 a0_5 t238 t239 x247002_2 t243 t244 t245 t247 t248 x256002_2 t252 t253 t254 t256 t257 x266002_2 t261 t262 t263 = some r) ∧ Aside0 (kq ≤ kj3) ∧ Aside0 (Kd.R k44 44 w' w.heap.size (fun k_ => some k_ ≠ (u256002 : Value).ownBlock ∧ some k_ ≠ (u266002 : Value).ownBlock) u247002 x247002_2) ∧ Aside0 (Kd.R k44 44 w' w.heap.size (fun k_ => some k_ ≠ (u247002 : Value).ownBlock ∧ some k_ ≠ (u266002 : Value).ownBlock) u256002 x256002_2) ∧ Aside0 (Kd.R k44 44 w' w.heap.size (fun k_ => some k_ ≠ (u247002 : Value).ownBlock ∧ some k_ ≠ (u256002 : Value).ownBlock) u266002 x266002_2) ∧ Aside0 (w'.heap[gb234]? = some (.cells #[.int .i64 a0_0, .int .i64 a0_1, (.slice A0_2 l0_2.length c0_2), .int .i64 a0_3, .bool a0_4, .bool a0_5] 24 (0, 0))) ∧ Aside0 (w'.heap[gb246]? = some (.cells #[.int .i64 t238, .int .i64 t239, u247002, .int .i64 t243, .bool t244, .bool t245] 24 (0, 0))) ∧ Aside0 (w'.heap[gb255]? = some (.cells #[.int .i64 t247, .int .i64 t248, u256002, .int .i64 t252, .bool t253, .bool t254] 24 (0, 0))) ∧ Aside0 (w'.heap[gb265]? = some (.cells #[.int .i64 t256, .int .i64 t257, u266002, .int .i64 t261, .bool t262, .bool t263] 24 (0, 0))) ∧ Aside0 (Below w.heap.size w w'))
          case atStart => exact ⟨(0), (t240), (t249), (t258), (.slice Ao25 t240.length co25), (.slice Ao32 t249.length co32), (.slice Ao40 t258.length co40), (by first | rfl | (simp; done) | (simp [*]; done)), H', ⟨Nat.le_refl _⟩, ⟨by (with_reducible repeat (first | apply Kd.R_alloc | apply Kd.R_drewN | apply Kd.R_drew)); exact Kd.R_mono (Kd.R_far (p := ⟨gb265, 5, none⟩) (Kd.R_far (p := ⟨gb265, 4, none⟩) (Kd.R_far (p := ⟨gb265, 3, none⟩) (Kd.R_far (p := ⟨gb265, 2, none⟩) (Kd.R_far (p := ⟨gb265, 1, none⟩) (Kd.R_far (p := ⟨gb265, 0, none⟩) (Kd.R_types HO242.out BK265.out (by decide)) (fun _ hk => hk.2) (.int .i64 t256)) (fun _ hk => hk.2) (.int .i64 t257)) (fun _ hk => hk.2) (.slice Ao40 t258.length co40)) (fun _ hk => hk.2) (.int .i64 t261)) (fun _ hk => hk.2) (.bool t262)) (fun _ hk => hk.2) (.bool t263)) (fun _ hk => ⟨hk.1.1.2, hk.1.2⟩)⟩, ⟨by (with_reducible repeat (first | apply Kd.R_alloc | apply Kd.R_drewN | apply Kd.R_drew)); exact Kd.R_mono (Kd.R_far (p := ⟨gb265, 5, none⟩) (Kd.R_far (p := ⟨gb265, 4, none⟩) (Kd.R_far (p := ⟨gb265, 3, none⟩) (Kd.R_far (p := ⟨gb265, 2, none⟩) (Kd.R_far (p := ⟨gb265, 1, none⟩) (Kd.R_far (p := ⟨gb265, 0, none⟩) (Kd.R_types HO251.out BK265.out (by decide)) (fun _ hk => hk.2) (.int .i64 t256)) (fun _ hk => hk.2) (.int .i64 t257)) (fun _ hk => hk.2) (.slice Ao40 t258.length co40)) (fun _ hk => hk.2) (.int .i64 t261)) (fun _ hk => hk.2) (.bool t262)) (fun _ hk => hk.2) (.bool t263)) (fun _ hk => ⟨hk.1.1.2, hk.1.2⟩)⟩, ⟨by (with_reducible repeat (first | apply Kd.R_alloc | apply Kd.R_drewN | apply Kd.R_drew)); exact Kd.R_mono (Kd.R_far (p := ⟨gb265, 5, none⟩) (Kd.R_far (p := ⟨gb265, 4, none⟩) (Kd.R_far (p := ⟨gb265, 3, none⟩) (Kd.R_far (p := ⟨gb265, 2, none⟩) (Kd.R_far (p := ⟨gb265, 1, none⟩) (Kd.R_far (p := ⟨gb265, 0, none⟩) (Kd.R_types HO260.out BK265.out (by decide)) (fun _ hk => hk.2) (.int .i64 t256)) (fun _ hk => hk.2) (.int .i64 t257)) (fun _ hk => hk.2) (.slice Ao40 t258.length co40)) (fun _ hk => hk.2) (.int .i64 t261)) (fun _ hk => hk.2) (.bool t262)) (fun _ hk => hk.2) (.bool t263)) (fun _ hk => ⟨hk.1.1.2, hk.1.2⟩)⟩, ⟨by (with_reducible repeat (first | refine blk_drewN ?_ _ | refine blk_drew ?_ | refine blk_alloc ?_ _)); refine blk_far ?_ NB234_265.out _; (with_reducible repeat (first | refine blk_drewN ?_ _ | refine blk_drew ?_ | refine blk_alloc ?_ _)); refine blk_far ?_ NB234_265.out _; (with_reducible repeat (first | refine blk_drewN ?_ _ | refine blk_drew ?_ | refine blk_alloc ?_ _)); refine blk_far ?_ NB234_265.out _; (with_reducible repeat (first | refine blk_drewN ?_ _ | refine blk_drew ?_ | refine blk_alloc ?_ _)); refine blk_far ?_ NB234_265.out _; (with_reducible repeat (first | refine blk_drewN ?_ _ | refine blk_drew ?_ | refine blk_alloc ?_ _)); refine blk_far ?_ NB234_265.out _; (with_reducible repeat (first | refine blk_drewN ?_ _ | refine blk_drew ?_ | refine blk_alloc ?_ _)); refine blk_far ?_ NB234_265.out _; (with_reducible repeat (first | refine blk_drewN ?_ _ | refine blk_drew ?_ | refine blk_alloc ?_ _)); exact BK234.out⟩, ⟨by (with_reducible repeat (first | refine blk_drewN ?_ _ | refine blk_drew ?_ | refine blk_alloc ?_ _)); refine blk_far ?_ NB246_265.out _; (with_reducible repeat (first | refine blk_drewN ?_ _ | refine blk_drew ?_ | refine blk_alloc ?_ _)); refine blk_far ?_ NB246_265.out _; (with_reducible repeat (first | refine blk_drewN ?_ _ | refine blk_drew ?_ | refine blk_alloc ?_ _)); refine blk_far ?_ NB246_265.out _; (with_reducible repeat (first | refine blk_drewN ?_ _ | refine blk_drew ?_ | refine blk_alloc ?_ _)); refine blk_far ?_ NB246_265.out _; (with_reducible repeat (first | refine blk_drewN ?_ _ | refine blk_drew ?_ | refine blk_alloc ?_ _)); refine blk_far ?_ NB246_265.out _; (with_reducible repeat (first | refine blk_drewN ?_ _ | refine blk_drew ?_ | refine blk_alloc ?_ _)); refine blk_far ?_ NB246_265.out _; (with_reducible repeat (first | refine blk_drewN ?_ _ | refine blk_drew ?_ | refine blk_alloc ?_ _)); exact BK246.out⟩, ⟨by (with_reducible repeat (first | refine blk_drewN ?_ _ | refine blk_drew ?_ | refine blk_alloc ?_ _)); refine blk_far ?_ NB255_265.out _; (with_reducible repeat (first | refine blk_drewN ?_ _ | refine blk_drew ?_ | refine blk_alloc ?_ _)); refine blk_far ?_ NB255_265.out _; (with_reducible repeat (first | refine blk_drewN ?_ _ | refine blk_drew ?_ | refine blk_alloc ?_ _)); refine blk_far ?_ NB255_265.out _; (with_reducible repeat (first | refine blk_drewN ?_ _ | refine blk_drew ?_ | refine blk_alloc ?_ _)); refine blk_far ?_ NB255_265.out _; (with_reducible repeat (first | refine blk_drewN ?_ _ | refine blk_drew ?_ | refine blk_alloc ?_ _)); refine blk_far ?_ NB255_265.out _; (with_reducible repeat (first | refine blk_drewN ?_ _ | refine blk_drew ?_ | refine blk_alloc ?_ _)); refine blk_far ?_ NB255_265.out _; (with_reducible repeat (first | refine blk_drewN ?_ _ | refine blk_drew ?_ | refine blk_alloc ?_ _)); exact BK255.out⟩, ⟨by (with_reducible repeat (first | refine blk_drewN ?_ _ | refine blk_drew ?_ | refine blk_alloc ?_ _)); refine blk_put (cs := #[.int .i64 t256, .int .i64 t257, .slice Ao40 t258.length co40, .int .i64 t261, .bool t262, .bool false]) ?_ 5 _ rfl; (with_reducible repeat (first | refine blk_drewN ?_ _ | refine blk_drew ?_ | refine blk_alloc ?_ _)); refine blk_put (cs := #[.int .i64 t256, .int .i64 t257, .slice Ao40 t258.length co40, .int .i64 t261, .bool false, .bool false]) ?_ 4 _ rfl; (with_reducible repeat (first | refine blk_drewN ?_ _ | refine blk_drew ?_ | refine blk_alloc ?_ _)); refine blk_put (cs := #[.int .i64 t256, .int .i64 t257, .slice Ao40 t258.length co40, .int .i64 0, .bool false, .bool false]) ?_ 3 _ rfl; (with_reducible repeat (first | refine blk_drewN ?_ _ | refine blk_drew ?_ | refine blk_alloc ?_ _)); refine blk_put (cs := #[.int .i64 t256, .int .i64 t257, .slice none 0 0, .int .i64 0, .bool false, .bool false]) ?_ 2 _ rfl; (with_reducible repeat (first | refine blk_drewN ?_ _ | refine blk_drew ?_ | refine blk_alloc ?_ _)); refine blk_put (cs := #[.int .i64 t256, .int .i64 0, .slice none 0 0, .int .i64 0, .bool false, .bool false]) ?_ 1 _ rfl; (with_reducible repeat (first | refine blk_drewN ?_ _ | refine blk_drew ?_ | refine blk_alloc ?_ _)); refine blk_put (cs := #[.int .i64 0, .int .i64 0, .slice none 0 0, .int .i64 0, .bool false, .bool false]) ?_ 0 _ rfl; (with_reducible repeat (first | refine blk_drewN ?_ _ | refine blk_drew ?_ | refine blk_alloc ?_ _)); exact BK265.out⟩, ⟨by repeat (first | (with_reducible first | exact HB.out | apply below_alloc | apply pw_below_drewN | apply below_drew1 | refine below_set ?_ GE234.out | refine below_set ?_ GE246.out | refine below_set ?_ GE255.out | refine below_set ?_ GE265.out) | exact HB.out)⟩⟩
          case round =>
            clear H'
            try clear c1
            try clear c2
            try clear p2
            try clear c3
            try clear c5
            try clear c6
            try clear p6
            try clear c7
            try clear c13
            try clear c14
            try clear c15
            try clear c17
            try clear c17b0
            try clear c17b1
            try clear c17b2
            try clear c23
            try clear c29
            try clear c30
            try clear c36
            try clear c37
            try clear c38
            try clear hcz10_0
            try clear hcz10_1
            try clear hcz10_2
            try clear hcz10_3
            try clear hcz10_4
            try clear hcz10_5
            try clear hcz20_0
            try clear hcz20_1
            try clear hcz20_2
            try clear hcz20_3
            try clear hcz20_4
            try clear hcz20_5
            try clear hcz24_0
            try clear hcz24_1
            try clear hcz24_2
            try clear hcz24_3
            try clear hcz24_4
            try clear hcz24_5
            try clear hcz26_0
            try clear hcz26_1
            try clear hcz26_2
            try clear hcz26_3
            try clear hcz26_4
            try clear hcz26_5
            try clear hcz31_0
            try clear hcz31_1
            try clear hcz31_2
            try clear hcz31_3
            try clear hcz31_4
            try clear hcz31_5
            try clear hcz33_0
            try clear hcz33_1
            try clear hcz33_2
            try clear hcz33_3
            try clear hcz33_4
            try clear hcz33_5
            try clear hcz39_0
            try clear hcz39_1
            try clear hcz39_2
            try clear hcz39_3
            try clear hcz39_4
            try clear hcz39_5
            try clear hfz10_0
            try clear hfz10_1
            try clear hfz10_2
            try clear hfz10_3
            try clear hfz10_4
            try clear hfz10_5
            try clear hfz20_0
            try clear hfz20_1
            try clear hfz20_2
            try clear hfz20_3
            try clear hfz20_4
            try clear hfz20_5
            try clear hfz24_0
            try clear hfz24_1
            try clear hfz24_2
            try clear hfz24_3
            try clear hfz24_4
            try clear hfz24_5
            try clear hfz26_0
            try clear hfz26_1
            try clear hfz26_2
            try clear hfz26_3
            try clear hfz26_4
            try clear hfz26_5
            try clear hfz31_0
            try clear hfz31_1
            try clear hfz31_2
            try clear hfz31_3
            try clear hfz31_4
            try clear hfz31_5
            try clear hfz33_0
            try clear hfz33_1
            try clear hfz33_2
            try clear hfz33_3
            try clear hfz33_4
            try clear hfz33_5
            try clear hfz39_0
            try clear hfz39_1
            try clear hfz39_2
            try clear hfz39_3
            try clear hfz39_4
            try clear hfz39_5
            try clear p2
            obtain ⟨x12_2, x247002_2, x256002_2, x266002_2, u247002, u256002, u266002, rfl, HA, HK2, HO_247002, HO_256002, HO_266002, BK234, BK246, BK255, BK265, HB⟩ := hrel
            cases gk with
            | zero => exact absurd HA.out (by simp [shutterlaw10_GridKeeps.l0])
            | succ k2 =>
              have H := HA.out
              clear HA
              simp only [shutterlaw10_GridKeeps.l0] at H
              by_cases c41 : x12_2 < (x256002_2.length : Int)
              · rw [if_pos c41] at H
                have c41b0 : decide (x12_2 < (x256002_2.length : Int)) = true := decide_eq_true c41
                clear c41
                by_cases c42 : 0 ≤ x12_2
                · rw [if_pos c42] at H
                  have c42b0 : decide (0 ≤ x12_2) = true := decide_eq_true c42
                  clear c42
                  obtain ⟨y266, hy266⟩ : ∃ y_ : List (S44), y_ = (x256002_2.set (x12_2 : Int).toNat (⟨(rd_T44 x256002_2 x12_2).f0, (⟨(rd_T44 x256002_2 x12_2).f1.f0, (rd_T44 x256002_2 x12_2).f1.f1, (rd_T44 x256002_2 x12_2).f1.f2, (rd_T44 x256002_2 x12_2).f1.f3⟩ : S42), 7⟩ : S44)) := ⟨_, rfl⟩
                  replace H : (if x12_2 < (x266002_2.length : Int) then (shutterlaw10_GridKeeps.l0 k2 a2 (Int.tmod (wrap64 (a1)) (l0_2.length : Int)) (wrap64 (x12_2 + 1)) a0_0 a0_1 l0_2 a0_3 a0_4 a0_5 t238 t239 x247002_2 t243 t244 t245 t247 t248 y266 t252 t253 t254 t256 t257 (x266002_2.set (x12_2 : Int).toNat (⟨(rd_T44 x266002_2 x12_2).f0, (⟨(rd_T44 x266002_2 x12_2).f1.f0, (rd_T44 x266002_2 x12_2).f1.f1, (rd_T44 x266002_2 x12_2).f1.f2, (rd_T44 x266002_2 x12_2).f1.f3⟩ : S42), 7⟩ : S44)) t261 t262 t263) else (none)) = some r := by first | (rw [hy266]; with_reducible exact H) | (have H2_ := (Option.bind_some _ _).symm.trans H; rw [hy266]; with_reducible exact H2_) | (have H2_ := (Option.bind_some _ _).symm.trans H; with_reducible exact H2_) | with_reducible exact H | (rw [hy266]; exact H) | exact H
                  have Ny266 := Aside0.mk hy266
                  clear hy266
                  by_cases c44 : x12_2 < (x266002_2.length : Int)
                  · rw [if_pos c44] at H
                    have c44b0 : decide (x12_2 < (x266002_2.length : Int)) = true := decide_eq_true c44
                    clear c44
                    obtain ⟨y267, hy267⟩ : ∃ y_ : List (S44), y_ = (x266002_2.set (x12_2 : Int).toNat (⟨(rd_T44 x266002_2 x12_2).f0, (⟨(rd_T44 x266002_2 x12_2).f1.f0, (rd_T44 x266002_2 x12_2).f1.f1, (rd_T44 x266002_2 x12_2).f1.f2, (rd_T44 x266002_2 x12_2).f1.f3⟩ : S42), 7⟩ : S44)) := ⟨_, rfl⟩
                    replace H : (shutterlaw10_GridKeeps.l0 k2 a2 (Int.tmod (wrap64 (a1)) (l0_2.length : Int)) (wrap64 (x12_2 + 1)) a0_0 a0_1 l0_2 a0_3 a0_4 a0_5 t238 t239 x247002_2 t243 t244 t245 t247 t248 y266 t252 t253 t254 t256 t257 y267 t261 t262 t263) = some r := by first | (rw [hy267]; with_reducible exact H) | (have H2_ := (Option.bind_some _ _).symm.trans H; rw [hy267]; with_reducible exact H2_) | (have H2_ := (Option.bind_some _ _).symm.trans H; with_reducible exact H2_) | with_reducible exact H | (rw [hy267]; exact H) | exact H
                    have Ny267 := Aside0.mk hy267
                    clear hy267
                    have H' := Aside0.mk H
                    clear H
                    have hnb46 := NB255_234.out
                    have hnc46 := NB234_255.out
                    have hnb47 := NB255_246.out
                    have hnc47 := NB246_255.out
                    have hnb48 := NB255_265.out
                    have hnc48 := NB265_255.out
                    have hcz49_0 : wr.cell? ⟨gb255, 0, none⟩ = some (.int .i64 t247) := (blk_cell BK255.out 0).trans rfl
                    have hcz49_1 : wr.cell? ⟨gb255, 1, none⟩ = some (.int .i64 t248) := (blk_cell BK255.out 1).trans rfl
                    have hcz49_2 : wr.cell? ⟨gb255, 2, none⟩ = some (u256002) := (blk_cell BK255.out 2).trans rfl
                    have hcz49_3 : wr.cell? ⟨gb255, 3, none⟩ = some (.int .i64 t252) := (blk_cell BK255.out 3).trans rfl
                    have hcz49_4 : wr.cell? ⟨gb255, 4, none⟩ = some (.bool t253) := (blk_cell BK255.out 4).trans rfl
                    have hcz49_5 : wr.cell? ⟨gb255, 5, none⟩ = some (.bool t254) := (blk_cell BK255.out 5).trans rfl
                    have hfz49_0 := blk_frozen BK255.out 0
                    have hfz49_1 := blk_frozen BK255.out 1
                    have hfz49_2 := blk_frozen BK255.out 2
                    have hfz49_3 := blk_frozen BK255.out 3
                    have hfz49_4 := blk_frozen BK255.out 4
                    have hfz49_5 := blk_frozen BK255.out 5
                    obtain ⟨Ao50, co50, eo50⟩ := Kd.R_slice HO_256002.out
                    subst eo50
                    have p43 : 0 ≤ (x12_2 : Int) := of_decide_eq_true (by first | (with_reducible assumption) | assumption)
                    have q43 : (x12_2 : Int) < ((x256002_2.length : Int) : Int) := of_decide_eq_true (by first | (with_reducible assumption) | assumption)
                    obtain ⟨go43, co43, eo43, gb43, gl43, cl43, HG43⟩ := Kd.R_form HO_256002.out (by omega)
                    (first | cases eo43 | (injection eo43 with ea_ en_ ec_; (first | subst ea_ | (injection ea_ with ea_; subst ea_)); subst ec_; clear en_))
                    have GB43 := Aside0.mk gb43
                    have GG43 := Aside0.mk HG43
                    clear gb43 gl43 HG43
                    obtain ⟨ce43, hcl43, hM43, hcc43, hfr43⟩ := Kd.R_elem HO_256002.out z44 (x12_2 : Int) p43 q43
                    obtain rfl := k44_openM hM43
                    have hx43_0 : wr.cell? ⟨go43, (x12_2 : Int).toNat * 6, none⟩ = some (.bool ((rd_T44 x256002_2 x12_2).f0)) := hcc43 0 _ rfl
                    have hx43_1 : wr.cell? ⟨go43, (x12_2 : Int).toNat * 6 + 1, none⟩ = some (.bool ((rd_T44 x256002_2 x12_2).f1.f0)) := hcc43 1 _ rfl
                    have hx43_2 : wr.cell? ⟨go43, (x12_2 : Int).toNat * 6 + 2, none⟩ = some (.bool ((rd_T44 x256002_2 x12_2).f1.f1)) := hcc43 2 _ rfl
                    have hx43_3 : wr.cell? ⟨go43, (x12_2 : Int).toNat * 6 + 3, none⟩ = some (.int .i64 ((rd_T44 x256002_2 x12_2).f1.f2)) := hcc43 3 _ rfl
                    have hx43_4 : wr.cell? ⟨go43, (x12_2 : Int).toNat * 6 + 4, none⟩ = some (.bool ((rd_T44 x256002_2 x12_2).f1.f3)) := hcc43 4 _ rfl
                    have hx43_5 : wr.cell? ⟨go43, (x12_2 : Int).toNat * 6 + 5, none⟩ = some (.int .u8 ((rd_T44 x256002_2 x12_2).f2)) := hcc43 5 _ rfl
                    have hf43_0 : wr.frozen? ⟨go43, (x12_2 : Int).toNat * 6, none⟩ = false := hfr43 0
                    have hf43_1 : wr.frozen? ⟨go43, (x12_2 : Int).toNat * 6 + 1, none⟩ = false := hfr43 1
                    have hf43_2 : wr.frozen? ⟨go43, (x12_2 : Int).toNat * 6 + 2, none⟩ = false := hfr43 2
                    have hf43_3 : wr.frozen? ⟨go43, (x12_2 : Int).toNat * 6 + 3, none⟩ = false := hfr43 3
                    have hf43_4 : wr.frozen? ⟨go43, (x12_2 : Int).toNat * 6 + 4, none⟩ = false := hfr43 4
                    have hf43_5 : wr.frozen? ⟨go43, (x12_2 : Int).toNat * 6 + 5, none⟩ = false := hfr43 5
                    clear hcl43 hcc43 hfr43 hM43
                    replace p43 := eq_true p43
                    replace q43 := eq_true q43
                    have HX51 := Aside0.mk (show Kd.R k44 44 wr w.heap.size (fun k_ => some k_ ≠ (u247002 : Value).ownBlock ∧ some k_ ≠ (u266002 : Value).ownBlock) (.slice (some ⟨go43, 0, none⟩) x256002_2.length co50) x256002_2 from (by (with_reducible repeat (first | apply Kd.R_alloc | apply Kd.R_drewN | apply Kd.R_drew)); exact HO_256002.out))
                    obtain ⟨ce51, hcl51, hM51, hcc51, hfr51⟩ := Kd.R_elem HX51.out z44 (x12_2 : Int) (of_decide_eq_true (by first | (with_reducible assumption) | assumption)) (by have h_ : (x12_2 : Int) < ((x256002_2.length : Int) : Int) := of_decide_eq_true (by first | (with_reducible assumption) | assumption); first | exact h_ | (have e_ := (Kd.R_reads' HO_256002.out).1; omega) | simpa using h_)
                    obtain rfl := k44_openM hM51
                    have HP51 := Kd.R_seg HX51.out (x12_2 : Int) (of_decide_eq_true (by first | (with_reducible assumption) | assumption)) (by have h_ : (x12_2 : Int) < ((x256002_2.length : Int) : Int) := of_decide_eq_true (by first | (with_reducible assumption) | assumption); first | exact h_ | (have e_ := (Kd.R_reads' HO_256002.out).1; omega) | simpa using h_) (seg := [.int .u8 7]) (j := 5) hcl51 hcc51 (show 6 ≤ 6 from by decide) (x' := (⟨(rd_T44 x256002_2 x12_2).f0, (⟨(rd_T44 x256002_2 x12_2).f1.f0, (rd_T44 x256002_2 x12_2).f1.f1, (rd_T44 x256002_2 x12_2).f1.f2, (rd_T44 x256002_2 x12_2).f1.f3⟩ : S42), 7⟩ : S44)) (k44_mkM _ _ _ (⟨(rd_T44 x256002_2 x12_2).f0, (⟨(rd_T44 x256002_2 x12_2).f1.f0, (rd_T44 x256002_2 x12_2).f1.f1, (rd_T44 x256002_2 x12_2).f1.f2, (rd_T44 x256002_2 x12_2).f1.f3⟩ : S42), 7⟩ : S44) ) (fun _ hk => hk)
                    have hx51_5 := hcc51 5 _ rfl
                    (try simp only [show (k44).sz = 6 from rfl, Nat.mul_one, Nat.add_zero] at hx51_5)
                    have hf51_5 := hfr51 5
                    (try simp only [show (k44).sz = 6 from rfl, Nat.mul_one, Nat.add_zero] at hf51_5)
                    clear hcl51 hcc51 hfr51 hM51
                    go_wp2_with (first | ((with_reducible refine gate_store (t := 5) (p := 52) rfl ?_); refine store_event (t := 5) (p := 52) (v := ?vo_w52) (w1 := (wr.setCell ⟨go43, (x12_2 : Int).toNat * 6 + 5, none⟩ (.int .u8 7))) ?hg ?ho ?hn ?hr ?_; (case ho => rfl); (case hg => rfl); (case hn => rfl); (case hr => first | (go_simp; done) | (go_simp; rfl)); intro w52 hw; have hg : wr.grownBy w52 (some go43) := (by rw [hw]; exact HP51.2); have hp_ : Kd.R k44 44 w52 w.heap.size (fun k_ => some k_ ≠ (u247002 : Value).ownBlock ∧ some k_ ≠ (u266002 : Value).ownBlock) (.slice (some ⟨go43, 0, none⟩) x256002_2.length co50) y266 := (by rw [hw, Ny266.out]; exact HP51.1); clear HP51; have n0_ := Aside0.mk (Kd.R_after (v := (.slice (some ⟨go43, 0, none⟩) x256002_2.length co50)) (v1 := (.slice (some ⟨go43, 0, none⟩) x256002_2.length co50)) (ok := (fun k_ => some k_ ≠ (u266002 : Value).ownBlock)) (by (with_reducible repeat (first | apply Kd.R_alloc | apply Kd.R_drewN | apply Kd.R_drew)); exact Kd.R_mono HO_247002.out (fun _ hk => ⟨hk.2, hk.1⟩)) hg (.inl rfl)); have n1_ := Aside0.mk (hp_); have n2_ := Aside0.mk (Kd.R_after (v := (.slice (some ⟨go43, 0, none⟩) x256002_2.length co50)) (v1 := (.slice (some ⟨go43, 0, none⟩) x256002_2.length co50)) (ok := (fun k_ => some k_ ≠ (u247002 : Value).ownBlock)) (by (with_reducible repeat (first | apply Kd.R_alloc | apply Kd.R_drewN | apply Kd.R_drew)); exact HO_266002.out) hg (.inl rfl)); have n3_ := Aside0.mk (blk_grown (g := gb234) (o := .cells #[.int .i64 a0_0, .int .i64 a0_1, .slice A0_2 l0_2.length c0_2, .int .i64 a0_3, .bool a0_4, .bool a0_5] 24 (0, 0)) (by (with_reducible repeat (first | refine blk_drewN ?_ _ | refine blk_drew ?_ | refine blk_alloc ?_ _)); exact BK234.out) hg (Kd.R_ne HO_256002.out BK234.out (by decide))); have n4_ := Aside0.mk (blk_grown (g := gb246) (o := .cells #[.int .i64 t238, .int .i64 t239, u247002, .int .i64 t243, .bool t244, .bool t245] 24 (0, 0)) (by (with_reducible repeat (first | refine blk_drewN ?_ _ | refine blk_drew ?_ | refine blk_alloc ?_ _)); exact BK246.out) hg (Kd.R_ne HO_256002.out BK246.out (by decide))); have n5_ := Aside0.mk (blk_grown (g := gb255) (o := .cells #[.int .i64 t247, .int .i64 t248, .slice (some ⟨go43, 0, none⟩) x256002_2.length co50, .int .i64 t252, .bool t253, .bool t254] 24 (0, 0)) (by (with_reducible repeat (first | refine blk_drewN ?_ _ | refine blk_drew ?_ | refine blk_alloc ?_ _)); exact BK255.out) hg (Kd.R_ne HO_256002.out BK255.out (by decide))); have n6_ := Aside0.mk (blk_grown (g := gb265) (o := .cells #[.int .i64 t256, .int .i64 t257, u266002, .int .i64 t261, .bool t262, .bool t263] 24 (0, 0)) (by (with_reducible repeat (first | refine blk_drewN ?_ _ | refine blk_drew ?_ | refine blk_alloc ?_ _)); exact BK265.out) hg (Kd.R_ne HO_256002.out BK265.out (by decide))); have n7_ := Aside0.mk ((by rw [hw]; exact below_set (HB.out) GB43.out : Below w.heap.size w w52)); clear HO_247002; clear HO_256002; clear HO_266002; clear BK234; clear BK246; clear BK255; clear BK265; clear HB; have HO_247002 := n0_; have HO_256002 := n1_; have HO_266002 := n2_; have BK234 := n3_; have BK246 := n4_; have BK255 := n5_; have BK265 := n6_; have HB := n7_; clear n0_ n1_ n2_ n3_ n4_ n5_ n6_ n7_; clear hg hw hp_; have hnb53 := NB265_234.out; have hnc53 := NB234_265.out; have hnb54 := NB265_246.out; have hnc54 := NB246_265.out; have hcz55_0 : w52.cell? ⟨gb265, 0, none⟩ = some (.int .i64 t256) := (blk_cell BK265.out 0).trans rfl; have hcz55_1 : w52.cell? ⟨gb265, 1, none⟩ = some (.int .i64 t257) := (blk_cell BK265.out 1).trans rfl; have hcz55_2 : w52.cell? ⟨gb265, 2, none⟩ = some (u266002) := (blk_cell BK265.out 2).trans rfl; have hcz55_3 : w52.cell? ⟨gb265, 3, none⟩ = some (.int .i64 t261) := (blk_cell BK265.out 3).trans rfl; have hcz55_4 : w52.cell? ⟨gb265, 4, none⟩ = some (.bool t262) := (blk_cell BK265.out 4).trans rfl; have hcz55_5 : w52.cell? ⟨gb265, 5, none⟩ = some (.bool t263) := (blk_cell BK265.out 5).trans rfl; have hfz55_0 := blk_frozen BK265.out 0; have hfz55_1 := blk_frozen BK265.out 1; have hfz55_2 := blk_frozen BK265.out 2; have hfz55_3 := blk_frozen BK265.out 3; have hfz55_4 := blk_frozen BK265.out 4; have hfz55_5 := blk_frozen BK265.out 5; have p45 : 0 ≤ (x12_2 : Int) := of_decide_eq_true (by first | (with_reducible assumption) | assumption); have q45 : (x12_2 : Int) < ((x266002_2.length : Int) : Int) := of_decide_eq_true (by first | (with_reducible assumption) | assumption); obtain ⟨go45, co45, eo45, gb45, gl45, cl45, HG45⟩ := Kd.R_form HO_266002.out (by omega); (first | cases eo45 | (injection eo45 with ea_ en_ ec_; (first | subst ea_ | (injection ea_ with ea_; subst ea_)); subst ec_; clear en_)); have GB45 := Aside0.mk gb45; have GG45 := Aside0.mk HG45; clear gb45 gl45 HG45; obtain ⟨ce45, hcl45, hM45, hcc45, hfr45⟩ := Kd.R_elem HO_266002.out z44 (x12_2 : Int) p45 q45; obtain rfl := k44_openM hM45; have hx45_0 : w52.cell? ⟨go45, (x12_2 : Int).toNat * 6, none⟩ = some (.bool ((rd_T44 x266002_2 x12_2).f0)) := hcc45 0 _ rfl; have hx45_1 : w52.cell? ⟨go45, (x12_2 : Int).toNat * 6 + 1, none⟩ = some (.bool ((rd_T44 x266002_2 x12_2).f1.f0)) := hcc45 1 _ rfl; have hx45_2 : w52.cell? ⟨go45, (x12_2 : Int).toNat * 6 + 2, none⟩ = some (.bool ((rd_T44 x266002_2 x12_2).f1.f1)) := hcc45 2 _ rfl; have hx45_3 : w52.cell? ⟨go45, (x12_2 : Int).toNat * 6 + 3, none⟩ = some (.int .i64 ((rd_T44 x266002_2 x12_2).f1.f2)) := hcc45 3 _ rfl; have hx45_4 : w52.cell? ⟨go45, (x12_2 : Int).toNat * 6 + 4, none⟩ = some (.bool ((rd_T44 x266002_2 x12_2).f1.f3)) := hcc45 4 _ rfl; have hx45_5 : w52.cell? ⟨go45, (x12_2 : Int).toNat * 6 + 5, none⟩ = some (.int .u8 ((rd_T44 x266002_2 x12_2).f2)) := hcc45 5 _ rfl; have hf45_0 : w52.frozen? ⟨go45, (x12_2 : Int).toNat * 6, none⟩ = false := hfr45 0; have hf45_1 : w52.frozen? ⟨go45, (x12_2 : Int).toNat * 6 + 1, none⟩ = false := hfr45 1; have hf45_2 : w52.frozen? ⟨go45, (x12_2 : Int).toNat * 6 + 2, none⟩ = false := hfr45 2; have hf45_3 : w52.frozen? ⟨go45, (x12_2 : Int).toNat * 6 + 3, none⟩ = false := hfr45 3; have hf45_4 : w52.frozen? ⟨go45, (x12_2 : Int).toNat * 6 + 4, none⟩ = false := hfr45 4; have hf45_5 : w52.frozen? ⟨go45, (x12_2 : Int).toNat * 6 + 5, none⟩ = false := hfr45 5; clear hcl45 hcc45 hfr45 hM45; replace p45 := eq_true p45; replace q45 := eq_true q45; have HX56 := Aside0.mk (show Kd.R k44 44 w52 w.heap.size (fun k_ => some k_ ≠ (u247002 : Value).ownBlock ∧ some k_ ≠ (.slice (some ⟨go43, 0, none⟩) x256002_2.length co50 : Value).ownBlock) (.slice (some ⟨go45, 0, none⟩) x266002_2.length co45) x266002_2 from (by (with_reducible repeat (first | apply Kd.R_alloc | apply Kd.R_drewN | apply Kd.R_drew)); exact HO_266002.out)); obtain ⟨ce56, hcl56, hM56, hcc56, hfr56⟩ := Kd.R_elem HX56.out z44 (x12_2 : Int) (of_decide_eq_true (by first | (with_reducible assumption) | assumption)) (by have h_ : (x12_2 : Int) < ((x266002_2.length : Int) : Int) := of_decide_eq_true (by first | (with_reducible assumption) | assumption); first | exact h_ | (have e_ := (Kd.R_reads' HO_266002.out).1; omega) | simpa using h_); obtain rfl := k44_openM hM56; have HP56 := Kd.R_seg HX56.out (x12_2 : Int) (of_decide_eq_true (by first | (with_reducible assumption) | assumption)) (by have h_ : (x12_2 : Int) < ((x266002_2.length : Int) : Int) := of_decide_eq_true (by first | (with_reducible assumption) | assumption); first | exact h_ | (have e_ := (Kd.R_reads' HO_266002.out).1; omega) | simpa using h_) (seg := [.int .u8 7]) (j := 5) hcl56 hcc56 (show 6 ≤ 6 from by decide) (x' := (⟨(rd_T44 x266002_2 x12_2).f0, (⟨(rd_T44 x266002_2 x12_2).f1.f0, (rd_T44 x266002_2 x12_2).f1.f1, (rd_T44 x266002_2 x12_2).f1.f2, (rd_T44 x266002_2 x12_2).f1.f3⟩ : S42), 7⟩ : S44)) (k44_mkM _ _ _ (⟨(rd_T44 x266002_2 x12_2).f0, (⟨(rd_T44 x266002_2 x12_2).f1.f0, (rd_T44 x266002_2 x12_2).f1.f1, (rd_T44 x266002_2 x12_2).f1.f2, (rd_T44 x266002_2 x12_2).f1.f3⟩ : S42), 7⟩ : S44) ) (fun _ hk => hk); have hx56_5 := hcc56 5 _ rfl; (try simp only [show (k44).sz = 6 from rfl, Nat.mul_one, Nat.add_zero] at hx56_5); have hf56_5 := hfr56 5; (try simp only [show (k44).sz = 6 from rfl, Nat.mul_one, Nat.add_zero] at hf56_5); clear hcl56 hcc56 hfr56 hM56) | ((with_reducible refine gate_store (t := 5) (p := 57) rfl ?_); refine store_event (t := 5) (p := 57) (v := ?vo_w57) (w1 := (w52.setCell ⟨go45, (x12_2 : Int).toNat * 6 + 5, none⟩ (.int .u8 7))) ?hg ?ho ?hn ?hr ?_; (case ho => rfl); (case hg => rfl); (case hn => rfl); (case hr => first | (go_simp; done) | (go_simp; rfl)); intro w57 hw; have hg : w52.grownBy w57 (some go45) := (by rw [hw]; exact HP56.2); have hp_ : Kd.R k44 44 w57 w.heap.size (fun k_ => some k_ ≠ (u247002 : Value).ownBlock ∧ some k_ ≠ (.slice (some ⟨go43, 0, none⟩) x256002_2.length co50 : Value).ownBlock) (.slice (some ⟨go45, 0, none⟩) x266002_2.length co45) y267 := (by rw [hw, Ny267.out]; exact HP56.1); clear HP56; have n0_ := Aside0.mk (Kd.R_after (v := (.slice (some ⟨go45, 0, none⟩) x266002_2.length co45)) (v1 := (.slice (some ⟨go45, 0, none⟩) x266002_2.length co45)) (ok := (fun k_ => some k_ ≠ (.slice (some ⟨go43, 0, none⟩) x256002_2.length co50 : Value).ownBlock)) (by (with_reducible repeat (first | apply Kd.R_alloc | apply Kd.R_drewN | apply Kd.R_drew)); exact Kd.R_mono HO_247002.out (fun _ hk => ⟨hk.2, hk.1⟩)) hg (.inl rfl)); have n1_ := Aside0.mk (Kd.R_after (v := (.slice (some ⟨go45, 0, none⟩) x266002_2.length co45)) (v1 := (.slice (some ⟨go45, 0, none⟩) x266002_2.length co45)) (ok := (fun k_ => some k_ ≠ (u247002 : Value).ownBlock)) (by (with_reducible repeat (first | apply Kd.R_alloc | apply Kd.R_drewN | apply Kd.R_drew)); exact HO_256002.out) hg (.inl rfl)); have n2_ := Aside0.mk (hp_); have n3_ := Aside0.mk (blk_grown (g := gb234) (o := .cells #[.int .i64 a0_0, .int .i64 a0_1, .slice A0_2 l0_2.length c0_2, .int .i64 a0_3, .bool a0_4, .bool a0_5] 24 (0, 0)) (by (with_reducible repeat (first | refine blk_drewN ?_ _ | refine blk_drew ?_ | refine blk_alloc ?_ _)); exact BK234.out) hg (Kd.R_ne HO_266002.out BK234.out (by decide))); have n4_ := Aside0.mk (blk_grown (g := gb246) (o := .cells #[.int .i64 t238, .int .i64 t239, u247002, .int .i64 t243, .bool t244, .bool t245] 24 (0, 0)) (by (with_reducible repeat (first | refine blk_drewN ?_ _ | refine blk_drew ?_ | refine blk_alloc ?_ _)); exact BK246.out) hg (Kd.R_ne HO_266002.out BK246.out (by decide))); have n5_ := Aside0.mk (blk_grown (g := gb255) (o := .cells #[.int .i64 t247, .int .i64 t248, .slice (some ⟨go43, 0, none⟩) x256002_2.length co50, .int .i64 t252, .bool t253, .bool t254] 24 (0, 0)) (by (with_reducible repeat (first | refine blk_drewN ?_ _ | refine blk_drew ?_ | refine blk_alloc ?_ _)); exact BK255.out) hg (Kd.R_ne HO_266002.out BK255.out (by decide))); have n6_ := Aside0.mk (blk_grown (g := gb265) (o := .cells #[.int .i64 t256, .int .i64 t257, .slice (some ⟨go45, 0, none⟩) x266002_2.length co45, .int .i64 t261, .bool t262, .bool t263] 24 (0, 0)) (by (with_reducible repeat (first | refine blk_drewN ?_ _ | refine blk_drew ?_ | refine blk_alloc ?_ _)); exact BK265.out) hg (Kd.R_ne HO_266002.out BK265.out (by decide))); have n7_ := Aside0.mk ((by rw [hw]; exact below_set (HB.out) GB45.out : Below w.heap.size w w57)); clear HO_247002; clear HO_256002; clear HO_266002; clear BK234; clear BK246; clear BK255; clear BK265; clear HB; have HO_247002 := n0_; have HO_256002 := n1_; have HO_266002 := n2_; have BK234 := n3_; have BK246 := n4_; have BK255 := n5_; have BK265 := n6_; have HB := n7_; clear n0_ n1_ n2_ n3_ n4_ n5_ n6_ n7_; clear hg hw hp_))
                    (try simp only [add_plain])
                    go_roundg k2
                    case measure => have := HJ3.out; have := HK2.out; omega
                    case rel => exact ⟨(wrap64 (x12_2 + 1)), (x247002_2), (y266), (y267), (u247002), (.slice (some ⟨go43, 0, none⟩) x256002_2.length co50), (.slice (some ⟨go45, 0, none⟩) x266002_2.length co45), (by first | rfl | (simp; done) | (simp [*]; done)), H', ⟨by have := HJ3.out; have := HK2.out; omega⟩, ⟨by (with_reducible repeat (first | apply Kd.R_alloc | apply Kd.R_drewN | apply Kd.R_drew)); exact HO_247002.out⟩, ⟨by (with_reducible repeat (first | apply Kd.R_alloc | apply Kd.R_drewN | apply Kd.R_drew)); exact HO_256002.out⟩, ⟨by (with_reducible repeat (first | apply Kd.R_alloc | apply Kd.R_drewN | apply Kd.R_drew)); exact HO_266002.out⟩, ⟨by (with_reducible repeat (first | refine blk_drewN ?_ _ | refine blk_drew ?_ | refine blk_alloc ?_ _)); exact BK234.out⟩, ⟨by (with_reducible repeat (first | refine blk_drewN ?_ _ | refine blk_drew ?_ | refine blk_alloc ?_ _)); exact BK246.out⟩, ⟨by (with_reducible repeat (first | refine blk_drewN ?_ _ | refine blk_drew ?_ | refine blk_alloc ?_ _)); exact BK255.out⟩, ⟨by (with_reducible repeat (first | refine blk_drewN ?_ _ | refine blk_drew ?_ | refine blk_alloc ?_ _)); exact BK265.out⟩, ⟨by repeat (first | (with_reducible first | exact HB.out | apply below_alloc | apply pw_below_drewN | apply below_drew1 | refine below_set ?_ GE234.out | refine below_set ?_ GE246.out | refine below_set ?_ GE255.out | refine below_set ?_ GE265.out) | exact HB.out)⟩⟩
                  · rw [if_neg c44] at H
                    exact absurd H (by simp)
                · rw [if_neg c42] at H
                  exact absurd H (by simp)
              · rw [if_neg c41] at H
                have c41b0 : decide (x12_2 < (x256002_2.length : Int)) = false := decide_eq_false c41
                clear c41
                by_cases c58 : (l0_2.length : Int) = 0
                · rw [if_pos c58] at H
                  exact absurd H (by simp)
                · rw [if_neg c58] at H
                  have c58b0 : ((l0_2.length : Int) == 0) = false := beq_eq_false_iff_ne.mpr c58
                  have c58b1 : ((l0_2.length : Int) != 0) = true := bne_iff_ne.mpr c58
                  have c58b2 : ¬ (l0_2 = []) := fun h_ => c58 (by rw [h_]; rfl)
                  replace H := Option.bind_eq_some_iff.mp H
                  obtain ⟨t268, A590, H⟩ := H
                  replace H : (if 0 ≤ (l0_2.length : Int) then (if ((l0_2.length : Int) : Int).toNat ≤ 281474976710656 then (shutterlaw10_GridKeeps.l1 k2 t268 (List.replicate ((l0_2.length : Int) : Int).toNat false) 0 a0_0 a0_1 l0_2 a0_3 a0_4 a0_5 t238 t239 x247002_2 t243 t244 t245) else (none)) else (none)) = some r := H
                  have A59 := Aside0.mk A590
                  clear A590
                  by_cases c60 : 0 ≤ (l0_2.length : Int)
                  · rw [if_pos c60] at H
                    have c60b0 := eq_true c60
                    have c60b1 : decide (0 ≤ (l0_2.length : Int)) = true := decide_eq_true c60
                    clear c60
                    by_cases c61 : ((l0_2.length : Int) : Int).toNat ≤ 281474976710656
                    · rw [if_pos c61] at H
                      have c61b0 := eq_true c61
                      have c61b1 : decide (((l0_2.length : Int) : Int).toNat ≤ 281474976710656) = true := decide_eq_true c61
                      clear c61
                      obtain ⟨y271, hy271⟩ : ∃ y_ : List Bool, y_ = (List.replicate ((l0_2.length : Int) : Int).toNat false) := ⟨_, rfl⟩
                      replace H : (shutterlaw10_GridKeeps.l1 k2 t268 y271 0 a0_0 a0_1 l0_2 a0_3 a0_4 a0_5 t238 t239 x247002_2 t243 t244 t245) = some r := by first | (rw [hy271]; with_reducible exact H) | (have H2_ := (Option.bind_some _ _).symm.trans H; rw [hy271]; with_reducible exact H2_) | (have H2_ := (Option.bind_some _ _).symm.trans H; with_reducible exact H2_) | with_reducible exact H | (rw [hy271]; exact H) | exact H
                      have Ny271 := Aside0.mk hy271
                      clear hy271
                      have H' := Aside0.mk H
                      clear H
                      have hnb62 := NB255_234.out
                      have hnc62 := NB234_255.out
                      have hnb63 := NB255_246.out
                      have hnc63 := NB246_255.out
                      have hnb64 := NB255_265.out
                      have hnc64 := NB265_255.out
                      have hcz65_0 : wr.cell? ⟨gb255, 0, none⟩ = some (.int .i64 t247) := (blk_cell BK255.out 0).trans rfl
                      have hcz65_1 : wr.cell? ⟨gb255, 1, none⟩ = some (.int .i64 t248) := (blk_cell BK255.out 1).trans rfl
                      have hcz65_2 : wr.cell? ⟨gb255, 2, none⟩ = some (u256002) := (blk_cell BK255.out 2).trans rfl
                      have hcz65_3 : wr.cell? ⟨gb255, 3, none⟩ = some (.int .i64 t252) := (blk_cell BK255.out 3).trans rfl
                      have hcz65_4 : wr.cell? ⟨gb255, 4, none⟩ = some (.bool t253) := (blk_cell BK255.out 4).trans rfl
                      have hcz65_5 : wr.cell? ⟨gb255, 5, none⟩ = some (.bool t254) := (blk_cell BK255.out 5).trans rfl
                      have hfz65_0 := blk_frozen BK255.out 0
                      have hfz65_1 := blk_frozen BK255.out 1
                      have hfz65_2 := blk_frozen BK255.out 2
                      have hfz65_3 := blk_frozen BK255.out 3
                      have hfz65_4 := blk_frozen BK255.out 4
                      have hfz65_5 := blk_frozen BK255.out 5
                      obtain ⟨Ao66, co66, eo66⟩ := Kd.R_slice HO_256002.out
                      subst eo66
                      try go_wp2
                      have n0_ := Aside0.mk (Kd.R_drew HO_247002.out)
                      have n1_ := Aside0.mk (Kd.R_drew HO_256002.out)
                      have n2_ := Aside0.mk (Kd.R_drew HO_266002.out)
                      have n3_ := Aside0.mk (blk_drew BK234.out)
                      have n4_ := Aside0.mk (blk_drew BK246.out)
                      have n5_ := Aside0.mk (blk_drew BK255.out)
                      have n6_ := Aside0.mk (blk_drew BK265.out)
                      have n7_ := Aside0.mk (below_drew1 HB.out)
                      clear HO_247002
                      clear HO_256002
                      clear HO_266002
                      clear BK234
                      clear BK246
                      clear BK255
                      clear BK265
                      clear HB
                      have HO_247002 := n0_
                      have HO_256002 := n1_
                      have HO_266002 := n2_
                      have BK234 := n3_
                      have BK246 := n4_
                      have BK255 := n5_
                      have BK265 := n6_
                      have HB := n7_
                      clear n0_ n1_ n2_ n3_ n4_ n5_ n6_ n7_
                      refine start_ (n := 10) (S := fun w' => w'.cell? ⟨gb234, 0, none⟩ = some (.int .i64 a0_0) ∧ w'.cell? ⟨gb234, 1, none⟩ = some (.int .i64 a0_1) ∧ w'.cell? ⟨gb234, 2, none⟩ = some (.slice A0_2 l0_2.length c0_2) ∧ w'.cell? ⟨gb234, 3, none⟩ = some (.int .i64 a0_3) ∧ w'.cell? ⟨gb234, 4, none⟩ = some (.bool a0_4) ∧ w'.cell? ⟨gb234, 5, none⟩ = some (.bool a0_5)) (ds := []) #[false, false, false, false, false, false, false, false, false, false] (by kernel_rfl) rfl rfl ⟨(blk_cell BK234.out 0).trans rfl, (blk_cell BK234.out 1).trans rfl, (blk_cell BK234.out 2).trans rfl, (blk_cell BK234.out 3).trans rfl, (blk_cell BK234.out 4).trans rfl, (blk_cell BK234.out 5).trans rfl⟩ (fun hHeld => ?_); refine with_tabW shutterlaw10_GridKeeps.tab12 shutterlaw10_GridKeeps.bits12 (fun HT_ HW_ => ?_)
                      generalize wr.drew = w67 at HO_247002 HO_256002 HO_266002 BK234 BK246 BK255 BK265 HB hHeld ⊢
                      refine pure_ (i := 1) (N := some 59) (v := ?_) (a' := ?_) #[false, true, false, false, false, false, false, false, false, false] rfl rfl (any_of HT_.out (by kernel_rfl)) (fun _ _ _ h => h) (Or.inl ⟨by rfl, ?_⟩) ?_ ?_
                      rotate_left
                      · intro w'
                        go_simp
                        with_reducible rfl
                      rotate_left
                      · simp only [Act.put, List.setIfInBounds_toArray, List.set_cons_zero, List.set_cons_succ, i64_w, i32_w]
                        rfl
                      refine pure_ (i := 2) (N := some 60) (v := ?_) (a' := ?_) #[false, true, true, false, false, false, false, false, false, false] rfl rfl (any_of HT_.out (by kernel_rfl)) (fun _ _ _ h => h) (Or.inl ⟨by rfl, ?_⟩) ?_ ?_
                      rotate_left
                      · intro w'
                        go_simp
                        with_reducible rfl
                      rotate_left
                      · simp only [Act.put, List.setIfInBounds_toArray, List.set_cons_zero, List.set_cons_succ, i64_w, i32_w]
                        rfl
                      refine pure_ (i := 3) (N := some 61) (v := ?_) (a' := ?_) #[false, true, true, true, false, false, false, false, false, false] rfl rfl (any_of HT_.out (by kernel_rfl)) (fun _ _ _ h => h) (Or.inl ⟨by rfl, ?_⟩) ?_ ?_
                      rotate_left
                      · intro w'
                        go_simp
                        with_reducible rfl
                      rotate_left
                      · simp only [Act.put, List.setIfInBounds_toArray, List.set_cons_zero, List.set_cons_succ, i64_w, i32_w]
                        rfl
                      refine pure_ (i := 4) (N := some 62) (v := ?_) (a' := ?_) #[false, true, true, true, true, false, false, false, false, false] rfl rfl (any_of HT_.out (by kernel_rfl)) (fun _ _ _ h => h) (Or.inl ⟨by rfl, ?_⟩) ?_ ?_
                      rotate_left
                      · intro w'
                        go_simp
                        with_reducible rfl
                      rotate_left
                      · simp only [Act.put, List.setIfInBounds_toArray, List.set_cons_zero, List.set_cons_succ, i64_w, i32_w]
                        rfl
                      refine take_ (i := 0) (N := some 58) (v := ?_) (a' := ?_) #[true, true, true, true, true, false, false, false, false, false] rfl rfl (take_ofW HT_.out HW_.out (by kernel_rfl)) (fun _ _ _ h => h) (Or.inl ⟨by rfl, ?_⟩) hHeld ?_ ?_
                      rotate_left
                      · rintro w' ⟨s0, s1, s2, s3, s4, s5⟩
                        go_simp
                        with_reducible rfl
                      rotate_left
                      · simp only [Act.put, List.setIfInBounds_toArray, List.set_cons_zero, List.set_cons_succ, i64_w, i32_w]
                        rfl
                      refine take_ (i := 5) (N := some 63) (v := ?_) (a' := ?_) #[true, true, true, true, true, true, false, false, false, false] rfl rfl (take_ofW HT_.out HW_.out (by kernel_rfl)) (fun _ _ _ h => h) (Or.inl ⟨by rfl, ?_⟩) hHeld ?_ ?_
                      rotate_left
                      · rintro w' ⟨s0, s1, s2, s3, s4, s5⟩
                        go_simp
                        with_reducible rfl
                      rotate_left
                      · simp only [Act.put, List.setIfInBounds_toArray, List.set_cons_zero, List.set_cons_succ, i64_w, i32_w]
                        rfl
                      refine pure_ (i := 6) (N := some 64) (v := ?_) (a' := ?_) #[true, true, true, true, true, true, true, false, false, false] rfl rfl (any_of HT_.out (by kernel_rfl)) (fun _ _ _ h => h) (Or.inl ⟨by rfl, ?_⟩) ?_ ?_
                      rotate_left
                      · intro w'
                        go_simp
                        with_reducible rfl
                      rotate_left
                      · simp only [Act.put, List.setIfInBounds_toArray, List.set_cons_zero, List.set_cons_succ, i64_w, i32_w]
                        rfl
                      refine pure_ (i := 7) (N := some 65) (v := ?_) (a' := ?_) #[true, true, true, true, true, true, true, true, false, false] rfl rfl (any_of HT_.out (by kernel_rfl)) (fun _ _ _ h => h) (Or.inl ⟨by rfl, ?_⟩) ?_ ?_
                      rotate_left
                      · intro w'
                        go_simp
                        with_reducible rfl
                      rotate_left
                      · simp only [Act.put, List.setIfInBounds_toArray, List.set_cons_zero, List.set_cons_succ, i64_w, i32_w]
                        rfl
                      refine one_ (i := 8) (N := some 66) #[true, true, true, true, true, true, true, true, true, false] rfl rfl (one_of HT_.out (by kernel_rfl)) (by decide) (fun K hK => ?_)
                      refine goes_ Try.func9 (by kernel_rfl) rfl #[.agg #[.int .i64 a0_0, .int .i64 a0_1, .slice A0_2 l0_2.length c0_2, .int .i64 a0_3, .bool a0_4, .bool a0_5], .int .i64 (Int.tmod (wrap64 (a1)) (l0_2.length : Int)), .int .i64 (Int.tmod (wrap64 (a2)) (l0_2.length : Int))] (by rfl) rfl rfl (by (try simp only [List.map_toArray, List.map_cons, List.map_nil]); first | done | rfl | (simp only [List.length_drop, List.length_take]; rfl)) ?_
                      with_reducible refine (grid_Span.calls k2 a0_0 a0_1 _ _ l0_2 a0_3 a0_4 a0_5 (Int.tmod (wrap64 (a1)) (l0_2.length : Int)) (Int.tmod (wrap64 (a2)) (l0_2.length : Int)) t268 _ ?side1 ?side2 A59.out).mono ?_
                      (case side1 => repeat (first | exact (Kd.C_below HR0_2.out HB.out) | (with_reducible refine Kd.C_alloc ?_ _) | (with_reducible refine Kd.C_drewN ?_ _) | (with_reducible refine Kd.C_drew ?_)))
                      (case side2 => exact HC0_2.out)
                      rintro e w68 ⟨v269, rfl, ho0, hb⟩
                      refine ⟨_, rfl, ?_⟩
                      have n0_ := Aside0.mk (Kd.R_below (by (with_reducible repeat (first | apply Kd.R_alloc | apply Kd.R_drewN | apply Kd.R_drew)); exact HO_247002.out) hb)
                      have n1_ := Aside0.mk (Kd.R_below (by (with_reducible repeat (first | apply Kd.R_alloc | apply Kd.R_drewN | apply Kd.R_drew)); exact HO_256002.out) hb)
                      have n2_ := Aside0.mk (Kd.R_below (by (with_reducible repeat (first | apply Kd.R_alloc | apply Kd.R_drewN | apply Kd.R_drew)); exact HO_266002.out) hb)
                      have n3_ := Aside0.mk (Kd.R_lower ho0 (below_size (by repeat (first | (with_reducible first | exact HB.out | apply below_alloc | apply pw_below_drewN | apply below_drew1 | refine below_set ?_ GE234.out | refine below_set ?_ GE246.out | refine below_set ?_ GE255.out | refine below_set ?_ GE265.out) | exact HB.out))))
                      have n4_ := Aside0.mk (blk_below (g := gb234) (o := .cells #[.int .i64 a0_0, .int .i64 a0_1, .slice A0_2 l0_2.length c0_2, .int .i64 a0_3, .bool a0_4, .bool a0_5] 24 (0, 0)) (by (with_reducible repeat (first | refine blk_drewN ?_ _ | refine blk_drew ?_ | refine blk_alloc ?_ _)); exact BK234.out) hb)
                      have n5_ := Aside0.mk (blk_below (g := gb246) (o := .cells #[.int .i64 t238, .int .i64 t239, u247002, .int .i64 t243, .bool t244, .bool t245] 24 (0, 0)) (by (with_reducible repeat (first | refine blk_drewN ?_ _ | refine blk_drew ?_ | refine blk_alloc ?_ _)); exact BK246.out) hb)
                      have n6_ := Aside0.mk (blk_below (g := gb255) (o := .cells #[.int .i64 t247, .int .i64 t248, .slice Ao66 x256002_2.length co66, .int .i64 t252, .bool t253, .bool t254] 24 (0, 0)) (by (with_reducible repeat (first | refine blk_drewN ?_ _ | refine blk_drew ?_ | refine blk_alloc ?_ _)); exact BK255.out) hb)
                      have n7_ := Aside0.mk (blk_below (g := gb265) (o := .cells #[.int .i64 t256, .int .i64 t257, u266002, .int .i64 t261, .bool t262, .bool t263] 24 (0, 0)) (by (with_reducible repeat (first | refine blk_drewN ?_ _ | refine blk_drew ?_ | refine blk_alloc ?_ _)); exact BK265.out) hb)
                      have n8_ := Aside0.mk (below_step (by repeat (first | (with_reducible first | exact HB.out | apply below_alloc | apply pw_below_drewN | apply below_drew1 | refine below_set ?_ GE234.out | refine below_set ?_ GE246.out | refine below_set ?_ GE255.out | refine below_set ?_ GE265.out) | exact HB.out)) hb)
                      clear HO_247002
                      clear HO_256002
                      clear HO_266002
                      clear BK234
                      clear BK246
                      clear BK255
                      clear BK265
                      clear HB
                      have HO_247002 := n0_
                      have HO_256002 := n1_
                      have HO_266002 := n2_
                      have HO270 := n3_
                      have BK234 := n4_
                      have BK246 := n5_
                      have BK255 := n6_
                      have BK265 := n7_
                      have HB := n8_
                      clear n0_ n1_ n2_ n3_ n4_ n5_ n6_ n7_ n8_
                      (try clear hb)
                      (try clear hb2)
                      (try clear hk)
                      (try clear hi)
                      (try clear ho0)
                      refine hK.out _ _ ⟨(blk_cell BK234.out 0).trans rfl, (blk_cell BK234.out 1).trans rfl, (blk_cell BK234.out 2).trans rfl, (blk_cell BK234.out 3).trans rfl, (blk_cell BK234.out 4).trans rfl, (blk_cell BK234.out 5).trans rfl⟩ (fun hHeld => ?_)
                      clear hK K
                      refine norm_ (a' := ?_) ?_ ?_
                      rotate_left
                      · show Act.put _ (some 66) _ = _
                        simp only [Act.put, List.setIfInBounds_toArray, List.set_cons_zero, List.set_cons_succ, i64_w, i32_w]
                        rfl
                      refine pure_ (i := 9) (N := some 13) (v := ?_) (a' := ?_) #[true, true, true, true, true, true, true, true, true, true] rfl rfl (any_of HT_.out (by kernel_rfl)) (fun _ _ _ h => h) (Or.inl ⟨by rfl, ?_⟩) ?_ ?_
                      rotate_left
                      · intro w'
                        go_simp
                        with_reducible rfl
                      rotate_left
                      · simp only [Act.put, List.setIfInBounds_toArray, List.set_cons_zero, List.set_cons_succ, i64_w, i32_w]
                        rfl
                      refine done_ (done_of HT_.out (by kernel_rfl)) ?_
                      have hnb69 := NB234_246.out
                      have hnc69 := NB246_234.out
                      have hnb70 := NB234_265.out
                      have hnc70 := NB265_234.out
                      have hcz71_0 : w68.cell? ⟨gb234, 0, none⟩ = some (.int .i64 a0_0) := (blk_cell BK234.out 0).trans rfl
                      have hcz71_1 : w68.cell? ⟨gb234, 1, none⟩ = some (.int .i64 a0_1) := (blk_cell BK234.out 1).trans rfl
                      have hcz71_2 : w68.cell? ⟨gb234, 2, none⟩ = some (.slice A0_2 l0_2.length c0_2) := (blk_cell BK234.out 2).trans rfl
                      have hcz71_3 : w68.cell? ⟨gb234, 3, none⟩ = some (.int .i64 a0_3) := (blk_cell BK234.out 3).trans rfl
                      have hcz71_4 : w68.cell? ⟨gb234, 4, none⟩ = some (.bool a0_4) := (blk_cell BK234.out 4).trans rfl
                      have hcz71_5 : w68.cell? ⟨gb234, 5, none⟩ = some (.bool a0_5) := (blk_cell BK234.out 5).trans rfl
                      have hfz71_0 := blk_frozen BK234.out 0
                      have hfz71_1 := blk_frozen BK234.out 1
                      have hfz71_2 := blk_frozen BK234.out 2
                      have hfz71_3 := blk_frozen BK234.out 3
                      have hfz71_4 := blk_frozen BK234.out 4
                      have hfz71_5 := blk_frozen BK234.out 5
                      try go_wp2_with (first | ((with_reducible refine gate_dst (N := 70) rfl ?_); refine Kd.R_make Kd.bool _ 4 rfl (N := 70) rfl 45 _ _ rfl (l0_2.length : Int) rfl rfl Try.underlying45 (.bool false) 1 info4 rfl (by decide) (by omega) false (ok := fun _ => True) (okp := fun _ => True) rfl (fun _ hk => hk) trivial (of_decide_eq_true (by first | (with_reducible assumption) | assumption)) (Nat.le_trans (Nat.mul_le_mul_right _ (of_decide_eq_true (by first | (with_reducible assumption) | assumption) : (l0_2.length : Int).toNat ≤ 281474976710656)) (by omega)) (Below.refl _ _) (Nat.le_refl _) ?_; intro v272 w72 ho73 hb hg_ hnew_; clear hg_ hnew_; (first | rw [← Ny271.out] at ho73 | (simp only [Int.reduceToNat] at ho73; rw [← Ny271.out] at ho73)); have n0_ := Aside0.mk (Kd.R_below (by (with_reducible repeat (first | apply Kd.R_alloc | apply Kd.R_drewN | apply Kd.R_drew)); exact HO_247002.out) hb); have n1_ := Aside0.mk (Kd.R_below (by (with_reducible repeat (first | apply Kd.R_alloc | apply Kd.R_drewN | apply Kd.R_drew)); exact HO_256002.out) hb); have n2_ := Aside0.mk (Kd.R_below (by (with_reducible repeat (first | apply Kd.R_alloc | apply Kd.R_drewN | apply Kd.R_drew)); exact HO_266002.out) hb); have n3_ := Aside0.mk (Kd.R_below (by (with_reducible repeat (first | apply Kd.R_alloc | apply Kd.R_drewN | apply Kd.R_drew)); exact HO270.out) hb); have n4_ := Aside0.mk (Kd.R_lower ho73 (below_size (by repeat (first | (with_reducible first | exact HB.out | apply below_alloc | apply pw_below_drewN | apply below_drew1 | refine below_set ?_ GE234.out | refine below_set ?_ GE246.out | refine below_set ?_ GE255.out | refine below_set ?_ GE265.out) | exact HB.out)))); have n5_ := Aside0.mk (blk_below (g := gb234) (o := .cells #[.int .i64 a0_0, .int .i64 a0_1, .slice A0_2 l0_2.length c0_2, .int .i64 a0_3, .bool a0_4, .bool a0_5] 24 (0, 0)) (by (with_reducible repeat (first | refine blk_drewN ?_ _ | refine blk_drew ?_ | refine blk_alloc ?_ _)); exact BK234.out) hb); have n6_ := Aside0.mk (blk_below (g := gb246) (o := .cells #[.int .i64 t238, .int .i64 t239, u247002, .int .i64 t243, .bool t244, .bool t245] 24 (0, 0)) (by (with_reducible repeat (first | refine blk_drewN ?_ _ | refine blk_drew ?_ | refine blk_alloc ?_ _)); exact BK246.out) hb); have n7_ := Aside0.mk (blk_below (g := gb255) (o := .cells #[.int .i64 t247, .int .i64 t248, .slice Ao66 x256002_2.length co66, .int .i64 t252, .bool t253, .bool t254] 24 (0, 0)) (by (with_reducible repeat (first | refine blk_drewN ?_ _ | refine blk_drew ?_ | refine blk_alloc ?_ _)); exact BK255.out) hb); have n8_ := Aside0.mk (blk_below (g := gb265) (o := .cells #[.int .i64 t256, .int .i64 t257, u266002, .int .i64 t261, .bool t262, .bool t263] 24 (0, 0)) (by (with_reducible repeat (first | refine blk_drewN ?_ _ | refine blk_drew ?_ | refine blk_alloc ?_ _)); exact BK265.out) hb); have n9_ := Aside0.mk (below_step (by repeat (first | (with_reducible first | exact HB.out | apply below_alloc | apply pw_below_drewN | apply below_drew1 | refine below_set ?_ GE234.out | refine below_set ?_ GE246.out | refine below_set ?_ GE255.out | refine below_set ?_ GE265.out) | exact HB.out)) hb); clear HO_247002; clear HO_256002; clear HO_266002; clear HO270; clear BK234; clear BK246; clear BK255; clear BK265; clear HB; have HO_247002 := n0_; have HO_256002 := n1_; have HO_266002 := n2_; have HO270 := n3_; have HO273 := n4_; have BK234 := n5_; have BK246 := n6_; have BK255 := n7_; have BK265 := n8_; have HB := n9_; clear n0_ n1_ n2_ n3_ n4_ n5_ n6_ n7_ n8_ n9_; clear hb ho73))
                      (try simp only [add_plain])
                      go_loopg [15] k2 (fun kq v15 w' => ∃ (x14_3 : List Bool) (x15_3 : Int), v15 = .int .i64 x15_3 ∧ Aside0 (shutterlaw10_GridKeeps.l1 kq t268 x14_3 x15_3 a0_0 a0_1 l0_2 a0_3 a0_4 a0_5 t238 t239 x247002_2 t243 t244 t245 = some r) ∧ Aside0 (kq ≤ k2) ∧ Aside0 (Kd.R (Kd.int .i64) 3 w' w.heap.size (fun _ => True) v269 t268) ∧ Aside0 (Kd.R Kd.bool 4 w' w.heap.size (fun _ => True) v272 x14_3) ∧ Aside0 (Kd.R k44 44 w' w.heap.size (fun k_ => some k_ ≠ ((.slice Ao66 x256002_2.length co66) : Value).ownBlock ∧ some k_ ≠ (u266002 : Value).ownBlock) u247002 x247002_2) ∧ Aside0 (Kd.R k44 44 w' w.heap.size (fun k_ => some k_ ≠ (u247002 : Value).ownBlock ∧ some k_ ≠ (u266002 : Value).ownBlock) (.slice Ao66 x256002_2.length co66) x256002_2) ∧ Aside0 (Kd.R k44 44 w' w.heap.size (fun k_ => some k_ ≠ (u247002 : Value).ownBlock ∧ some k_ ≠ ((.slice Ao66 x256002_2.length co66) : Value).ownBlock) u266002 x266002_2) ∧ Aside0 (w'.heap[gb234]? = some (.cells #[.int .i64 a0_0, .int .i64 a0_1, (.slice A0_2 l0_2.length c0_2), .int .i64 a0_3, .bool a0_4, .bool a0_5] 24 (0, 0))) ∧ Aside0 (w'.heap[gb246]? = some (.cells #[.int .i64 t238, .int .i64 t239, u247002, .int .i64 t243, .bool t244, .bool t245] 24 (0, 0))) ∧ Aside0 (w'.heap[gb255]? = some (.cells #[.int .i64 t247, .int .i64 t248, (.slice Ao66 x256002_2.length co66), .int .i64 t252, .bool t253, .bool t254] 24 (0, 0))) ∧ Aside0 (w'.heap[gb265]? = some (.cells #[.int .i64 t256, .int .i64 t257, u266002, .int .i64 t261, .bool t262, .bool t263] 24 (0, 0))) ∧ Aside0 (Below w.heap.size w w'))
                      case atStart => exact ⟨(y271), (0), (by first | rfl | (simp; done) | (simp [*]; done)), H', ⟨Nat.le_refl _⟩, ⟨by (with_reducible repeat (first | apply Kd.R_alloc | apply Kd.R_drewN | apply Kd.R_drew)); exact HO270.out⟩, ⟨by (with_reducible repeat (first | apply Kd.R_alloc | apply Kd.R_drewN | apply Kd.R_drew)); exact HO273.out⟩, ⟨by (with_reducible repeat (first | apply Kd.R_alloc | apply Kd.R_drewN | apply Kd.R_drew)); exact HO_247002.out⟩, ⟨by (with_reducible repeat (first | apply Kd.R_alloc | apply Kd.R_drewN | apply Kd.R_drew)); exact HO_256002.out⟩, ⟨by (with_reducible repeat (first | apply Kd.R_alloc | apply Kd.R_drewN | apply Kd.R_drew)); exact HO_266002.out⟩, ⟨by (with_reducible repeat (first | refine blk_drewN ?_ _ | refine blk_drew ?_ | refine blk_alloc ?_ _)); exact BK234.out⟩, ⟨by (with_reducible repeat (first | refine blk_drewN ?_ _ | refine blk_drew ?_ | refine blk_alloc ?_ _)); exact BK246.out⟩, ⟨by (with_reducible repeat (first | refine blk_drewN ?_ _ | refine blk_drew ?_ | refine blk_alloc ?_ _)); exact BK255.out⟩, ⟨by (with_reducible repeat (first | refine blk_drewN ?_ _ | refine blk_drew ?_ | refine blk_alloc ?_ _)); exact BK265.out⟩, ⟨by repeat (first | (with_reducible first | exact HB.out | apply below_alloc | apply pw_below_drewN | apply below_drew1 | refine below_set ?_ GE234.out | refine below_set ?_ GE246.out | refine below_set ?_ GE255.out | refine below_set ?_ GE265.out) | exact HB.out)⟩⟩
                      case round =>
                        clear H'
                        try clear c1
                        try clear c2
                        try clear p2
                        try clear c3
                        try clear c4
                        try clear p4
                        try clear q4
                        try clear hx4
                        try clear hf4
                        try clear c5
                        try clear hx5
                        try clear hf5
                        try clear c6
                        try clear p6
                        try clear c7
                        try clear c9
                        try clear c13
                        try clear c14
                        try clear c15
                        try clear c17
                        try clear c17b0
                        try clear c17b1
                        try clear c17b2
                        try clear c23
                        try clear c29
                        try clear c30
                        try clear c36
                        try clear c37
                        try clear c38
                        try clear c41
                        try clear c41b0
                        try clear c42
                        try clear c42b0
                        try clear c43
                        try clear p43
                        try clear q43
                        try clear hx43
                        try clear hf43
                        try clear c44
                        try clear c44b0
                        try clear c45
                        try clear p45
                        try clear q45
                        try clear hx45
                        try clear hf45
                        try clear c46
                        try clear c47
                        try clear c48
                        try clear c51
                        try clear hx51
                        try clear hf51
                        try clear c53
                        try clear c54
                        try clear c56
                        try clear hx56
                        try clear hf56
                        try clear c58
                        try clear c58b0
                        try clear c58b1
                        try clear c58b2
                        try clear c60
                        try clear c60b0
                        try clear c60b1
                        try clear c61
                        try clear c61b0
                        try clear c61b1
                        try clear c62
                        try clear c63
                        try clear c64
                        try clear p64
                        try clear c69
                        try clear c70
                        try clear hcz10_0
                        try clear hcz10_1
                        try clear hcz10_2
                        try clear hcz10_3
                        try clear hcz10_4
                        try clear hcz10_5
                        try clear hcz20_0
                        try clear hcz20_1
                        try clear hcz20_2
                        try clear hcz20_3
                        try clear hcz20_4
                        try clear hcz20_5
                        try clear hcz24_0
                        try clear hcz24_1
                        try clear hcz24_2
                        try clear hcz24_3
                        try clear hcz24_4
                        try clear hcz24_5
                        try clear hcz26_0
                        try clear hcz26_1
                        try clear hcz26_2
                        try clear hcz26_3
                        try clear hcz26_4
                        try clear hcz26_5
                        try clear hcz31_0
                        try clear hcz31_1
                        try clear hcz31_2
                        try clear hcz31_3
                        try clear hcz31_4
                        try clear hcz31_5
                        try clear hcz33_0
                        try clear hcz33_1
                        try clear hcz33_2
                        try clear hcz33_3
                        try clear hcz33_4
                        try clear hcz33_5
                        try clear hcz39_0
                        try clear hcz39_1
                        try clear hcz39_2
                        try clear hcz39_3
                        try clear hcz39_4
                        try clear hcz39_5
                        try clear hcz49_0
                        try clear hcz49_1
                        try clear hcz49_2
                        try clear hcz49_3
                        try clear hcz49_4
                        try clear hcz49_5
                        try clear hcz55_0
                        try clear hcz55_1
                        try clear hcz55_2
                        try clear hcz55_3
                        try clear hcz55_4
                        try clear hcz55_5
                        try clear hcz65_0
                        try clear hcz65_1
                        try clear hcz65_2
                        try clear hcz65_3
                        try clear hcz65_4
                        try clear hcz65_5
                        try clear hcz71_0
                        try clear hcz71_1
                        try clear hcz71_2
                        try clear hcz71_3
                        try clear hcz71_4
                        try clear hcz71_5
                        try clear hfz10_0
                        try clear hfz10_1
                        try clear hfz10_2
                        try clear hfz10_3
                        try clear hfz10_4
                        try clear hfz10_5
                        try clear hfz20_0
                        try clear hfz20_1
                        try clear hfz20_2
                        try clear hfz20_3
                        try clear hfz20_4
                        try clear hfz20_5
                        try clear hfz24_0
                        try clear hfz24_1
                        try clear hfz24_2
                        try clear hfz24_3
                        try clear hfz24_4
                        try clear hfz24_5
                        try clear hfz26_0
                        try clear hfz26_1
                        try clear hfz26_2
                        try clear hfz26_3
                        try clear hfz26_4
                        try clear hfz26_5
                        try clear hfz31_0
                        try clear hfz31_1
                        try clear hfz31_2
                        try clear hfz31_3
                        try clear hfz31_4
                        try clear hfz31_5
                        try clear hfz33_0
                        try clear hfz33_1
                        try clear hfz33_2
                        try clear hfz33_3
                        try clear hfz33_4
                        try clear hfz33_5
                        try clear hfz39_0
                        try clear hfz39_1
                        try clear hfz39_2
                        try clear hfz39_3
                        try clear hfz39_4
                        try clear hfz39_5
                        try clear hfz49_0
                        try clear hfz49_1
                        try clear hfz49_2
                        try clear hfz49_3
                        try clear hfz49_4
                        try clear hfz49_5
                        try clear hfz55_0
                        try clear hfz55_1
                        try clear hfz55_2
                        try clear hfz55_3
                        try clear hfz55_4
                        try clear hfz55_5
                        try clear hfz65_0
                        try clear hfz65_1
                        try clear hfz65_2
                        try clear hfz65_3
                        try clear hfz65_4
                        try clear hfz65_5
                        try clear hfz71_0
                        try clear hfz71_1
                        try clear hfz71_2
                        try clear hfz71_3
                        try clear hfz71_4
                        try clear hfz71_5
                        try clear hx43_0
                        try clear hx43_1
                        try clear hx43_2
                        try clear hx43_3
                        try clear hx43_4
                        try clear hx43_5
                        try clear hx45_0
                        try clear hx45_1
                        try clear hx45_2
                        try clear hx45_3
                        try clear hx45_4
                        try clear hx45_5
                        try clear hx51_5
                        try clear hx56_5
                        try clear p2
                        try clear p43
                        try clear p45
                        try clear p6
                        try clear q43
                        try clear q45
                        obtain ⟨x14_3, x15_3, rfl, HA, HK3, HO_13, HO_14, HO_247002, HO_256002, HO_266002, BK234, BK246, BK255, BK265, HB⟩ := hrel
                        cases gk with
                        | zero => exact absurd HA.out (by simp [shutterlaw10_GridKeeps.l1])
                        | succ k3 =>
                          have H := HA.out
                          clear HA
                          simp only [shutterlaw10_GridKeeps.l1] at H
                          by_cases c74 : x15_3 < (t268.length : Int)
                          · rw [if_pos c74] at H
                            have c74b0 : decide (x15_3 < (t268.length : Int)) = true := decide_eq_true c74
                            clear c74
                            by_cases c75 : 0 ≤ x15_3
                            · rw [if_pos c75] at H
                              have c75b0 : decide (0 ≤ x15_3) = true := decide_eq_true c75
                              clear c75
                              by_cases c76 : 0 ≤ (rd t268 x15_3)
                              · rw [if_pos c76] at H
                                have c76b0 : decide (0 ≤ (rd t268 x15_3)) = true := decide_eq_true c76
                                clear c76
                                by_cases c77 : (rd t268 x15_3) < (x14_3.length : Int)
                                · rw [if_pos c77] at H
                                  have c77b0 : decide ((rd t268 x15_3) < (x14_3.length : Int)) = true := decide_eq_true c77
                                  clear c77
                                  obtain ⟨bq78, hbq78⟩ : ∃ b_ : Bool, b_ = (rdOf false x14_3 (rd t268 x15_3)) := ⟨_, rfl⟩
                                  replace H : (if bq78 = true then (some false) else (shutterlaw10_GridKeeps.l1 k3 t268 (x14_3.set ((rd t268 x15_3) : Int).toNat true) (wrap64 (x15_3 + 1)) a0_0 a0_1 l0_2 a0_3 a0_4 a0_5 t238 t239 x247002_2 t243 t244 t245)) = some r := by rw [← hbq78] at H; exact H
                                  have Nbq78 := Aside0.mk hbq78
                                  clear hbq78
                                  by_cases c79 : bq78 = true
                                  · subst c79
                                    have H1 : (some false) = some r := by rw [if_pos rfl] at H; exact H
                                    clear H
                                    have H := H1
                                    clear H1
                                    obtain rfl := Option.some.inj H
                                    obtain ⟨Ao80, co80, eo80⟩ := Kd.R_slice HO_13.out
                                    subst eo80
                                    have p274 : 0 ≤ (x15_3 : Int) := of_decide_eq_true (by first | (with_reducible assumption) | assumption)
                                    have q274 : x15_3 < (t268.length : Int) := of_decide_eq_true (by first | (with_reducible assumption) | assumption)
                                    obtain ⟨ad274, e274, hx274_0⟩ := Kd.at_int (Kd.R_reads' HO_13.out).2.2 x15_3 p274 q274
                                    cases e274
                                    replace p274 := eq_true p274
                                    replace q274 := eq_true q274
                                    obtain ⟨Ao81, co81, eo81⟩ := Kd.R_slice HO_14.out
                                    subst eo81
                                    have p275 : 0 ≤ ((rd t268 x15_3) : Int) := of_decide_eq_true (by first | (with_reducible assumption) | assumption)
                                    have q275 : (rd t268 x15_3) < (x14_3.length : Int) := of_decide_eq_true (by first | (with_reducible assumption) | assumption)
                                    obtain ⟨ad275, e275, hx275_0⟩ := Kd.at_bool (Kd.R_reads' HO_14.out).2.2 (rd t268 x15_3) p275 q275
                                    (try rw [← Nbq78.out] at hx275_0)
                                    cases e275
                                    replace p275 := eq_true p275
                                    replace q275 := eq_true q275
                                    go_wp2
                                    go_ret
                                    exact ⟨by first | rfl | (simp [errW_none, errW_some] <;> rfl) | (simp [*, errW_none, errW_some] <;> rfl), by repeat (first | (with_reducible first | exact HB.out | apply below_alloc | apply pw_below_drewN | apply below_drew1 | refine below_set ?_ GE234.out | refine below_set ?_ GE246.out | refine below_set ?_ GE255.out | refine below_set ?_ GE265.out) | exact HB.out)⟩
                                  · replace c79 := Bool.eq_false_iff.mpr c79
                                    subst c79
                                    have H1 : (shutterlaw10_GridKeeps.l1 k3 t268 (x14_3.set ((rd t268 x15_3) : Int).toNat true) (wrap64 (x15_3 + 1)) a0_0 a0_1 l0_2 a0_3 a0_4 a0_5 t238 t239 x247002_2 t243 t244 t245) = some r := by rw [if_neg (show ¬ (false = true) by decide)] at H; exact H
                                    clear H
                                    have H := H1
                                    clear H1
                                    obtain ⟨y277, hy277⟩ : ∃ y_ : List Bool, y_ = (x14_3.set ((rd t268 x15_3) : Int).toNat true) := ⟨_, rfl⟩
                                    replace H : (shutterlaw10_GridKeeps.l1 k3 t268 y277 (wrap64 (x15_3 + 1)) a0_0 a0_1 l0_2 a0_3 a0_4 a0_5 t238 t239 x247002_2 t243 t244 t245) = some r := by first | (rw [hy277]; with_reducible exact H) | (have H2_ := (Option.bind_some _ _).symm.trans H; rw [hy277]; with_reducible exact H2_) | (have H2_ := (Option.bind_some _ _).symm.trans H; with_reducible exact H2_) | with_reducible exact H | (rw [hy277]; exact H) | exact H
                                    have Ny277 := Aside0.mk hy277
                                    clear hy277
                                    have H' := Aside0.mk H
                                    clear H
                                    obtain ⟨Ao83, co83, eo83⟩ := Kd.R_slice HO_13.out
                                    subst eo83
                                    have p274 : 0 ≤ (x15_3 : Int) := of_decide_eq_true (by first | (with_reducible assumption) | assumption)
                                    have q274 : x15_3 < (t268.length : Int) := of_decide_eq_true (by first | (with_reducible assumption) | assumption)
                                    obtain ⟨ad274, e274, hx274_0⟩ := Kd.at_int (Kd.R_reads' HO_13.out).2.2 x15_3 p274 q274
                                    cases e274
                                    replace p274 := eq_true p274
                                    replace q274 := eq_true q274
                                    obtain ⟨Ao84, co84, eo84⟩ := Kd.R_slice HO_14.out
                                    subst eo84
                                    have p275 : 0 ≤ ((rd t268 x15_3) : Int) := of_decide_eq_true (by first | (with_reducible assumption) | assumption)
                                    have q275 : (rd t268 x15_3) < (x14_3.length : Int) := of_decide_eq_true (by first | (with_reducible assumption) | assumption)
                                    obtain ⟨ad275, e275, hx275_0⟩ := Kd.at_bool (Kd.R_reads' HO_14.out).2.2 (rd t268 x15_3) p275 q275
                                    (try rw [← Nbq78.out] at hx275_0)
                                    cases e275
                                    replace p275 := eq_true p275
                                    replace q275 := eq_true q275
                                    have p276 : 0 ≤ (x15_3 : Int) := of_decide_eq_true (by first | (with_reducible assumption) | assumption)
                                    have q276 : x15_3 < (t268.length : Int) := of_decide_eq_true (by first | (with_reducible assumption) | assumption)
                                    obtain ⟨ad276, e276, hx276_0⟩ := Kd.at_int (Kd.R_reads' HO_13.out).2.2 x15_3 p276 q276
                                    obtain rfl : ad274 = ad276 := (by injection e276)
                                    replace p276 := eq_true p276
                                    replace q276 := eq_true q276
                                    have p82 : 0 ≤ ((rd t268 x15_3) : Int) := of_decide_eq_true (by first | (with_reducible assumption) | assumption)
                                    have q82 : ((rd t268 x15_3) : Int) < ((x14_3.length : Int) : Int) := of_decide_eq_true (by first | (with_reducible assumption) | assumption)
                                    obtain ⟨go82, co82, eo82, gb82, gl82, cl82, HG82⟩ := Kd.R_form HO_14.out (by omega)
                                    (first | cases eo82 | (injection eo82 with ea_ en_ ec_; (first | subst ea_ | (injection ea_ with ea_; subst ea_)); subst ec_; clear en_))
                                    have GB82 := Aside0.mk gb82
                                    have GG82 := Aside0.mk HG82
                                    clear gb82 gl82 HG82
                                    (first | simp only [add_plain] at hx275_0 | skip)
                                    obtain ⟨hx82_0, hf82_0⟩ := Kd.R_celln false HO_14.out ((rd t268 x15_3) : Int) p82 q82
                                    replace p82 := eq_true p82
                                    replace q82 := eq_true q82
                                    have HP85 := Kd.R_putg HO_14.out ((rd t268 x15_3) : Int) true
                                    go_wp2_with (first | ((with_reducible refine gate_store (t := 4) (p := 89) rfl ?_); refine store_event (t := 4) (p := 89) (v := ?vo_w86) (w1 := (wr.setCell ⟨go82, ((rd t268 x15_3) : Int).toNat, none⟩ (.bool true))) ?hg ?ho ?hn ?hr ?_; (case ho => rfl); (case hg => rfl); (case hn => rfl); (case hr => first | (go_simp; done) | (go_simp; rfl)); intro w86 hw; have hg : wr.grownBy w86 (some go82) := (by rw [hw]; exact HP85.2); have hp_ : Kd.R Kd.bool 4 w86 w.heap.size (fun _ => True) (.slice (some ⟨go82, 0, none⟩) x14_3.length co84) y277 := (by rw [hw, Ny277.out]; exact HP85.1); clear HP85; have n0_ := Aside0.mk (Kd.R_over' (v := (.slice (some ⟨go82, 0, none⟩) x14_3.length co84)) (by (with_reducible repeat (first | apply Kd.R_alloc | apply Kd.R_drewN | apply Kd.R_drew)); exact HO_13.out) (Kd.R_typed HO_14.out) (by decide) hg); have n1_ := Aside0.mk (hp_); have n2_ := Aside0.mk (Kd.R_over' (v := (.slice (some ⟨go82, 0, none⟩) x14_3.length co84)) (by (with_reducible repeat (first | apply Kd.R_alloc | apply Kd.R_drewN | apply Kd.R_drew)); exact HO_247002.out) (Kd.R_typed HO_14.out) (by decide) hg); have n3_ := Aside0.mk (Kd.R_over' (v := (.slice (some ⟨go82, 0, none⟩) x14_3.length co84)) (by (with_reducible repeat (first | apply Kd.R_alloc | apply Kd.R_drewN | apply Kd.R_drew)); exact HO_256002.out) (Kd.R_typed HO_14.out) (by decide) hg); have n4_ := Aside0.mk (Kd.R_over' (v := (.slice (some ⟨go82, 0, none⟩) x14_3.length co84)) (by (with_reducible repeat (first | apply Kd.R_alloc | apply Kd.R_drewN | apply Kd.R_drew)); exact HO_266002.out) (Kd.R_typed HO_14.out) (by decide) hg); have n5_ := Aside0.mk (blk_grown (g := gb234) (o := .cells #[.int .i64 a0_0, .int .i64 a0_1, .slice A0_2 l0_2.length c0_2, .int .i64 a0_3, .bool a0_4, .bool a0_5] 24 (0, 0)) (by (with_reducible repeat (first | refine blk_drewN ?_ _ | refine blk_drew ?_ | refine blk_alloc ?_ _)); exact BK234.out) hg (Kd.R_ne HO_14.out BK234.out (by decide))); have n6_ := Aside0.mk (blk_grown (g := gb246) (o := .cells #[.int .i64 t238, .int .i64 t239, u247002, .int .i64 t243, .bool t244, .bool t245] 24 (0, 0)) (by (with_reducible repeat (first | refine blk_drewN ?_ _ | refine blk_drew ?_ | refine blk_alloc ?_ _)); exact BK246.out) hg (Kd.R_ne HO_14.out BK246.out (by decide))); have n7_ := Aside0.mk (blk_grown (g := gb255) (o := .cells #[.int .i64 t247, .int .i64 t248, .slice Ao66 x256002_2.length co66, .int .i64 t252, .bool t253, .bool t254] 24 (0, 0)) (by (with_reducible repeat (first | refine blk_drewN ?_ _ | refine blk_drew ?_ | refine blk_alloc ?_ _)); exact BK255.out) hg (Kd.R_ne HO_14.out BK255.out (by decide))); have n8_ := Aside0.mk (blk_grown (g := gb265) (o := .cells #[.int .i64 t256, .int .i64 t257, u266002, .int .i64 t261, .bool t262, .bool t263] 24 (0, 0)) (by (with_reducible repeat (first | refine blk_drewN ?_ _ | refine blk_drew ?_ | refine blk_alloc ?_ _)); exact BK265.out) hg (Kd.R_ne HO_14.out BK265.out (by decide))); have n9_ := Aside0.mk ((by rw [hw]; exact below_set (HB.out) GB82.out : Below w.heap.size w w86)); clear HO_13; clear HO_14; clear HO_247002; clear HO_256002; clear HO_266002; clear BK234; clear BK246; clear BK255; clear BK265; clear HB; have HO_13 := n0_; have HO_14 := n1_; have HO_247002 := n2_; have HO_256002 := n3_; have HO_266002 := n4_; have BK234 := n5_; have BK246 := n6_; have BK255 := n7_; have BK265 := n8_; have HB := n9_; clear n0_ n1_ n2_ n3_ n4_ n5_ n6_ n7_ n8_ n9_; clear hg hw hp_))
                                    (try simp only [add_plain])
                                    go_roundg k3
                                    case measure => have := HJ3.out; have := HK2.out; have := HK3.out; omega
                                    case rel => exact ⟨(y277), (wrap64 (x15_3 + 1)), (by first | rfl | (simp; done) | (simp [*]; done)), H', ⟨by have := HJ3.out; have := HK2.out; have := HK3.out; omega⟩, ⟨by (with_reducible repeat (first | apply Kd.R_alloc | apply Kd.R_drewN | apply Kd.R_drew)); exact HO_13.out⟩, ⟨by (with_reducible repeat (first | apply Kd.R_alloc | apply Kd.R_drewN | apply Kd.R_drew)); exact HO_14.out⟩, ⟨by (with_reducible repeat (first | apply Kd.R_alloc | apply Kd.R_drewN | apply Kd.R_drew)); exact HO_247002.out⟩, ⟨by (with_reducible repeat (first | apply Kd.R_alloc | apply Kd.R_drewN | apply Kd.R_drew)); exact HO_256002.out⟩, ⟨by (with_reducible repeat (first | apply Kd.R_alloc | apply Kd.R_drewN | apply Kd.R_drew)); exact HO_266002.out⟩, ⟨by (with_reducible repeat (first | refine blk_drewN ?_ _ | refine blk_drew ?_ | refine blk_alloc ?_ _)); exact BK234.out⟩, ⟨by (with_reducible repeat (first | refine blk_drewN ?_ _ | refine blk_drew ?_ | refine blk_alloc ?_ _)); exact BK246.out⟩, ⟨by (with_reducible repeat (first | refine blk_drewN ?_ _ | refine blk_drew ?_ | refine blk_alloc ?_ _)); exact BK255.out⟩, ⟨by (with_reducible repeat (first | refine blk_drewN ?_ _ | refine blk_drew ?_ | refine blk_alloc ?_ _)); exact BK265.out⟩, ⟨by repeat (first | (with_reducible first | exact HB.out | apply below_alloc | apply pw_below_drewN | apply below_drew1 | refine below_set ?_ GE234.out | refine below_set ?_ GE246.out | refine below_set ?_ GE255.out | refine below_set ?_ GE265.out) | exact HB.out)⟩⟩
                                · rw [if_neg c77] at H
                                  exact absurd H (by simp)
                              · rw [if_neg c76] at H
                                exact absurd H (by simp)
                            · rw [if_neg c75] at H
                              exact absurd H (by simp)
                          · rw [if_neg c74] at H
                            have c74b0 : decide (x15_3 < (t268.length : Int)) = false := decide_eq_false c74
                            clear c74
                            replace H := Option.bind_eq_some_iff.mp H
                            obtain ⟨t278, A870, H⟩ := H
                            replace H : (some t278) = some r := H
                            have A87 := Aside0.mk A870
                            clear A870
                            obtain rfl := Option.some.inj H
                            obtain ⟨Ao88, co88, eo88⟩ := Kd.R_slice HO_13.out
                            subst eo88
                            have hnb89 := NB234_246.out
                            have hnc89 := NB246_234.out
                            have hnb90 := NB234_255.out
                            have hnc90 := NB255_234.out
                            have hnb91 := NB234_265.out
                            have hnc91 := NB265_234.out
                            have hcz92_0 : wr.cell? ⟨gb234, 0, none⟩ = some (.int .i64 a0_0) := (blk_cell BK234.out 0).trans rfl
                            have hcz92_1 : wr.cell? ⟨gb234, 1, none⟩ = some (.int .i64 a0_1) := (blk_cell BK234.out 1).trans rfl
                            have hcz92_2 : wr.cell? ⟨gb234, 2, none⟩ = some (.slice A0_2 l0_2.length c0_2) := (blk_cell BK234.out 2).trans rfl
                            have hcz92_3 : wr.cell? ⟨gb234, 3, none⟩ = some (.int .i64 a0_3) := (blk_cell BK234.out 3).trans rfl
                            have hcz92_4 : wr.cell? ⟨gb234, 4, none⟩ = some (.bool a0_4) := (blk_cell BK234.out 4).trans rfl
                            have hcz92_5 : wr.cell? ⟨gb234, 5, none⟩ = some (.bool a0_5) := (blk_cell BK234.out 5).trans rfl
                            have hfz92_0 := blk_frozen BK234.out 0
                            have hfz92_1 := blk_frozen BK234.out 1
                            have hfz92_2 := blk_frozen BK234.out 2
                            have hfz92_3 := blk_frozen BK234.out 3
                            have hfz92_4 := blk_frozen BK234.out 4
                            have hfz92_5 := blk_frozen BK234.out 5
                            have hnb93 := NB246_255.out
                            have hnc93 := NB255_246.out
                            have hnb94 := NB246_265.out
                            have hnc94 := NB265_246.out
                            have hcz95_0 : wr.cell? ⟨gb246, 0, none⟩ = some (.int .i64 t238) := (blk_cell BK246.out 0).trans rfl
                            have hcz95_1 : wr.cell? ⟨gb246, 1, none⟩ = some (.int .i64 t239) := (blk_cell BK246.out 1).trans rfl
                            have hcz95_2 : wr.cell? ⟨gb246, 2, none⟩ = some (u247002) := (blk_cell BK246.out 2).trans rfl
                            have hcz95_3 : wr.cell? ⟨gb246, 3, none⟩ = some (.int .i64 t243) := (blk_cell BK246.out 3).trans rfl
                            have hcz95_4 : wr.cell? ⟨gb246, 4, none⟩ = some (.bool t244) := (blk_cell BK246.out 4).trans rfl
                            have hcz95_5 : wr.cell? ⟨gb246, 5, none⟩ = some (.bool t245) := (blk_cell BK246.out 5).trans rfl
                            have hfz95_0 := blk_frozen BK246.out 0
                            have hfz95_1 := blk_frozen BK246.out 1
                            have hfz95_2 := blk_frozen BK246.out 2
                            have hfz95_3 := blk_frozen BK246.out 3
                            have hfz95_4 := blk_frozen BK246.out 4
                            have hfz95_5 := blk_frozen BK246.out 5
                            obtain ⟨Ao96, co96, eo96⟩ := Kd.R_slice HO_247002.out
                            subst eo96
                            go_wp2_with (first | ((with_reducible refine gate_callee (f := 16) rfl ?_); refine goesL_ (some 92) rfl rfl Try.func16 (by kernel_rfl) rfl #[.agg #[.int .i64 a0_0, .int .i64 a0_1, .slice A0_2 l0_2.length c0_2, .int .i64 a0_3, .bool a0_4, .bool a0_5], .agg #[.int .i64 t238, .int .i64 t239, .slice Ao96 x247002_2.length co96, .int .i64 t243, .bool t244, .bool t245]] rfl (by (try simp only [List.map_toArray, List.map_cons, List.map_nil]); first | done | rfl | (simp only [List.length_drop, List.length_take]; rfl)) ?_; (with_reducible refine (shutterref10_Same.calls k3 a0_0 a0_1 _ _ l0_2 a0_3 a0_4 a0_5 t238 t239 _ _ x247002_2 t243 t244 t245 t278 _ ?side1 ?side2 ?side3 ?side4 A87.out).mono ?_); (case side1 => repeat (first | exact (Kd.C_below HR0_2.out HB.out) | (with_reducible refine Kd.C_alloc ?_ _) | (with_reducible refine Kd.C_drewN ?_ _) | (with_reducible refine Kd.C_drew ?_))); (case side2 => exact HC0_2.out); (case side3 => repeat (first | exact (Kd.R_reads' HO_247002.out).2.2 | (with_reducible refine Kd.C_alloc ?_ _) | (with_reducible refine Kd.C_drewN ?_ _) | (with_reducible refine Kd.C_drew ?_))); (case side4 => exact (Kd.R_reads' HO_247002.out).2.1); rintro e w97 ⟨rfl, hb⟩; refine ⟨_, rfl, ?_⟩; have n0_ := Aside0.mk (Kd.R_below (by (with_reducible repeat (first | apply Kd.R_alloc | apply Kd.R_drewN | apply Kd.R_drew)); exact HO_13.out) hb); have n1_ := Aside0.mk (Kd.R_below (by (with_reducible repeat (first | apply Kd.R_alloc | apply Kd.R_drewN | apply Kd.R_drew)); exact HO_14.out) hb); have n2_ := Aside0.mk (Kd.R_below (by (with_reducible repeat (first | apply Kd.R_alloc | apply Kd.R_drewN | apply Kd.R_drew)); exact HO_247002.out) hb); have n3_ := Aside0.mk (Kd.R_below (by (with_reducible repeat (first | apply Kd.R_alloc | apply Kd.R_drewN | apply Kd.R_drew)); exact HO_256002.out) hb); have n4_ := Aside0.mk (Kd.R_below (by (with_reducible repeat (first | apply Kd.R_alloc | apply Kd.R_drewN | apply Kd.R_drew)); exact HO_266002.out) hb); have n5_ := Aside0.mk (blk_below (g := gb234) (o := .cells #[.int .i64 a0_0, .int .i64 a0_1, .slice A0_2 l0_2.length c0_2, .int .i64 a0_3, .bool a0_4, .bool a0_5] 24 (0, 0)) (by (with_reducible repeat (first | refine blk_drewN ?_ _ | refine blk_drew ?_ | refine blk_alloc ?_ _)); exact BK234.out) hb); have n6_ := Aside0.mk (blk_below (g := gb246) (o := .cells #[.int .i64 t238, .int .i64 t239, .slice Ao96 x247002_2.length co96, .int .i64 t243, .bool t244, .bool t245] 24 (0, 0)) (by (with_reducible repeat (first | refine blk_drewN ?_ _ | refine blk_drew ?_ | refine blk_alloc ?_ _)); exact BK246.out) hb); have n7_ := Aside0.mk (blk_below (g := gb255) (o := .cells #[.int .i64 t247, .int .i64 t248, .slice Ao66 x256002_2.length co66, .int .i64 t252, .bool t253, .bool t254] 24 (0, 0)) (by (with_reducible repeat (first | refine blk_drewN ?_ _ | refine blk_drew ?_ | refine blk_alloc ?_ _)); exact BK255.out) hb); have n8_ := Aside0.mk (blk_below (g := gb265) (o := .cells #[.int .i64 t256, .int .i64 t257, u266002, .int .i64 t261, .bool t262, .bool t263] 24 (0, 0)) (by (with_reducible repeat (first | refine blk_drewN ?_ _ | refine blk_drew ?_ | refine blk_alloc ?_ _)); exact BK265.out) hb); have n9_ := Aside0.mk (below_step (by repeat (first | (with_reducible first | exact HB.out | apply below_alloc | apply pw_below_drewN | apply below_drew1 | refine below_set ?_ GE234.out | refine below_set ?_ GE246.out | refine below_set ?_ GE255.out | refine below_set ?_ GE265.out) | exact HB.out)) hb); clear HO_13; clear HO_14; clear HO_247002; clear HO_256002; clear HO_266002; clear BK234; clear BK246; clear BK255; clear BK265; clear HB; have HO_13 := n0_; have HO_14 := n1_; have HO_247002 := n2_; have HO_256002 := n3_; have HO_266002 := n4_; have BK234 := n5_; have BK246 := n6_; have BK255 := n7_; have BK265 := n8_; have HB := n9_; clear n0_ n1_ n2_ n3_ n4_ n5_ n6_ n7_ n8_ n9_; (try clear hb); (try clear hb2); (try clear hk); (try clear hi)))
                            go_ret
                            exact ⟨by first | rfl | (simp [errW_none, errW_some] <;> rfl) | (simp [*, errW_none, errW_some] <;> rfl), by repeat (first | (with_reducible first | exact HB.out | apply below_alloc | apply pw_below_drewN | apply below_drew1 | refine below_set ?_ GE234.out | refine below_set ?_ GE246.out | refine below_set ?_ GE255.out | refine below_set ?_ GE265.out) | exact HB.out)⟩
                    · rw [if_neg c61] at H
                      exact absurd H (by simp)
                  · rw [if_neg c60] at H
                    exact absurd H (by simp)

end Go.Proofs.Ytabghncbdohciaa.YGridK

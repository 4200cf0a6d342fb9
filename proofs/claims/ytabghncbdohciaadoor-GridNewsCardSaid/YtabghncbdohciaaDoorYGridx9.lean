-- Own text, made by this session out of the translation by wip/tools/xprint.sh: Lean functions with the answers of Go functions, and their walks.
import Derived.Test.YtabghncbdohciaaDoorYGridx0
import Derived.Test.YtabghncbdohciaaDoorYGridx1
import Derived.Test.YtabghncbdohciaaDoorYGridx2
import Derived.Test.YtabghncbdohciaaDoorYGridx3
import Derived.Test.YtabghncbdohciaaDoorYGridx6
import Derived.Test.YtabghncbdohciaaDoorYGridx7
import Derived.Test.YtabghncbdohciaaDoorYGridx8
namespace Go.Proofs.YtabghncbdohciaaDoor.YGrid
open Go.RowKit Go.Proofs.YtabghncbdohciaaDoorW.PrintWords Go.Proofs.YtabghncbdohciaaDoorW.PrintLast Go.Proofs.YtabghncbdohciaaDoorW.PrintMore
attribute [local go_sem] max2_int min2_int max_two min_two max_three min_three max_four min_four   -- for this text's walks alone
set_option linter.unusedVariables false
set_option linter.unusedSimpArgs false

attribute [local go_sem high] eqA34 eqA36
/-! ### shutterlaw10_GridNews: function 3 -/
mutual
def shutterlaw10_GridNews.j0 : Nat → Bool → Int → Int → List (S36) → Int → Bool → Bool → Option (Bool)
  | 0, _, _, _, _, _, _, _ => none
  | k + 1, x63, x215000, x215001, x215002, x215003, x215004, x215005 => if x63 = true then (some false) else (shutterlaw10_GridNews.l0 k 0 x215000 x215001 x215002 x215003 x215004 x215005)
def shutterlaw10_GridNews.l0 : Nat → Int → Int → Int → List (S36) → Int → Bool → Bool → Option (Bool)
  | 0, _, _, _, _, _, _, _ => none
  | k + 1, x7, x215000, x215001, x215002, x215003, x215004, x215005 => if x7 < (x215002.length : Int) then (if 0 ≤ x7 then (if (((rd_T36 x215002 x7).f0) || ((((rd_T36 x215002 x7).f1.f0) || (((rd_T36 x215002 x7).f1.f1) || (!(((rd_T36 x215002 x7).f1.f2) == 0) || (((rd_T36 x215002 x7).f1.f3))))) || (!(((rd_T36 x215002 x7).f2) == 0)))) = true then (some false) else (shutterlaw10_GridNews.l0 k (wrap64 (x7 + 1)) x215000 x215001 x215002 x215003 x215004 x215005)) else (none)) else (some true)
end
def shutterlaw10_GridNews.f (k : Nat) (a0 : Int) (a1 : Int) : Option (Bool) := (grid_New.f a0 a1).bind fun bt205 => ((shutterlaw10_awake.f k).bind fun t215 => (if t215 = true then ((shutterref10_Sized.f a0 a1).bind fun t216 => (if t216 = true then (if bt205.2.2.2.2.2.2.isNone = true then (if bt205.1 = a0 then (if bt205.2.1 = a1 then (if (bt205.2.2.1.length : Int) = (wrap64 (a0 * a1)) then (if bt205.2.2.2.1 = 0 then (if bt205.2.2.2.2.1 = true then (shutterlaw10_GridNews.j0 k true bt205.1 bt205.2.1 bt205.2.2.1 bt205.2.2.2.1 bt205.2.2.2.2.1 bt205.2.2.2.2.2.1) else (shutterlaw10_GridNews.j0 k bt205.2.2.2.2.2.1 bt205.1 bt205.2.1 bt205.2.2.1 bt205.2.2.2.1 bt205.2.2.2.2.1 bt205.2.2.2.2.2.1)) else (shutterlaw10_GridNews.j0 k true bt205.1 bt205.2.1 bt205.2.2.1 bt205.2.2.2.1 bt205.2.2.2.2.1 bt205.2.2.2.2.2.1)) else (shutterlaw10_GridNews.j0 k true bt205.1 bt205.2.1 bt205.2.2.1 bt205.2.2.2.1 bt205.2.2.2.2.1 bt205.2.2.2.2.2.1)) else (shutterlaw10_GridNews.j0 k true bt205.1 bt205.2.1 bt205.2.2.1 bt205.2.2.2.1 bt205.2.2.2.2.1 bt205.2.2.2.2.2.1)) else (shutterlaw10_GridNews.j0 k true bt205.1 bt205.2.1 bt205.2.2.1 bt205.2.2.2.1 bt205.2.2.2.2.1 bt205.2.2.2.2.2.1)) else (shutterlaw10_GridNews.j0 k true bt205.1 bt205.2.1 bt205.2.2.1 bt205.2.2.2.1 bt205.2.2.2.2.1 bt205.2.2.2.2.2.1)) else ((api_Code.f bt205.2.2.2.2.2.2).bind fun t217 => (if t217 = 1 then ((shutterref10_Same.f k bt205.1 bt205.2.1 bt205.2.2.1 bt205.2.2.2.1 bt205.2.2.2.2.1 bt205.2.2.2.2.2.1 0 0 ([] : List (S36)) 0 false false).bind fun t218 => (some t218)) else (some false))))) else (some false)))
theorem shutterlaw10_GridNews.mono_l : ∀ k, (∀ y0 y1 y2 y3 y4 y5 y6, LeO (shutterlaw10_GridNews.j0 k y0 y1 y2 y3 y4 y5 y6) (shutterlaw10_GridNews.j0 (k + 1) y0 y1 y2 y3 y4 y5 y6)) ∧ (∀ y0 y1 y2 y3 y4 y5 y6, LeO (shutterlaw10_GridNews.l0 k y0 y1 y2 y3 y4 y5 y6) (shutterlaw10_GridNews.l0 (k + 1) y0 y1 y2 y3 y4 y5 y6))
  | 0 => ⟨fun _ _ _ _ _ _ _ r h => by simp [shutterlaw10_GridNews.j0] at h, fun _ _ _ _ _ _ _ r h => by simp [shutterlaw10_GridNews.l0] at h⟩
  | k + 1 => by
    obtain ⟨ih0, ih1⟩ := shutterlaw10_GridNews.mono_l k
    refine ⟨?_, ?_⟩
    · intro y0 y1 y2 y3 y4 y5 y6
      unfold shutterlaw10_GridNews.j0
      repeat' first
      | (with_reducible exact ih0 _ _ _ _ _ _ _)
      | (with_reducible exact ih1 _ _ _ _ _ _ _)
      | (with_reducible exact shutterlaw10_awake.mono _)
      | (with_reducible exact shutterref10_Same.mono _ _ _ _ _ _ _ _ _ _ _ _ _)
      | (with_reducible exact LeO.refl _)
      | (with_reducible exact LeO.none _)
      | (with_reducible refine LeO.ite ?_ ?_)
      | (with_reducible refine LeO.bind ?_ (fun _ => ?_))
      | exact ih0 _ _ _ _ _ _ _
      | exact ih1 _ _ _ _ _ _ _
      | exact shutterlaw10_awake.mono _
      | exact shutterref10_Same.mono _ _ _ _ _ _ _ _ _ _ _ _ _
      | exact LeO.none _
      | refine LeO.ite ?_ ?_
      | refine LeO.bind ?_ (fun _ => ?_)
    · intro y0 y1 y2 y3 y4 y5 y6
      unfold shutterlaw10_GridNews.l0
      repeat' first
      | (with_reducible exact ih0 _ _ _ _ _ _ _)
      | (with_reducible exact ih1 _ _ _ _ _ _ _)
      | (with_reducible exact shutterlaw10_awake.mono _)
      | (with_reducible exact shutterref10_Same.mono _ _ _ _ _ _ _ _ _ _ _ _ _)
      | (with_reducible exact LeO.refl _)
      | (with_reducible exact LeO.none _)
      | (with_reducible refine LeO.ite ?_ ?_)
      | (with_reducible refine LeO.bind ?_ (fun _ => ?_))
      | exact ih0 _ _ _ _ _ _ _
      | exact ih1 _ _ _ _ _ _ _
      | exact shutterlaw10_awake.mono _
      | exact shutterref10_Same.mono _ _ _ _ _ _ _ _ _ _ _ _ _
      | exact LeO.none _
      | refine LeO.ite ?_ ?_
      | refine LeO.bind ?_ (fun _ => ?_)
theorem shutterlaw10_GridNews.mono : ∀ a0 a1 k, LeO (shutterlaw10_GridNews.f k a0 a1) (shutterlaw10_GridNews.f (k + 1) a0 a1) := by
  intro a0 a1 k
  obtain ⟨ih0, ih1⟩ := shutterlaw10_GridNews.mono_l k
  unfold shutterlaw10_GridNews.f
  repeat' first
      | (with_reducible exact ih0 _ _ _ _ _ _ _)
      | (with_reducible exact ih1 _ _ _ _ _ _ _)
      | (with_reducible exact shutterlaw10_awake.mono _)
      | (with_reducible exact shutterref10_Same.mono _ _ _ _ _ _ _ _ _ _ _ _ _)
      | (with_reducible exact LeO.refl _)
      | (with_reducible exact LeO.none _)
      | (with_reducible refine LeO.ite ?_ ?_)
      | (with_reducible refine LeO.bind ?_ (fun _ => ?_))
      | exact ih0 _ _ _ _ _ _ _
      | exact ih1 _ _ _ _ _ _ _
      | exact shutterlaw10_awake.mono _
      | exact shutterref10_Same.mono _ _ _ _ _ _ _ _ _ _ _ _ _
      | exact LeO.none _
      | refine LeO.ite ?_ ?_
      | refine LeO.bind ?_ (fun _ => ?_)
set_option maxHeartbeats 8000000 in
set_option maxRecDepth 100000 in
theorem shutterlaw10_GridNews.calls (k : Nat) (a0 : Int) (a1 : Int) (r : Bool) (w : World) (hGl : Aside0 (Code.Gl w)) (h : shutterlaw10_GridNews.f k a0 a1 = some r) :
    Calls Tryd.prog 3 #[.int .i64 a0, .int .i64 a1] w fun e w' => e = .returned (.bool r) ∧ Below w.heap.size w w' := by
  have hu24 := Tryd.underlying24
  have hu36 := Tryd.underlying36
  have hu26 := Tryd.underlying26
  have hu42 := Tryd.underlying42
  have HB := Aside0.mk (Below.refl w.heap.size w)
  have H : ((grid_New.f a0 a1).bind fun bt205 => ((shutterlaw10_awake.f k).bind fun t215 => (if t215 = true then ((shutterref10_Sized.f a0 a1).bind fun t216 => (if t216 = true then (if bt205.2.2.2.2.2.2.isNone = true then (if bt205.1 = a0 then (if bt205.2.1 = a1 then (if (bt205.2.2.1.length : Int) = (wrap64 (a0 * a1)) then (if bt205.2.2.2.1 = 0 then (if bt205.2.2.2.2.1 = true then (shutterlaw10_GridNews.j0 k true bt205.1 bt205.2.1 bt205.2.2.1 bt205.2.2.2.1 bt205.2.2.2.2.1 bt205.2.2.2.2.2.1) else (shutterlaw10_GridNews.j0 k bt205.2.2.2.2.2.1 bt205.1 bt205.2.1 bt205.2.2.1 bt205.2.2.2.1 bt205.2.2.2.2.1 bt205.2.2.2.2.2.1)) else (shutterlaw10_GridNews.j0 k true bt205.1 bt205.2.1 bt205.2.2.1 bt205.2.2.2.1 bt205.2.2.2.2.1 bt205.2.2.2.2.2.1)) else (shutterlaw10_GridNews.j0 k true bt205.1 bt205.2.1 bt205.2.2.1 bt205.2.2.2.1 bt205.2.2.2.2.1 bt205.2.2.2.2.2.1)) else (shutterlaw10_GridNews.j0 k true bt205.1 bt205.2.1 bt205.2.2.1 bt205.2.2.2.1 bt205.2.2.2.2.1 bt205.2.2.2.2.2.1)) else (shutterlaw10_GridNews.j0 k true bt205.1 bt205.2.1 bt205.2.2.1 bt205.2.2.2.1 bt205.2.2.2.2.1 bt205.2.2.2.2.2.1)) else (shutterlaw10_GridNews.j0 k true bt205.1 bt205.2.1 bt205.2.2.1 bt205.2.2.2.1 bt205.2.2.2.2.1 bt205.2.2.2.2.2.1)) else ((api_Code.f bt205.2.2.2.2.2.2).bind fun t217 => (if t217 = 1 then ((shutterref10_Same.f k bt205.1 bt205.2.1 bt205.2.2.1 bt205.2.2.2.1 bt205.2.2.2.2.1 bt205.2.2.2.2.2.1 0 0 ([] : List (S36)) 0 false false).bind fun t218 => (some t218)) else (some false))))) else (some false)))) = some r := h
  clear h
  replace H := Option.bind_eq_some_iff.mp H
  obtain ⟨⟨t205, t206, t207, t210, t211, t212, t213⟩, A30, H⟩ := H
  replace H : ((shutterlaw10_awake.f k).bind fun t215 => (if t215 = true then ((shutterref10_Sized.f a0 a1).bind fun t216 => (if t216 = true then (if t213.isNone = true then (if t205 = a0 then (if t206 = a1 then (if (t207.length : Int) = (wrap64 (a0 * a1)) then (if t210 = 0 then (if t211 = true then (shutterlaw10_GridNews.j0 k true t205 t206 t207 t210 t211 t212) else (shutterlaw10_GridNews.j0 k t212 t205 t206 t207 t210 t211 t212)) else (shutterlaw10_GridNews.j0 k true t205 t206 t207 t210 t211 t212)) else (shutterlaw10_GridNews.j0 k true t205 t206 t207 t210 t211 t212)) else (shutterlaw10_GridNews.j0 k true t205 t206 t207 t210 t211 t212)) else (shutterlaw10_GridNews.j0 k true t205 t206 t207 t210 t211 t212)) else (shutterlaw10_GridNews.j0 k true t205 t206 t207 t210 t211 t212)) else ((api_Code.f t213).bind fun t217 => (if t217 = 1 then ((shutterref10_Same.f k t205 t206 t207 t210 t211 t212 0 0 ([] : List (S36)) 0 false false).bind fun t218 => (some t218)) else (some false))))) else (some false))) = some r := H
  have A3 := Aside0.mk A30
  clear A30
  replace H := Option.bind_eq_some_iff.mp H
  obtain ⟨t215, A40, H⟩ := H
  replace H : (if t215 = true then ((shutterref10_Sized.f a0 a1).bind fun t216 => (if t216 = true then (if t213.isNone = true then (if t205 = a0 then (if t206 = a1 then (if (t207.length : Int) = (wrap64 (a0 * a1)) then (if t210 = 0 then (if t211 = true then (shutterlaw10_GridNews.j0 k true t205 t206 t207 t210 t211 t212) else (shutterlaw10_GridNews.j0 k t212 t205 t206 t207 t210 t211 t212)) else (shutterlaw10_GridNews.j0 k true t205 t206 t207 t210 t211 t212)) else (shutterlaw10_GridNews.j0 k true t205 t206 t207 t210 t211 t212)) else (shutterlaw10_GridNews.j0 k true t205 t206 t207 t210 t211 t212)) else (shutterlaw10_GridNews.j0 k true t205 t206 t207 t210 t211 t212)) else (shutterlaw10_GridNews.j0 k true t205 t206 t207 t210 t211 t212)) else ((api_Code.f t213).bind fun t217 => (if t217 = 1 then ((shutterref10_Same.f k t205 t206 t207 t210 t211 t212 0 0 ([] : List (S36)) 0 false false).bind fun t218 => (some t218)) else (some false))))) else (some false)) = some r := H
  have A4 := Aside0.mk A40
  clear A40
  by_cases c5 : t215 = true
  · subst c5
    have H1 : ((shutterref10_Sized.f a0 a1).bind fun t216 => (if t216 = true then (if t213.isNone = true then (if t205 = a0 then (if t206 = a1 then (if (t207.length : Int) = (wrap64 (a0 * a1)) then (if t210 = 0 then (if t211 = true then (shutterlaw10_GridNews.j0 k true t205 t206 t207 t210 t211 t212) else (shutterlaw10_GridNews.j0 k t212 t205 t206 t207 t210 t211 t212)) else (shutterlaw10_GridNews.j0 k true t205 t206 t207 t210 t211 t212)) else (shutterlaw10_GridNews.j0 k true t205 t206 t207 t210 t211 t212)) else (shutterlaw10_GridNews.j0 k true t205 t206 t207 t210 t211 t212)) else (shutterlaw10_GridNews.j0 k true t205 t206 t207 t210 t211 t212)) else (shutterlaw10_GridNews.j0 k true t205 t206 t207 t210 t211 t212)) else ((api_Code.f t213).bind fun t217 => (if t217 = 1 then ((shutterref10_Same.f k t205 t206 t207 t210 t211 t212 0 0 ([] : List (S36)) 0 false false).bind fun t218 => (some t218)) else (some false))))) = some r := by rw [if_pos rfl] at H; exact H
    clear H
    have H := H1
    clear H1
    replace H := Option.bind_eq_some_iff.mp H
    obtain ⟨t216, A60, H⟩ := H
    replace H : (if t216 = true then (if t213.isNone = true then (if t205 = a0 then (if t206 = a1 then (if (t207.length : Int) = (wrap64 (a0 * a1)) then (if t210 = 0 then (if t211 = true then (shutterlaw10_GridNews.j0 k true t205 t206 t207 t210 t211 t212) else (shutterlaw10_GridNews.j0 k t212 t205 t206 t207 t210 t211 t212)) else (shutterlaw10_GridNews.j0 k true t205 t206 t207 t210 t211 t212)) else (shutterlaw10_GridNews.j0 k true t205 t206 t207 t210 t211 t212)) else (shutterlaw10_GridNews.j0 k true t205 t206 t207 t210 t211 t212)) else (shutterlaw10_GridNews.j0 k true t205 t206 t207 t210 t211 t212)) else (shutterlaw10_GridNews.j0 k true t205 t206 t207 t210 t211 t212)) else ((api_Code.f t213).bind fun t217 => (if t217 = 1 then ((shutterref10_Same.f k t205 t206 t207 t210 t211 t212 0 0 ([] : List (S36)) 0 false false).bind fun t218 => (some t218)) else (some false)))) = some r := H
    have A6 := Aside0.mk A60
    clear A60
    by_cases c7 : t216 = true
    · subst c7
      have H1 : (if t213.isNone = true then (if t205 = a0 then (if t206 = a1 then (if (t207.length : Int) = (wrap64 (a0 * a1)) then (if t210 = 0 then (if t211 = true then (shutterlaw10_GridNews.j0 k true t205 t206 t207 t210 t211 t212) else (shutterlaw10_GridNews.j0 k t212 t205 t206 t207 t210 t211 t212)) else (shutterlaw10_GridNews.j0 k true t205 t206 t207 t210 t211 t212)) else (shutterlaw10_GridNews.j0 k true t205 t206 t207 t210 t211 t212)) else (shutterlaw10_GridNews.j0 k true t205 t206 t207 t210 t211 t212)) else (shutterlaw10_GridNews.j0 k true t205 t206 t207 t210 t211 t212)) else (shutterlaw10_GridNews.j0 k true t205 t206 t207 t210 t211 t212)) = some r := by rw [if_pos rfl] at H; exact H
      clear H
      have H := H1
      clear H1
      have HC8 := Aside0.mk H
      clear H
      go_enter Tryd.func3, Tryd.ntmps3
      go_upto_region 6 with (first | ((with_reducible refine gate_callee (f := 5) rfl ?_); refine goesL_ (some 11) rfl rfl Tryd.func5 (by kernel_rfl) rfl #[.int .i64 a0, .int .i64 a1] rfl (by (try simp only [List.map_toArray, List.map_cons, List.map_nil]); first | done | rfl | (simp only [List.length_drop, List.length_take]; rfl)) ?_; (with_reducible refine (grid_New.calls a0 a1 t205 t206 t207 t210 t211 t212 t213 _ A3.out).mono ?_); rintro e w9 ⟨v208, rfl, ho0, hb⟩; refine ⟨_, rfl, ?_⟩; have n0_ := Aside0.mk (Kd.R_lower ho0 (below_size (by repeat (first | (with_reducible first | exact HB.out | apply below_alloc | apply pw_below_drewN | apply below_drew1) | exact HB.out)))); have n1_ := Aside0.mk (below_step (by repeat (first | (with_reducible first | exact HB.out | apply below_alloc | apply pw_below_drewN | apply below_drew1) | exact HB.out)) hb); clear HB; have HO209 := n0_; have HB := n1_; clear n0_ n1_; (try clear hb); (try clear hb2); (try clear hk); (try clear hi); (try clear ho0); (try simp only [errW_none, errW_some])) | ((with_reducible refine gate_dst (N := 5) rfl ?_); (try (refine gate_guard (by rfl) ?_; dsimp only)); refine box_event ?hg (N := 5) ?hd (cs := #[.int .i64 0, .int .i64 0, .slice none 0 0, .int .i64 0, .bool false, .bool false]) (t := 24) ?hr ?_; (case hd => rfl); (case hg => rfl); (case hr => first | (go_simp; done) | (go_simp; rfl)); intro gb214 hg w10 hbox hb; have n0_ := Aside0.mk (Kd.R_below (by (with_reducible repeat (first | apply Kd.R_alloc | apply Kd.R_drewN | apply Kd.R_drew)); exact HO209.out) hb); have n1_ := Aside0.mk (below_step (by repeat (first | (with_reducible first | exact HB.out | apply below_alloc | apply pw_below_drewN | apply below_drew1) | exact HB.out)) hb); have n2_ := Aside0.mk (hbox); have n3_ := Aside0.mk ((by rw [hg]; exact (below_size (by repeat (first | (with_reducible first | exact HB.out | apply below_alloc | apply pw_below_drewN | apply below_drew1) | exact HB.out))) : w.heap.size ≤ gb214)); have n4_ := Aside0.mk ((by rw [hg]; exact (below_size (by repeat (first | (with_reducible first | exact HB.out | apply below_alloc | apply pw_below_drewN | apply below_drew1) | exact HB.out))) : w.heap.size ≤ gb214)); clear HO209; clear HB; have HO209 := n0_; have HB := n1_; have BK214 := n2_; have GW214 := n3_; have GE214 := n4_; clear n0_ n1_ n2_ n3_ n4_; clear hb hbox hg; have hcz11_0 : w10.cell? ⟨gb214, 0, none⟩ = some (.int .i64 0) := (blk_cell BK214.out 0).trans rfl; have hcz11_1 : w10.cell? ⟨gb214, 1, none⟩ = some (.int .i64 0) := (blk_cell BK214.out 1).trans rfl; have hcz11_2 : w10.cell? ⟨gb214, 2, none⟩ = some (.slice none 0 0) := (blk_cell BK214.out 2).trans rfl; have hcz11_3 : w10.cell? ⟨gb214, 3, none⟩ = some (.int .i64 0) := (blk_cell BK214.out 3).trans rfl; have hcz11_4 : w10.cell? ⟨gb214, 4, none⟩ = some (.bool false) := (blk_cell BK214.out 4).trans rfl; have hcz11_5 : w10.cell? ⟨gb214, 5, none⟩ = some (.bool false) := (blk_cell BK214.out 5).trans rfl; have hfz11_0 := blk_frozen BK214.out 0; have hfz11_1 := blk_frozen BK214.out 1; have hfz11_2 := blk_frozen BK214.out 2; have hfz11_3 := blk_frozen BK214.out 3; have hfz11_4 := blk_frozen BK214.out 4; have hfz11_5 := blk_frozen BK214.out 5; obtain ⟨Ao12, co12, eo12⟩ := Kd.R_slice HO209.out; subst eo12) | ((with_reducible refine gate_callee (f := 6) rfl ?_); refine goesL_ (some 14) rfl rfl Tryd.func6 (by kernel_rfl) rfl #[] rfl (by (try simp only [List.map_toArray, List.map_cons, List.map_nil]); first | done | rfl | (simp only [List.length_drop, List.length_take]; rfl)) ?_; (with_reducible refine (shutterlaw10_awake.calls k  true _ A4.out).mono ?_); rintro e w13 ⟨rfl, hb⟩; refine ⟨_, rfl, ?_⟩; have n0_ := Aside0.mk (Kd.R_below (by (with_reducible repeat (first | apply Kd.R_alloc | apply Kd.R_drewN | apply Kd.R_drew)); exact (Kd.R_mono (Kd.R_far (p := ⟨gb214, 5, none⟩) (Kd.R_far (p := ⟨gb214, 4, none⟩) (Kd.R_far (p := ⟨gb214, 3, none⟩) (Kd.R_far (p := ⟨gb214, 2, none⟩) (Kd.R_far (p := ⟨gb214, 1, none⟩) (Kd.R_far (p := ⟨gb214, 0, none⟩) (Kd.R_types HO209.out BK214.out (by decide)) (fun _ hk => hk.2) (.int .i64 t205)) (fun _ hk => hk.2) (.int .i64 t206)) (fun _ hk => hk.2) (.slice Ao12 t207.length co12)) (fun _ hk => hk.2) (.int .i64 t210)) (fun _ hk => hk.2) (.bool t211)) (fun _ hk => hk.2) (.bool t212)) (fun _ h_ => h_.1))) hb); have n1_ := Aside0.mk (blk_below (g := gb214) (o := .cells #[.int .i64 t205, .int .i64 t206, .slice Ao12 t207.length co12, .int .i64 t210, .bool t211, .bool t212] 24 (0, 0)) (by (with_reducible repeat (first | refine blk_drewN ?_ _ | refine blk_drew ?_ | refine blk_alloc ?_ _)); refine blk_put (cs := #[.int .i64 t205, .int .i64 t206, .slice Ao12 t207.length co12, .int .i64 t210, .bool t211, .bool false]) ?_ 5 _ rfl; (with_reducible repeat (first | refine blk_drewN ?_ _ | refine blk_drew ?_ | refine blk_alloc ?_ _)); refine blk_put (cs := #[.int .i64 t205, .int .i64 t206, .slice Ao12 t207.length co12, .int .i64 t210, .bool false, .bool false]) ?_ 4 _ rfl; (with_reducible repeat (first | refine blk_drewN ?_ _ | refine blk_drew ?_ | refine blk_alloc ?_ _)); refine blk_put (cs := #[.int .i64 t205, .int .i64 t206, .slice Ao12 t207.length co12, .int .i64 0, .bool false, .bool false]) ?_ 3 _ rfl; (with_reducible repeat (first | refine blk_drewN ?_ _ | refine blk_drew ?_ | refine blk_alloc ?_ _)); refine blk_put (cs := #[.int .i64 t205, .int .i64 t206, .slice none 0 0, .int .i64 0, .bool false, .bool false]) ?_ 2 _ rfl; (with_reducible repeat (first | refine blk_drewN ?_ _ | refine blk_drew ?_ | refine blk_alloc ?_ _)); refine blk_put (cs := #[.int .i64 t205, .int .i64 0, .slice none 0 0, .int .i64 0, .bool false, .bool false]) ?_ 1 _ rfl; (with_reducible repeat (first | refine blk_drewN ?_ _ | refine blk_drew ?_ | refine blk_alloc ?_ _)); refine blk_put (cs := #[.int .i64 0, .int .i64 0, .slice none 0 0, .int .i64 0, .bool false, .bool false]) ?_ 0 _ rfl; (with_reducible repeat (first | refine blk_drewN ?_ _ | refine blk_drew ?_ | refine blk_alloc ?_ _)); exact BK214.out) hb); have n2_ := Aside0.mk (below_step (by repeat (first | (with_reducible first | exact HB.out | apply below_alloc | apply pw_below_drewN | apply below_drew1 | refine below_set ?_ GE214.out) | exact HB.out)) hb); clear HO209; clear BK214; clear HB; have HO209 := n0_; have BK214 := n1_; have HB := n2_; clear n0_ n1_ n2_; (try clear hb); (try clear hb2); (try clear hk); (try clear hi)) | ((with_reducible refine gate_callee (f := 7) rfl ?_); refine goesL_ (some 18) rfl rfl Tryd.func7 (by kernel_rfl) rfl #[.int .i64 a0, .int .i64 a1] rfl (by (try simp only [List.map_toArray, List.map_cons, List.map_nil]); first | done | rfl | (simp only [List.length_drop, List.length_take]; rfl)) ?_; (with_reducible refine (shutterref10_Sized.calls a0 a1 true _ A6.out).mono ?_); rintro e w' ⟨rfl, ⟨nd, rfl⟩⟩; refine ⟨_, rfl, ?_⟩))
      (try simp only [Act.put, List.setIfInBounds_toArray, List.set_cons_zero, List.set_cons_succ])
      go_cut [63] (fun v63 wc => ∃ (kq : Nat) (x63_7 : Bool), v63 = .bool x63_7 ∧ Aside0 (shutterlaw10_GridNews.j0 kq x63_7 t205 t206 t207 t210 t211 t212 = some r) ∧ Aside0 (kq ≤ k) ∧ Aside0 (Kd.R k36 36 wc w.heap.size (fun _ => True) (.slice Ao12 t207.length co12) t207) ∧ Aside0 (wc.heap[gb214]? = some (.cells #[.int .i64 t205, .int .i64 t206, (.slice Ao12 t207.length co12), .int .i64 t210, .bool t211, .bool t212] 24 (0, 0))) ∧ Aside0 (Below w.heap.size w wc))
      case first =>
        have H := HC8.out
        clear HC8
        rcases t213 with _ | q219
        · have H1 : (if t205 = a0 then (if t206 = a1 then (if (t207.length : Int) = (wrap64 (a0 * a1)) then (if t210 = 0 then (if t211 = true then (shutterlaw10_GridNews.j0 k true t205 t206 t207 t210 t211 t212) else (shutterlaw10_GridNews.j0 k t212 t205 t206 t207 t210 t211 t212)) else (shutterlaw10_GridNews.j0 k true t205 t206 t207 t210 t211 t212)) else (shutterlaw10_GridNews.j0 k true t205 t206 t207 t210 t211 t212)) else (shutterlaw10_GridNews.j0 k true t205 t206 t207 t210 t211 t212)) else (shutterlaw10_GridNews.j0 k true t205 t206 t207 t210 t211 t212)) = some r := by rw [if_pos (show (none : Option Int).isNone = true by rfl)] at H; exact H
          clear H
          have H := H1
          clear H1
          try simp only [errW_none, errW_some]
          by_cases c14 : t205 = a0
          · rw [if_pos c14] at H
            have c14b0 : (t205 == a0) = true := beq_iff_eq.mpr c14
            have c14b1 : (t205 != a0) = false := bne_eq_false_iff_eq.mpr c14
            clear c14
            (first | rw [c14b0] | (simp only [i64_w, i32_w]; rw [c14b0]) | skip)
            by_cases c15 : t206 = a1
            · rw [if_pos c15] at H
              have c15b0 : (t206 == a1) = true := beq_iff_eq.mpr c15
              have c15b1 : (t206 != a1) = false := bne_eq_false_iff_eq.mpr c15
              clear c15
              by_cases c16 : (t207.length : Int) = (wrap64 (a0 * a1))
              · rw [if_pos c16] at H
                have c16b0 : ((t207.length : Int) == (wrap64 (a0 * a1))) = true := beq_iff_eq.mpr c16
                have c16b1 : ((t207.length : Int) != (wrap64 (a0 * a1))) = false := bne_eq_false_iff_eq.mpr c16
                clear c16
                by_cases c17 : t210 = 0
                · rw [if_pos c17] at H
                  have c17b0 : (t210 == 0) = true := beq_iff_eq.mpr c17
                  have c17b1 : (t210 != 0) = false := bne_eq_false_iff_eq.mpr c17
                  clear c17
                  by_cases c18 : t211 = true
                  · subst c18
                    have H1 : (shutterlaw10_GridNews.j0 k true t205 t206 t207 t210 true t212) = some r := by rw [if_pos rfl] at H; exact H
                    clear H
                    have H := H1
                    clear H1
                    have H' := Aside0.mk H
                    clear H
                    have hcz19_0 : w13.cell? ⟨gb214, 0, none⟩ = some (.int .i64 t205) := (blk_cell BK214.out 0).trans rfl
                    have hcz19_1 : w13.cell? ⟨gb214, 1, none⟩ = some (.int .i64 t206) := (blk_cell BK214.out 1).trans rfl
                    have hcz19_2 : w13.cell? ⟨gb214, 2, none⟩ = some (.slice Ao12 t207.length co12) := (blk_cell BK214.out 2).trans rfl
                    have hcz19_3 : w13.cell? ⟨gb214, 3, none⟩ = some (.int .i64 t210) := (blk_cell BK214.out 3).trans rfl
                    have hcz19_4 : w13.cell? ⟨gb214, 4, none⟩ = some (.bool true) := (blk_cell BK214.out 4).trans rfl
                    have hcz19_5 : w13.cell? ⟨gb214, 5, none⟩ = some (.bool t212) := (blk_cell BK214.out 5).trans rfl
                    have hfz19_0 := blk_frozen BK214.out 0
                    have hfz19_1 := blk_frozen BK214.out 1
                    have hfz19_2 := blk_frozen BK214.out 2
                    have hfz19_3 := blk_frozen BK214.out 3
                    have hfz19_4 := blk_frozen BK214.out 4
                    have hfz19_5 := blk_frozen BK214.out 5
                    go_wp2
                    go_meet
                    case rel => exact ⟨_, (true), (by first | rfl | (simp; done) | (simp [*]; done)), H', ⟨by first | omega | exact Nat.le_refl _⟩, ⟨by (with_reducible repeat (first | apply Kd.R_alloc | apply Kd.R_drewN | apply Kd.R_drew)); exact HO209.out⟩, ⟨by (with_reducible repeat (first | refine blk_drewN ?_ _ | refine blk_drew ?_ | refine blk_alloc ?_ _)); exact BK214.out⟩, ⟨by repeat (first | (with_reducible first | exact HB.out | apply below_alloc | apply pw_below_drewN | apply below_drew1 | refine below_set ?_ GE214.out) | exact HB.out)⟩⟩
                  · replace c18 := Bool.eq_false_iff.mpr c18
                    subst c18
                    have H1 : (shutterlaw10_GridNews.j0 k t212 t205 t206 t207 t210 false t212) = some r := by rw [if_neg (show ¬ (false = true) by decide)] at H; exact H
                    clear H
                    have H := H1
                    clear H1
                    have H' := Aside0.mk H
                    clear H
                    have hcz20_0 : w13.cell? ⟨gb214, 0, none⟩ = some (.int .i64 t205) := (blk_cell BK214.out 0).trans rfl
                    have hcz20_1 : w13.cell? ⟨gb214, 1, none⟩ = some (.int .i64 t206) := (blk_cell BK214.out 1).trans rfl
                    have hcz20_2 : w13.cell? ⟨gb214, 2, none⟩ = some (.slice Ao12 t207.length co12) := (blk_cell BK214.out 2).trans rfl
                    have hcz20_3 : w13.cell? ⟨gb214, 3, none⟩ = some (.int .i64 t210) := (blk_cell BK214.out 3).trans rfl
                    have hcz20_4 : w13.cell? ⟨gb214, 4, none⟩ = some (.bool false) := (blk_cell BK214.out 4).trans rfl
                    have hcz20_5 : w13.cell? ⟨gb214, 5, none⟩ = some (.bool t212) := (blk_cell BK214.out 5).trans rfl
                    have hfz20_0 := blk_frozen BK214.out 0
                    have hfz20_1 := blk_frozen BK214.out 1
                    have hfz20_2 := blk_frozen BK214.out 2
                    have hfz20_3 := blk_frozen BK214.out 3
                    have hfz20_4 := blk_frozen BK214.out 4
                    have hfz20_5 := blk_frozen BK214.out 5
                    go_wp2
                    go_meet
                    case rel => exact ⟨_, (t212), (by first | rfl | (simp; done) | (simp [*]; done)), H', ⟨by first | omega | exact Nat.le_refl _⟩, ⟨by (with_reducible repeat (first | apply Kd.R_alloc | apply Kd.R_drewN | apply Kd.R_drew)); exact HO209.out⟩, ⟨by (with_reducible repeat (first | refine blk_drewN ?_ _ | refine blk_drew ?_ | refine blk_alloc ?_ _)); exact BK214.out⟩, ⟨by repeat (first | (with_reducible first | exact HB.out | apply below_alloc | apply pw_below_drewN | apply below_drew1 | refine below_set ?_ GE214.out) | exact HB.out)⟩⟩
                · rw [if_neg c17] at H
                  have c17b0 : (t210 == 0) = false := beq_eq_false_iff_ne.mpr c17
                  have c17b1 : (t210 != 0) = true := bne_iff_ne.mpr c17
                  have H' := Aside0.mk H
                  clear H
                  have hcz21_0 : w13.cell? ⟨gb214, 0, none⟩ = some (.int .i64 t205) := (blk_cell BK214.out 0).trans rfl
                  have hcz21_1 : w13.cell? ⟨gb214, 1, none⟩ = some (.int .i64 t206) := (blk_cell BK214.out 1).trans rfl
                  have hcz21_2 : w13.cell? ⟨gb214, 2, none⟩ = some (.slice Ao12 t207.length co12) := (blk_cell BK214.out 2).trans rfl
                  have hcz21_3 : w13.cell? ⟨gb214, 3, none⟩ = some (.int .i64 t210) := (blk_cell BK214.out 3).trans rfl
                  have hcz21_4 : w13.cell? ⟨gb214, 4, none⟩ = some (.bool t211) := (blk_cell BK214.out 4).trans rfl
                  have hcz21_5 : w13.cell? ⟨gb214, 5, none⟩ = some (.bool t212) := (blk_cell BK214.out 5).trans rfl
                  have hfz21_0 := blk_frozen BK214.out 0
                  have hfz21_1 := blk_frozen BK214.out 1
                  have hfz21_2 := blk_frozen BK214.out 2
                  have hfz21_3 := blk_frozen BK214.out 3
                  have hfz21_4 := blk_frozen BK214.out 4
                  have hfz21_5 := blk_frozen BK214.out 5
                  go_wp2
                  go_meet
                  case rel => exact ⟨_, (true), (by first | rfl | (simp; done) | (simp [*]; done)), H', ⟨by first | omega | exact Nat.le_refl _⟩, ⟨by (with_reducible repeat (first | apply Kd.R_alloc | apply Kd.R_drewN | apply Kd.R_drew)); exact HO209.out⟩, ⟨by (with_reducible repeat (first | refine blk_drewN ?_ _ | refine blk_drew ?_ | refine blk_alloc ?_ _)); exact BK214.out⟩, ⟨by repeat (first | (with_reducible first | exact HB.out | apply below_alloc | apply pw_below_drewN | apply below_drew1 | refine below_set ?_ GE214.out) | exact HB.out)⟩⟩
              · rw [if_neg c16] at H
                have c16b0 : ((t207.length : Int) == (wrap64 (a0 * a1))) = false := beq_eq_false_iff_ne.mpr c16
                have c16b1 : ((t207.length : Int) != (wrap64 (a0 * a1))) = true := bne_iff_ne.mpr c16
                have H' := Aside0.mk H
                clear H
                have hcz22_0 : w13.cell? ⟨gb214, 0, none⟩ = some (.int .i64 t205) := (blk_cell BK214.out 0).trans rfl
                have hcz22_1 : w13.cell? ⟨gb214, 1, none⟩ = some (.int .i64 t206) := (blk_cell BK214.out 1).trans rfl
                have hcz22_2 : w13.cell? ⟨gb214, 2, none⟩ = some (.slice Ao12 t207.length co12) := (blk_cell BK214.out 2).trans rfl
                have hcz22_3 : w13.cell? ⟨gb214, 3, none⟩ = some (.int .i64 t210) := (blk_cell BK214.out 3).trans rfl
                have hcz22_4 : w13.cell? ⟨gb214, 4, none⟩ = some (.bool t211) := (blk_cell BK214.out 4).trans rfl
                have hcz22_5 : w13.cell? ⟨gb214, 5, none⟩ = some (.bool t212) := (blk_cell BK214.out 5).trans rfl
                have hfz22_0 := blk_frozen BK214.out 0
                have hfz22_1 := blk_frozen BK214.out 1
                have hfz22_2 := blk_frozen BK214.out 2
                have hfz22_3 := blk_frozen BK214.out 3
                have hfz22_4 := blk_frozen BK214.out 4
                have hfz22_5 := blk_frozen BK214.out 5
                go_wp2
                go_meet
                case rel => exact ⟨_, (true), (by first | rfl | (simp; done) | (simp [*]; done)), H', ⟨by first | omega | exact Nat.le_refl _⟩, ⟨by (with_reducible repeat (first | apply Kd.R_alloc | apply Kd.R_drewN | apply Kd.R_drew)); exact HO209.out⟩, ⟨by (with_reducible repeat (first | refine blk_drewN ?_ _ | refine blk_drew ?_ | refine blk_alloc ?_ _)); exact BK214.out⟩, ⟨by repeat (first | (with_reducible first | exact HB.out | apply below_alloc | apply pw_below_drewN | apply below_drew1 | refine below_set ?_ GE214.out) | exact HB.out)⟩⟩
            · rw [if_neg c15] at H
              have c15b0 : (t206 == a1) = false := beq_eq_false_iff_ne.mpr c15
              have c15b1 : (t206 != a1) = true := bne_iff_ne.mpr c15
              have H' := Aside0.mk H
              clear H
              have hcz23_0 : w13.cell? ⟨gb214, 0, none⟩ = some (.int .i64 t205) := (blk_cell BK214.out 0).trans rfl
              have hcz23_1 : w13.cell? ⟨gb214, 1, none⟩ = some (.int .i64 t206) := (blk_cell BK214.out 1).trans rfl
              have hcz23_2 : w13.cell? ⟨gb214, 2, none⟩ = some (.slice Ao12 t207.length co12) := (blk_cell BK214.out 2).trans rfl
              have hcz23_3 : w13.cell? ⟨gb214, 3, none⟩ = some (.int .i64 t210) := (blk_cell BK214.out 3).trans rfl
              have hcz23_4 : w13.cell? ⟨gb214, 4, none⟩ = some (.bool t211) := (blk_cell BK214.out 4).trans rfl
              have hcz23_5 : w13.cell? ⟨gb214, 5, none⟩ = some (.bool t212) := (blk_cell BK214.out 5).trans rfl
              have hfz23_0 := blk_frozen BK214.out 0
              have hfz23_1 := blk_frozen BK214.out 1
              have hfz23_2 := blk_frozen BK214.out 2
              have hfz23_3 := blk_frozen BK214.out 3
              have hfz23_4 := blk_frozen BK214.out 4
              have hfz23_5 := blk_frozen BK214.out 5
              go_wp2
              go_meet
              case rel => exact ⟨_, (true), (by first | rfl | (simp; done) | (simp [*]; done)), H', ⟨by first | omega | exact Nat.le_refl _⟩, ⟨by (with_reducible repeat (first | apply Kd.R_alloc | apply Kd.R_drewN | apply Kd.R_drew)); exact HO209.out⟩, ⟨by (with_reducible repeat (first | refine blk_drewN ?_ _ | refine blk_drew ?_ | refine blk_alloc ?_ _)); exact BK214.out⟩, ⟨by repeat (first | (with_reducible first | exact HB.out | apply below_alloc | apply pw_below_drewN | apply below_drew1 | refine below_set ?_ GE214.out) | exact HB.out)⟩⟩
          · rw [if_neg c14] at H
            have c14b0 : (t205 == a0) = false := beq_eq_false_iff_ne.mpr c14
            have c14b1 : (t205 != a0) = true := bne_iff_ne.mpr c14
            (first | rw [c14b0] | (simp only [i64_w, i32_w]; rw [c14b0]) | skip)
            have H' := Aside0.mk H
            clear H
            have hcz24_0 : w13.cell? ⟨gb214, 0, none⟩ = some (.int .i64 t205) := (blk_cell BK214.out 0).trans rfl
            have hcz24_1 : w13.cell? ⟨gb214, 1, none⟩ = some (.int .i64 t206) := (blk_cell BK214.out 1).trans rfl
            have hcz24_2 : w13.cell? ⟨gb214, 2, none⟩ = some (.slice Ao12 t207.length co12) := (blk_cell BK214.out 2).trans rfl
            have hcz24_3 : w13.cell? ⟨gb214, 3, none⟩ = some (.int .i64 t210) := (blk_cell BK214.out 3).trans rfl
            have hcz24_4 : w13.cell? ⟨gb214, 4, none⟩ = some (.bool t211) := (blk_cell BK214.out 4).trans rfl
            have hcz24_5 : w13.cell? ⟨gb214, 5, none⟩ = some (.bool t212) := (blk_cell BK214.out 5).trans rfl
            have hfz24_0 := blk_frozen BK214.out 0
            have hfz24_1 := blk_frozen BK214.out 1
            have hfz24_2 := blk_frozen BK214.out 2
            have hfz24_3 := blk_frozen BK214.out 3
            have hfz24_4 := blk_frozen BK214.out 4
            have hfz24_5 := blk_frozen BK214.out 5
            go_wp2
            go_meet
            case rel => exact ⟨_, (true), (by first | rfl | (simp; done) | (simp [*]; done)), H', ⟨by first | omega | exact Nat.le_refl _⟩, ⟨by (with_reducible repeat (first | apply Kd.R_alloc | apply Kd.R_drewN | apply Kd.R_drew)); exact HO209.out⟩, ⟨by (with_reducible repeat (first | refine blk_drewN ?_ _ | refine blk_drew ?_ | refine blk_alloc ?_ _)); exact BK214.out⟩, ⟨by repeat (first | (with_reducible first | exact HB.out | apply below_alloc | apply pw_below_drewN | apply below_drew1 | refine below_set ?_ GE214.out) | exact HB.out)⟩⟩
        · have H1 : (shutterlaw10_GridNews.j0 k true t205 t206 t207 t210 t211 t212) = some r := by rw [if_neg (show ¬ (some q219).isNone = true by simp)] at H; exact H
          clear H
          have H := H1
          clear H1
          try simp only [errW_none, errW_some]
          have H' := Aside0.mk H
          clear H
          go_wp2
          go_meet
          case rel => exact ⟨_, (true), (by first | rfl | (simp; done) | (simp [*]; done)), H', ⟨by first | omega | exact Nat.le_refl _⟩, ⟨by (with_reducible repeat (first | apply Kd.R_alloc | apply Kd.R_drewN | apply Kd.R_drew)); exact HO209.out⟩, ⟨by (with_reducible repeat (first | refine blk_drewN ?_ _ | refine blk_drew ?_ | refine blk_alloc ?_ _)); exact BK214.out⟩, ⟨by repeat (first | (with_reducible first | exact HB.out | apply below_alloc | apply pw_below_drewN | apply below_drew1 | refine below_set ?_ GE214.out) | exact HB.out)⟩⟩
      case rest =>
        clear HC8
        try clear c1
        try clear p2
        try clear q2
        try clear c3
        try clear c5
        try clear c6
        try clear p6
        try clear c7
        try clear c14
        try clear c14b0
        try clear c14b1
        try clear c15
        try clear c15b0
        try clear c15b1
        try clear c16
        try clear c16b0
        try clear c16b1
        try clear c17
        try clear c17b0
        try clear c17b1
        try clear c18
        try clear q21
        try clear hcz11_0
        try clear hcz11_1
        try clear hcz11_2
        try clear hcz11_3
        try clear hcz11_4
        try clear hcz11_5
        try clear hcz19_0
        try clear hcz19_1
        try clear hcz19_2
        try clear hcz19_3
        try clear hcz19_4
        try clear hcz19_5
        try clear hcz20_0
        try clear hcz20_1
        try clear hcz20_2
        try clear hcz20_3
        try clear hcz20_4
        try clear hcz20_5
        try clear hcz21_0
        try clear hcz21_1
        try clear hcz21_2
        try clear hcz21_3
        try clear hcz21_4
        try clear hcz21_5
        try clear hcz22_0
        try clear hcz22_1
        try clear hcz22_2
        try clear hcz22_3
        try clear hcz22_4
        try clear hcz22_5
        try clear hcz23_0
        try clear hcz23_1
        try clear hcz23_2
        try clear hcz23_3
        try clear hcz23_4
        try clear hcz23_5
        try clear hcz24_0
        try clear hcz24_1
        try clear hcz24_2
        try clear hcz24_3
        try clear hcz24_4
        try clear hcz24_5
        try clear hfz11_0
        try clear hfz11_1
        try clear hfz11_2
        try clear hfz11_3
        try clear hfz11_4
        try clear hfz11_5
        try clear hfz19_0
        try clear hfz19_1
        try clear hfz19_2
        try clear hfz19_3
        try clear hfz19_4
        try clear hfz19_5
        try clear hfz20_0
        try clear hfz20_1
        try clear hfz20_2
        try clear hfz20_3
        try clear hfz20_4
        try clear hfz20_5
        try clear hfz21_0
        try clear hfz21_1
        try clear hfz21_2
        try clear hfz21_3
        try clear hfz21_4
        try clear hfz21_5
        try clear hfz22_0
        try clear hfz22_1
        try clear hfz22_2
        try clear hfz22_3
        try clear hfz22_4
        try clear hfz22_5
        try clear hfz23_0
        try clear hfz23_1
        try clear hfz23_2
        try clear hfz23_3
        try clear hfz23_4
        try clear hfz23_5
        try clear hfz24_0
        try clear hfz24_1
        try clear hfz24_2
        try clear hfz24_3
        try clear hfz24_4
        try clear hfz24_5
        try clear q219
        obtain ⟨kq, x63_7, rfl, HA, HJ7, HO_215002, BK214, HB⟩ := hcut
        cases kq with
        | zero => exact absurd HA.out (by simp [shutterlaw10_GridNews.j0])
        | succ kj7 =>
          have H := HA.out
          clear HA
          simp only [shutterlaw10_GridNews.j0] at H
          by_cases c25 : x63_7 = true
          · subst c25
            have H1 : (some false) = some r := by rw [if_pos rfl] at H; exact H
            clear H
            have H := H1
            clear H1
            obtain rfl := Option.some.inj H
            go_wp2
            go_ret
            exact ⟨by first | rfl | (simp [errW_none, errW_some] <;> rfl) | (simp [*, errW_none, errW_some] <;> rfl), by repeat (first | (with_reducible first | exact HB.out | apply below_alloc | apply pw_below_drewN | apply below_drew1 | refine below_set ?_ GE214.out) | exact HB.out)⟩
          · replace c25 := Bool.eq_false_iff.mpr c25
            subst c25
            have H1 : (shutterlaw10_GridNews.l0 kj7 0 t205 t206 t207 t210 t211 t212) = some r := by rw [if_neg (show ¬ (false = true) by decide)] at H; exact H
            clear H
            have H := H1
            clear H1
            have H' := Aside0.mk H
            clear H
            go_wp2
            (try simp only [add_plain])
            go_loopg [7] kj7 (fun kq v7 w' => ∃ (x7_2 : Int), v7 = .int .i64 x7_2 ∧ Aside0 (shutterlaw10_GridNews.l0 kq x7_2 t205 t206 t207 t210 t211 t212 = some r) ∧ Aside0 (kq ≤ kj7) ∧ Aside0 (Kd.R k36 36 w' w.heap.size (fun _ => True) (.slice Ao12 t207.length co12) t207) ∧ Aside0 (w'.heap[gb214]? = some (.cells #[.int .i64 t205, .int .i64 t206, (.slice Ao12 t207.length co12), .int .i64 t210, .bool t211, .bool t212] 24 (0, 0))) ∧ Aside0 (Below w.heap.size w w'))
            case atStart => exact ⟨(0), (by first | rfl | (simp; done) | (simp [*]; done)), H', ⟨Nat.le_refl _⟩, ⟨by (with_reducible repeat (first | apply Kd.R_alloc | apply Kd.R_drewN | apply Kd.R_drew)); exact HO_215002.out⟩, ⟨by (with_reducible repeat (first | refine blk_drewN ?_ _ | refine blk_drew ?_ | refine blk_alloc ?_ _)); exact BK214.out⟩, ⟨by repeat (first | (with_reducible first | exact HB.out | apply below_alloc | apply pw_below_drewN | apply below_drew1 | refine below_set ?_ GE214.out) | exact HB.out)⟩⟩
            case round =>
              clear H'
              try clear c1
              try clear c2
              try clear p2
              try clear q2
              try clear c3
              try clear c5
              try clear c6
              try clear p6
              try clear c7
              try clear c14
              try clear c14b0
              try clear c14b1
              try clear c15
              try clear c15b0
              try clear c15b1
              try clear c16
              try clear c16b0
              try clear c16b1
              try clear c17
              try clear c17b0
              try clear c17b1
              try clear c18
              try clear q21
              try clear c25
              try clear hcz11_0
              try clear hcz11_1
              try clear hcz11_2
              try clear hcz11_3
              try clear hcz11_4
              try clear hcz11_5
              try clear hcz19_0
              try clear hcz19_1
              try clear hcz19_2
              try clear hcz19_3
              try clear hcz19_4
              try clear hcz19_5
              try clear hcz20_0
              try clear hcz20_1
              try clear hcz20_2
              try clear hcz20_3
              try clear hcz20_4
              try clear hcz20_5
              try clear hcz21_0
              try clear hcz21_1
              try clear hcz21_2
              try clear hcz21_3
              try clear hcz21_4
              try clear hcz21_5
              try clear hcz22_0
              try clear hcz22_1
              try clear hcz22_2
              try clear hcz22_3
              try clear hcz22_4
              try clear hcz22_5
              try clear hcz23_0
              try clear hcz23_1
              try clear hcz23_2
              try clear hcz23_3
              try clear hcz23_4
              try clear hcz23_5
              try clear hcz24_0
              try clear hcz24_1
              try clear hcz24_2
              try clear hcz24_3
              try clear hcz24_4
              try clear hcz24_5
              try clear hfz11_0
              try clear hfz11_1
              try clear hfz11_2
              try clear hfz11_3
              try clear hfz11_4
              try clear hfz11_5
              try clear hfz19_0
              try clear hfz19_1
              try clear hfz19_2
              try clear hfz19_3
              try clear hfz19_4
              try clear hfz19_5
              try clear hfz20_0
              try clear hfz20_1
              try clear hfz20_2
              try clear hfz20_3
              try clear hfz20_4
              try clear hfz20_5
              try clear hfz21_0
              try clear hfz21_1
              try clear hfz21_2
              try clear hfz21_3
              try clear hfz21_4
              try clear hfz21_5
              try clear hfz22_0
              try clear hfz22_1
              try clear hfz22_2
              try clear hfz22_3
              try clear hfz22_4
              try clear hfz22_5
              try clear hfz23_0
              try clear hfz23_1
              try clear hfz23_2
              try clear hfz23_3
              try clear hfz23_4
              try clear hfz23_5
              try clear hfz24_0
              try clear hfz24_1
              try clear hfz24_2
              try clear hfz24_3
              try clear hfz24_4
              try clear hfz24_5
              try clear p2
              try clear p6
              try clear q2
              try clear q21
              try clear q219
              obtain ⟨x7_2, rfl, HA, HK2, HO_215002, BK214, HB⟩ := hrel
              cases gk with
              | zero => exact absurd HA.out (by simp [shutterlaw10_GridNews.l0])
              | succ k2 =>
                have H := HA.out
                clear HA
                simp only [shutterlaw10_GridNews.l0] at H
                by_cases c26 : x7_2 < (t207.length : Int)
                · rw [if_pos c26] at H
                  have c26b0 : decide (x7_2 < (t207.length : Int)) = true := decide_eq_true c26
                  clear c26
                  by_cases c27 : 0 ≤ x7_2
                  · rw [if_pos c27] at H
                    have c27b0 : decide (0 ≤ x7_2) = true := decide_eq_true c27
                    clear c27
                    by_cases c28 : (((rd_T36 t207 x7_2).f0) || ((((rd_T36 t207 x7_2).f1.f0) || (((rd_T36 t207 x7_2).f1.f1) || (!(((rd_T36 t207 x7_2).f1.f2) == 0) || (((rd_T36 t207 x7_2).f1.f3))))) || (!(((rd_T36 t207 x7_2).f2) == 0)))) = true
                    · rw [if_pos c28] at H
                      have c28b0 : (((rd_T36 t207 x7_2).f0) || ((((rd_T36 t207 x7_2).f1.f0) || (((rd_T36 t207 x7_2).f1.f1) || (!(((rd_T36 t207 x7_2).f1.f2) == 0) || (((rd_T36 t207 x7_2).f1.f3))))) || (!(((rd_T36 t207 x7_2).f2) == 0)))) = true := c28
                      clear c28
                      obtain rfl := Option.some.inj H
                      have hcz29_0 : wr.cell? ⟨gb214, 0, none⟩ = some (.int .i64 t205) := (blk_cell BK214.out 0).trans rfl
                      have hcz29_1 : wr.cell? ⟨gb214, 1, none⟩ = some (.int .i64 t206) := (blk_cell BK214.out 1).trans rfl
                      have hcz29_2 : wr.cell? ⟨gb214, 2, none⟩ = some (.slice Ao12 t207.length co12) := (blk_cell BK214.out 2).trans rfl
                      have hcz29_3 : wr.cell? ⟨gb214, 3, none⟩ = some (.int .i64 t210) := (blk_cell BK214.out 3).trans rfl
                      have hcz29_4 : wr.cell? ⟨gb214, 4, none⟩ = some (.bool t211) := (blk_cell BK214.out 4).trans rfl
                      have hcz29_5 : wr.cell? ⟨gb214, 5, none⟩ = some (.bool t212) := (blk_cell BK214.out 5).trans rfl
                      have hfz29_0 := blk_frozen BK214.out 0
                      have hfz29_1 := blk_frozen BK214.out 1
                      have hfz29_2 := blk_frozen BK214.out 2
                      have hfz29_3 := blk_frozen BK214.out 3
                      have hfz29_4 := blk_frozen BK214.out 4
                      have hfz29_5 := blk_frozen BK214.out 5
                      have p220 : 0 ≤ (x7_2 : Int) := of_decide_eq_true (by first | (with_reducible assumption) | assumption)
                      have q220 : x7_2 < (t207.length : Int) := of_decide_eq_true (by first | (with_reducible assumption) | assumption)
                      obtain ⟨ad220, e220, hx220_0, hx220_1, hx220_2, hx220_3, hx220_4, hx220_5⟩ := at_T36 (Kd.R_reads' HO_215002.out).2.2 x7_2 p220 q220
                      cases e220
                      replace p220 := eq_true p220
                      replace q220 := eq_true q220
                      go_wp2
                      go_ret
                      exact ⟨by first | rfl | (simp [errW_none, errW_some] <;> rfl) | (simp [*, errW_none, errW_some] <;> rfl), by repeat (first | (with_reducible first | exact HB.out | apply below_alloc | apply pw_below_drewN | apply below_drew1 | refine below_set ?_ GE214.out) | exact HB.out)⟩
                    · rw [if_neg c28] at H
                      have c28b0 : (((rd_T36 t207 x7_2).f0) || ((((rd_T36 t207 x7_2).f1.f0) || (((rd_T36 t207 x7_2).f1.f1) || (!(((rd_T36 t207 x7_2).f1.f2) == 0) || (((rd_T36 t207 x7_2).f1.f3))))) || (!(((rd_T36 t207 x7_2).f2) == 0)))) = false := by simpa using c28
                      clear c28
                      have H' := Aside0.mk H
                      clear H
                      have hcz30_0 : wr.cell? ⟨gb214, 0, none⟩ = some (.int .i64 t205) := (blk_cell BK214.out 0).trans rfl
                      have hcz30_1 : wr.cell? ⟨gb214, 1, none⟩ = some (.int .i64 t206) := (blk_cell BK214.out 1).trans rfl
                      have hcz30_2 : wr.cell? ⟨gb214, 2, none⟩ = some (.slice Ao12 t207.length co12) := (blk_cell BK214.out 2).trans rfl
                      have hcz30_3 : wr.cell? ⟨gb214, 3, none⟩ = some (.int .i64 t210) := (blk_cell BK214.out 3).trans rfl
                      have hcz30_4 : wr.cell? ⟨gb214, 4, none⟩ = some (.bool t211) := (blk_cell BK214.out 4).trans rfl
                      have hcz30_5 : wr.cell? ⟨gb214, 5, none⟩ = some (.bool t212) := (blk_cell BK214.out 5).trans rfl
                      have hfz30_0 := blk_frozen BK214.out 0
                      have hfz30_1 := blk_frozen BK214.out 1
                      have hfz30_2 := blk_frozen BK214.out 2
                      have hfz30_3 := blk_frozen BK214.out 3
                      have hfz30_4 := blk_frozen BK214.out 4
                      have hfz30_5 := blk_frozen BK214.out 5
                      have p220 : 0 ≤ (x7_2 : Int) := of_decide_eq_true (by first | (with_reducible assumption) | assumption)
                      have q220 : x7_2 < (t207.length : Int) := of_decide_eq_true (by first | (with_reducible assumption) | assumption)
                      obtain ⟨ad220, e220, hx220_0, hx220_1, hx220_2, hx220_3, hx220_4, hx220_5⟩ := at_T36 (Kd.R_reads' HO_215002.out).2.2 x7_2 p220 q220
                      cases e220
                      replace p220 := eq_true p220
                      replace q220 := eq_true q220
                      go_wp2
                      (try simp only [add_plain])
                      go_roundg k2
                      case measure => have := HJ7.out; have := HK2.out; omega
                      case rel => exact ⟨(wrap64 (x7_2 + 1)), (by first | rfl | (simp; done) | (simp [*]; done)), H', ⟨by have := HJ7.out; have := HK2.out; omega⟩, ⟨by (with_reducible repeat (first | apply Kd.R_alloc | apply Kd.R_drewN | apply Kd.R_drew)); exact HO_215002.out⟩, ⟨by (with_reducible repeat (first | refine blk_drewN ?_ _ | refine blk_drew ?_ | refine blk_alloc ?_ _)); exact BK214.out⟩, ⟨by repeat (first | (with_reducible first | exact HB.out | apply below_alloc | apply pw_below_drewN | apply below_drew1 | refine below_set ?_ GE214.out) | exact HB.out)⟩⟩
                  · rw [if_neg c27] at H
                    exact absurd H (by simp)
                · rw [if_neg c26] at H
                  have c26b0 : decide (x7_2 < (t207.length : Int)) = false := decide_eq_false c26
                  clear c26
                  obtain rfl := Option.some.inj H
                  have hcz31_0 : wr.cell? ⟨gb214, 0, none⟩ = some (.int .i64 t205) := (blk_cell BK214.out 0).trans rfl
                  have hcz31_1 : wr.cell? ⟨gb214, 1, none⟩ = some (.int .i64 t206) := (blk_cell BK214.out 1).trans rfl
                  have hcz31_2 : wr.cell? ⟨gb214, 2, none⟩ = some (.slice Ao12 t207.length co12) := (blk_cell BK214.out 2).trans rfl
                  have hcz31_3 : wr.cell? ⟨gb214, 3, none⟩ = some (.int .i64 t210) := (blk_cell BK214.out 3).trans rfl
                  have hcz31_4 : wr.cell? ⟨gb214, 4, none⟩ = some (.bool t211) := (blk_cell BK214.out 4).trans rfl
                  have hcz31_5 : wr.cell? ⟨gb214, 5, none⟩ = some (.bool t212) := (blk_cell BK214.out 5).trans rfl
                  have hfz31_0 := blk_frozen BK214.out 0
                  have hfz31_1 := blk_frozen BK214.out 1
                  have hfz31_2 := blk_frozen BK214.out 2
                  have hfz31_3 := blk_frozen BK214.out 3
                  have hfz31_4 := blk_frozen BK214.out 4
                  have hfz31_5 := blk_frozen BK214.out 5
                  go_wp2
                  go_ret
                  exact ⟨by first | rfl | (simp [errW_none, errW_some] <;> rfl) | (simp [*, errW_none, errW_some] <;> rfl), by repeat (first | (with_reducible first | exact HB.out | apply below_alloc | apply pw_below_drewN | apply below_drew1 | refine below_set ?_ GE214.out) | exact HB.out)⟩
    · replace c7 := Bool.eq_false_iff.mpr c7
      subst c7
      have H1 : ((api_Code.f t213).bind fun t217 => (if t217 = 1 then ((shutterref10_Same.f k t205 t206 t207 t210 t211 t212 0 0 ([] : List (S36)) 0 false false).bind fun t218 => (some t218)) else (some false))) = some r := by rw [if_neg (show ¬ (false = true) by decide)] at H; exact H
      clear H
      have H := H1
      clear H1
      replace H := Option.bind_eq_some_iff.mp H
      obtain ⟨t217, A320, H⟩ := H
      replace H : (if t217 = 1 then ((shutterref10_Same.f k t205 t206 t207 t210 t211 t212 0 0 ([] : List (S36)) 0 false false).bind fun t218 => (some t218)) else (some false)) = some r := H
      have A32 := Aside0.mk A320
      clear A320
      by_cases c33 : t217 = 1
      · rw [if_pos c33] at H
        have c33b0 : (t217 == 1) = true := beq_iff_eq.mpr c33
        have c33b1 : (t217 != 1) = false := bne_eq_false_iff_eq.mpr c33
        clear c33
        replace H := Option.bind_eq_some_iff.mp H
        obtain ⟨t218, A340, H⟩ := H
        replace H : (some t218) = some r := H
        have A34 := Aside0.mk A340
        clear A340
        obtain rfl := Option.some.inj H
        go_enter Tryd.func3, Tryd.ntmps3
        go_wp2_with (first | ((with_reducible refine gate_callee (f := 5) rfl ?_); refine goesL_ (some 11) rfl rfl Tryd.func5 (by kernel_rfl) rfl #[.int .i64 a0, .int .i64 a1] rfl (by (try simp only [List.map_toArray, List.map_cons, List.map_nil]); first | done | rfl | (simp only [List.length_drop, List.length_take]; rfl)) ?_; (with_reducible refine (grid_New.calls a0 a1 t205 t206 t207 t210 t211 t212 t213 _ A3.out).mono ?_); rintro e w35 ⟨v208, rfl, ho0, hb⟩; refine ⟨_, rfl, ?_⟩; have n0_ := Aside0.mk (Kd.R_lower ho0 (below_size (by repeat (first | (with_reducible first | exact HB.out | apply below_alloc | apply pw_below_drewN | apply below_drew1) | exact HB.out)))); have n1_ := Aside0.mk (below_step (by repeat (first | (with_reducible first | exact HB.out | apply below_alloc | apply pw_below_drewN | apply below_drew1) | exact HB.out)) hb); clear HB; have HO209 := n0_; have HB := n1_; clear n0_ n1_; (try clear hb); (try clear hb2); (try clear hk); (try clear hi); (try clear ho0); (try simp only [errW_none, errW_some])) | ((with_reducible refine gate_dst (N := 5) rfl ?_); (try (refine gate_guard (by rfl) ?_; dsimp only)); refine box_event ?hg (N := 5) ?hd (cs := #[.int .i64 0, .int .i64 0, .slice none 0 0, .int .i64 0, .bool false, .bool false]) (t := 24) ?hr ?_; (case hd => rfl); (case hg => rfl); (case hr => first | (go_simp; done) | (go_simp; rfl)); intro gb214 hg w36 hbox hb; have n0_ := Aside0.mk (Kd.R_below (by (with_reducible repeat (first | apply Kd.R_alloc | apply Kd.R_drewN | apply Kd.R_drew)); exact HO209.out) hb); have n1_ := Aside0.mk (below_step (by repeat (first | (with_reducible first | exact HB.out | apply below_alloc | apply pw_below_drewN | apply below_drew1) | exact HB.out)) hb); have n2_ := Aside0.mk (hbox); have n3_ := Aside0.mk ((by rw [hg]; exact (below_size (by repeat (first | (with_reducible first | exact HB.out | apply below_alloc | apply pw_below_drewN | apply below_drew1) | exact HB.out))) : w.heap.size ≤ gb214)); have n4_ := Aside0.mk ((by rw [hg]; exact (below_size (by repeat (first | (with_reducible first | exact HB.out | apply below_alloc | apply pw_below_drewN | apply below_drew1) | exact HB.out))) : w.heap.size ≤ gb214)); clear HO209; clear HB; have HO209 := n0_; have HB := n1_; have BK214 := n2_; have GW214 := n3_; have GE214 := n4_; clear n0_ n1_ n2_ n3_ n4_; clear hb hbox hg; have hcz37_0 : w36.cell? ⟨gb214, 0, none⟩ = some (.int .i64 0) := (blk_cell BK214.out 0).trans rfl; have hcz37_1 : w36.cell? ⟨gb214, 1, none⟩ = some (.int .i64 0) := (blk_cell BK214.out 1).trans rfl; have hcz37_2 : w36.cell? ⟨gb214, 2, none⟩ = some (.slice none 0 0) := (blk_cell BK214.out 2).trans rfl; have hcz37_3 : w36.cell? ⟨gb214, 3, none⟩ = some (.int .i64 0) := (blk_cell BK214.out 3).trans rfl; have hcz37_4 : w36.cell? ⟨gb214, 4, none⟩ = some (.bool false) := (blk_cell BK214.out 4).trans rfl; have hcz37_5 : w36.cell? ⟨gb214, 5, none⟩ = some (.bool false) := (blk_cell BK214.out 5).trans rfl; have hfz37_0 := blk_frozen BK214.out 0; have hfz37_1 := blk_frozen BK214.out 1; have hfz37_2 := blk_frozen BK214.out 2; have hfz37_3 := blk_frozen BK214.out 3; have hfz37_4 := blk_frozen BK214.out 4; have hfz37_5 := blk_frozen BK214.out 5; obtain ⟨Ao38, co38, eo38⟩ := Kd.R_slice HO209.out; subst eo38) | ((with_reducible refine gate_callee (f := 6) rfl ?_); refine goesL_ (some 14) rfl rfl Tryd.func6 (by kernel_rfl) rfl #[] rfl (by (try simp only [List.map_toArray, List.map_cons, List.map_nil]); first | done | rfl | (simp only [List.length_drop, List.length_take]; rfl)) ?_; (with_reducible refine (shutterlaw10_awake.calls k  true _ A4.out).mono ?_); rintro e w39 ⟨rfl, hb⟩; refine ⟨_, rfl, ?_⟩; have n0_ := Aside0.mk (Kd.R_below (by (with_reducible repeat (first | apply Kd.R_alloc | apply Kd.R_drewN | apply Kd.R_drew)); exact (Kd.R_mono (Kd.R_far (p := ⟨gb214, 5, none⟩) (Kd.R_far (p := ⟨gb214, 4, none⟩) (Kd.R_far (p := ⟨gb214, 3, none⟩) (Kd.R_far (p := ⟨gb214, 2, none⟩) (Kd.R_far (p := ⟨gb214, 1, none⟩) (Kd.R_far (p := ⟨gb214, 0, none⟩) (Kd.R_types HO209.out BK214.out (by decide)) (fun _ hk => hk.2) (.int .i64 t205)) (fun _ hk => hk.2) (.int .i64 t206)) (fun _ hk => hk.2) (.slice Ao38 t207.length co38)) (fun _ hk => hk.2) (.int .i64 t210)) (fun _ hk => hk.2) (.bool t211)) (fun _ hk => hk.2) (.bool t212)) (fun _ h_ => h_.1))) hb); have n1_ := Aside0.mk (blk_below (g := gb214) (o := .cells #[.int .i64 t205, .int .i64 t206, .slice Ao38 t207.length co38, .int .i64 t210, .bool t211, .bool t212] 24 (0, 0)) (by (with_reducible repeat (first | refine blk_drewN ?_ _ | refine blk_drew ?_ | refine blk_alloc ?_ _)); refine blk_put (cs := #[.int .i64 t205, .int .i64 t206, .slice Ao38 t207.length co38, .int .i64 t210, .bool t211, .bool false]) ?_ 5 _ rfl; (with_reducible repeat (first | refine blk_drewN ?_ _ | refine blk_drew ?_ | refine blk_alloc ?_ _)); refine blk_put (cs := #[.int .i64 t205, .int .i64 t206, .slice Ao38 t207.length co38, .int .i64 t210, .bool false, .bool false]) ?_ 4 _ rfl; (with_reducible repeat (first | refine blk_drewN ?_ _ | refine blk_drew ?_ | refine blk_alloc ?_ _)); refine blk_put (cs := #[.int .i64 t205, .int .i64 t206, .slice Ao38 t207.length co38, .int .i64 0, .bool false, .bool false]) ?_ 3 _ rfl; (with_reducible repeat (first | refine blk_drewN ?_ _ | refine blk_drew ?_ | refine blk_alloc ?_ _)); refine blk_put (cs := #[.int .i64 t205, .int .i64 t206, .slice none 0 0, .int .i64 0, .bool false, .bool false]) ?_ 2 _ rfl; (with_reducible repeat (first | refine blk_drewN ?_ _ | refine blk_drew ?_ | refine blk_alloc ?_ _)); refine blk_put (cs := #[.int .i64 t205, .int .i64 0, .slice none 0 0, .int .i64 0, .bool false, .bool false]) ?_ 1 _ rfl; (with_reducible repeat (first | refine blk_drewN ?_ _ | refine blk_drew ?_ | refine blk_alloc ?_ _)); refine blk_put (cs := #[.int .i64 0, .int .i64 0, .slice none 0 0, .int .i64 0, .bool false, .bool false]) ?_ 0 _ rfl; (with_reducible repeat (first | refine blk_drewN ?_ _ | refine blk_drew ?_ | refine blk_alloc ?_ _)); exact BK214.out) hb); have n2_ := Aside0.mk (below_step (by repeat (first | (with_reducible first | exact HB.out | apply below_alloc | apply pw_below_drewN | apply below_drew1 | refine below_set ?_ GE214.out) | exact HB.out)) hb); clear HO209; clear BK214; clear HB; have HO209 := n0_; have BK214 := n1_; have HB := n2_; clear n0_ n1_ n2_; (try clear hb); (try clear hb2); (try clear hk); (try clear hi)) | ((with_reducible refine gate_callee (f := 7) rfl ?_); refine goesL_ (some 18) rfl rfl Tryd.func7 (by kernel_rfl) rfl #[.int .i64 a0, .int .i64 a1] rfl (by (try simp only [List.map_toArray, List.map_cons, List.map_nil]); first | done | rfl | (simp only [List.length_drop, List.length_take]; rfl)) ?_; (with_reducible refine (shutterref10_Sized.calls a0 a1 false _ A6.out).mono ?_); rintro e w' ⟨rfl, ⟨nd, rfl⟩⟩; refine ⟨_, rfl, ?_⟩; have CA32 := fun (W : World) (hGlW : Aside0 (Code.Gl W)) => api_Code.calls t213 t217 W hGlW A32.out; try simp only [errW_none, errW_some] at CA32) | (go_at_call 8; (with_reducible refine (CA32 _ (by exact Aside0.mk (Code.Gl.below hGl.out (by repeat (first | (with_reducible first | exact HB.out | apply below_alloc | apply pw_below_drewN | apply below_drew1 | refine below_set ?_ (Aside0.out (by assumption))) | exact HB.out)) (Code.Gl.lt hGl.out)))).mono ?_); rintro e w40 ⟨rfl, hb⟩; have n0_ := Aside0.mk (Kd.R_below (by (with_reducible repeat (first | apply Kd.R_alloc | apply Kd.R_drewN | apply Kd.R_drew)); exact HO209.out) hb); have n1_ := Aside0.mk (blk_below (g := gb214) (o := .cells #[.int .i64 t205, .int .i64 t206, .slice Ao38 t207.length co38, .int .i64 t210, .bool t211, .bool t212] 24 (0, 0)) (by (with_reducible repeat (first | refine blk_drewN ?_ _ | refine blk_drew ?_ | refine blk_alloc ?_ _)); exact BK214.out) hb); have n2_ := Aside0.mk (below_step (by repeat (first | (with_reducible first | exact HB.out | apply below_alloc | apply pw_below_drewN | apply below_drew1 | refine below_set ?_ GE214.out) | exact HB.out)) hb); clear HO209; clear BK214; clear HB; have HO209 := n0_; have BK214 := n1_; have HB := n2_; clear n0_ n1_ n2_; (try clear hb); (try clear hb2); (try clear hk); (try clear hi); have hcz41_0 : w40.cell? ⟨gb214, 0, none⟩ = some (.int .i64 t205) := (blk_cell BK214.out 0).trans rfl; have hcz41_1 : w40.cell? ⟨gb214, 1, none⟩ = some (.int .i64 t206) := (blk_cell BK214.out 1).trans rfl; have hcz41_2 : w40.cell? ⟨gb214, 2, none⟩ = some (.slice Ao38 t207.length co38) := (blk_cell BK214.out 2).trans rfl; have hcz41_3 : w40.cell? ⟨gb214, 3, none⟩ = some (.int .i64 t210) := (blk_cell BK214.out 3).trans rfl; have hcz41_4 : w40.cell? ⟨gb214, 4, none⟩ = some (.bool t211) := (blk_cell BK214.out 4).trans rfl; have hcz41_5 : w40.cell? ⟨gb214, 5, none⟩ = some (.bool t212) := (blk_cell BK214.out 5).trans rfl; have hfz41_0 := blk_frozen BK214.out 0; have hfz41_1 := blk_frozen BK214.out 1; have hfz41_2 := blk_frozen BK214.out 2; have hfz41_3 := blk_frozen BK214.out 3; have hfz41_4 := blk_frozen BK214.out 4; have hfz41_5 := blk_frozen BK214.out 5) | (go_at_call 9; (refine (shutterref10_Same.calls k t205 t206 _ _ t207 t210 t211 t212 0 0 _ _ ([] : List (S36)) 0 false false t218 _ ?side1 ?side2 ?side3 ?side4 A34.out).mono ?_); (case side1 => repeat (first | exact (Kd.R_reads' HO209.out).2.2 | (with_reducible refine Kd.C_alloc ?_ _) | (with_reducible refine Kd.C_drewN ?_ _) | (with_reducible refine Kd.C_drew ?_))); (case side2 => exact (Kd.R_reads' HO209.out).2.1); (case side3 => exact Kd.C_nil _ _); (case side4 => exact Nat.le_refl _); rintro e w42 ⟨rfl, hb⟩; have n0_ := Aside0.mk (Kd.R_below (by (with_reducible repeat (first | apply Kd.R_alloc | apply Kd.R_drewN | apply Kd.R_drew)); exact HO209.out) hb); have n1_ := Aside0.mk (blk_below (g := gb214) (o := .cells #[.int .i64 t205, .int .i64 t206, .slice Ao38 t207.length co38, .int .i64 t210, .bool t211, .bool t212] 24 (0, 0)) (by (with_reducible repeat (first | refine blk_drewN ?_ _ | refine blk_drew ?_ | refine blk_alloc ?_ _)); exact BK214.out) hb); have n2_ := Aside0.mk (below_step (by repeat (first | (with_reducible first | exact HB.out | apply below_alloc | apply pw_below_drewN | apply below_drew1 | refine below_set ?_ GE214.out) | exact HB.out)) hb); clear HO209; clear BK214; clear HB; have HO209 := n0_; have BK214 := n1_; have HB := n2_; clear n0_ n1_ n2_; (try clear hb); (try clear hb2); (try clear hk); (try clear hi)))
        go_ret
        exact ⟨by first | rfl | (simp [errW_none, errW_some] <;> rfl) | (simp [*, errW_none, errW_some] <;> rfl), by repeat (first | (with_reducible first | exact HB.out | apply below_alloc | apply pw_below_drewN | apply below_drew1 | refine below_set ?_ GE214.out) | exact HB.out)⟩
      · rw [if_neg c33] at H
        have c33b0 : (t217 == 1) = false := beq_eq_false_iff_ne.mpr c33
        have c33b1 : (t217 != 1) = true := bne_iff_ne.mpr c33
        obtain rfl := Option.some.inj H
        go_enter Tryd.func3, Tryd.ntmps3
        go_wp2_with (first | ((with_reducible refine gate_callee (f := 5) rfl ?_); refine goesL_ (some 11) rfl rfl Tryd.func5 (by kernel_rfl) rfl #[.int .i64 a0, .int .i64 a1] rfl (by (try simp only [List.map_toArray, List.map_cons, List.map_nil]); first | done | rfl | (simp only [List.length_drop, List.length_take]; rfl)) ?_; (with_reducible refine (grid_New.calls a0 a1 t205 t206 t207 t210 t211 t212 t213 _ A3.out).mono ?_); rintro e w43 ⟨v208, rfl, ho0, hb⟩; refine ⟨_, rfl, ?_⟩; have n0_ := Aside0.mk (Kd.R_lower ho0 (below_size (by repeat (first | (with_reducible first | exact HB.out | apply below_alloc | apply pw_below_drewN | apply below_drew1) | exact HB.out)))); have n1_ := Aside0.mk (below_step (by repeat (first | (with_reducible first | exact HB.out | apply below_alloc | apply pw_below_drewN | apply below_drew1) | exact HB.out)) hb); clear HB; have HO209 := n0_; have HB := n1_; clear n0_ n1_; (try clear hb); (try clear hb2); (try clear hk); (try clear hi); (try clear ho0); (try simp only [errW_none, errW_some])) | ((with_reducible refine gate_dst (N := 5) rfl ?_); (try (refine gate_guard (by rfl) ?_; dsimp only)); refine box_event ?hg (N := 5) ?hd (cs := #[.int .i64 0, .int .i64 0, .slice none 0 0, .int .i64 0, .bool false, .bool false]) (t := 24) ?hr ?_; (case hd => rfl); (case hg => rfl); (case hr => first | (go_simp; done) | (go_simp; rfl)); intro gb214 hg w44 hbox hb; have n0_ := Aside0.mk (Kd.R_below (by (with_reducible repeat (first | apply Kd.R_alloc | apply Kd.R_drewN | apply Kd.R_drew)); exact HO209.out) hb); have n1_ := Aside0.mk (below_step (by repeat (first | (with_reducible first | exact HB.out | apply below_alloc | apply pw_below_drewN | apply below_drew1) | exact HB.out)) hb); have n2_ := Aside0.mk (hbox); have n3_ := Aside0.mk ((by rw [hg]; exact (below_size (by repeat (first | (with_reducible first | exact HB.out | apply below_alloc | apply pw_below_drewN | apply below_drew1) | exact HB.out))) : w.heap.size ≤ gb214)); have n4_ := Aside0.mk ((by rw [hg]; exact (below_size (by repeat (first | (with_reducible first | exact HB.out | apply below_alloc | apply pw_below_drewN | apply below_drew1) | exact HB.out))) : w.heap.size ≤ gb214)); clear HO209; clear HB; have HO209 := n0_; have HB := n1_; have BK214 := n2_; have GW214 := n3_; have GE214 := n4_; clear n0_ n1_ n2_ n3_ n4_; clear hb hbox hg; have hcz45_0 : w44.cell? ⟨gb214, 0, none⟩ = some (.int .i64 0) := (blk_cell BK214.out 0).trans rfl; have hcz45_1 : w44.cell? ⟨gb214, 1, none⟩ = some (.int .i64 0) := (blk_cell BK214.out 1).trans rfl; have hcz45_2 : w44.cell? ⟨gb214, 2, none⟩ = some (.slice none 0 0) := (blk_cell BK214.out 2).trans rfl; have hcz45_3 : w44.cell? ⟨gb214, 3, none⟩ = some (.int .i64 0) := (blk_cell BK214.out 3).trans rfl; have hcz45_4 : w44.cell? ⟨gb214, 4, none⟩ = some (.bool false) := (blk_cell BK214.out 4).trans rfl; have hcz45_5 : w44.cell? ⟨gb214, 5, none⟩ = some (.bool false) := (blk_cell BK214.out 5).trans rfl; have hfz45_0 := blk_frozen BK214.out 0; have hfz45_1 := blk_frozen BK214.out 1; have hfz45_2 := blk_frozen BK214.out 2; have hfz45_3 := blk_frozen BK214.out 3; have hfz45_4 := blk_frozen BK214.out 4; have hfz45_5 := blk_frozen BK214.out 5; obtain ⟨Ao46, co46, eo46⟩ := Kd.R_slice HO209.out; subst eo46) | ((with_reducible refine gate_callee (f := 6) rfl ?_); refine goesL_ (some 14) rfl rfl Tryd.func6 (by kernel_rfl) rfl #[] rfl (by (try simp only [List.map_toArray, List.map_cons, List.map_nil]); first | done | rfl | (simp only [List.length_drop, List.length_take]; rfl)) ?_; (with_reducible refine (shutterlaw10_awake.calls k  true _ A4.out).mono ?_); rintro e w47 ⟨rfl, hb⟩; refine ⟨_, rfl, ?_⟩; have n0_ := Aside0.mk (Kd.R_below (by (with_reducible repeat (first | apply Kd.R_alloc | apply Kd.R_drewN | apply Kd.R_drew)); exact (Kd.R_mono (Kd.R_far (p := ⟨gb214, 5, none⟩) (Kd.R_far (p := ⟨gb214, 4, none⟩) (Kd.R_far (p := ⟨gb214, 3, none⟩) (Kd.R_far (p := ⟨gb214, 2, none⟩) (Kd.R_far (p := ⟨gb214, 1, none⟩) (Kd.R_far (p := ⟨gb214, 0, none⟩) (Kd.R_types HO209.out BK214.out (by decide)) (fun _ hk => hk.2) (.int .i64 t205)) (fun _ hk => hk.2) (.int .i64 t206)) (fun _ hk => hk.2) (.slice Ao46 t207.length co46)) (fun _ hk => hk.2) (.int .i64 t210)) (fun _ hk => hk.2) (.bool t211)) (fun _ hk => hk.2) (.bool t212)) (fun _ h_ => h_.1))) hb); have n1_ := Aside0.mk (blk_below (g := gb214) (o := .cells #[.int .i64 t205, .int .i64 t206, .slice Ao46 t207.length co46, .int .i64 t210, .bool t211, .bool t212] 24 (0, 0)) (by (with_reducible repeat (first | refine blk_drewN ?_ _ | refine blk_drew ?_ | refine blk_alloc ?_ _)); refine blk_put (cs := #[.int .i64 t205, .int .i64 t206, .slice Ao46 t207.length co46, .int .i64 t210, .bool t211, .bool false]) ?_ 5 _ rfl; (with_reducible repeat (first | refine blk_drewN ?_ _ | refine blk_drew ?_ | refine blk_alloc ?_ _)); refine blk_put (cs := #[.int .i64 t205, .int .i64 t206, .slice Ao46 t207.length co46, .int .i64 t210, .bool false, .bool false]) ?_ 4 _ rfl; (with_reducible repeat (first | refine blk_drewN ?_ _ | refine blk_drew ?_ | refine blk_alloc ?_ _)); refine blk_put (cs := #[.int .i64 t205, .int .i64 t206, .slice Ao46 t207.length co46, .int .i64 0, .bool false, .bool false]) ?_ 3 _ rfl; (with_reducible repeat (first | refine blk_drewN ?_ _ | refine blk_drew ?_ | refine blk_alloc ?_ _)); refine blk_put (cs := #[.int .i64 t205, .int .i64 t206, .slice none 0 0, .int .i64 0, .bool false, .bool false]) ?_ 2 _ rfl; (with_reducible repeat (first | refine blk_drewN ?_ _ | refine blk_drew ?_ | refine blk_alloc ?_ _)); refine blk_put (cs := #[.int .i64 t205, .int .i64 0, .slice none 0 0, .int .i64 0, .bool false, .bool false]) ?_ 1 _ rfl; (with_reducible repeat (first | refine blk_drewN ?_ _ | refine blk_drew ?_ | refine blk_alloc ?_ _)); refine blk_put (cs := #[.int .i64 0, .int .i64 0, .slice none 0 0, .int .i64 0, .bool false, .bool false]) ?_ 0 _ rfl; (with_reducible repeat (first | refine blk_drewN ?_ _ | refine blk_drew ?_ | refine blk_alloc ?_ _)); exact BK214.out) hb); have n2_ := Aside0.mk (below_step (by repeat (first | (with_reducible first | exact HB.out | apply below_alloc | apply pw_below_drewN | apply below_drew1 | refine below_set ?_ GE214.out) | exact HB.out)) hb); clear HO209; clear BK214; clear HB; have HO209 := n0_; have BK214 := n1_; have HB := n2_; clear n0_ n1_ n2_; (try clear hb); (try clear hb2); (try clear hk); (try clear hi)) | ((with_reducible refine gate_callee (f := 7) rfl ?_); refine goesL_ (some 18) rfl rfl Tryd.func7 (by kernel_rfl) rfl #[.int .i64 a0, .int .i64 a1] rfl (by (try simp only [List.map_toArray, List.map_cons, List.map_nil]); first | done | rfl | (simp only [List.length_drop, List.length_take]; rfl)) ?_; (with_reducible refine (shutterref10_Sized.calls a0 a1 false _ A6.out).mono ?_); rintro e w' ⟨rfl, ⟨nd, rfl⟩⟩; refine ⟨_, rfl, ?_⟩; have CA32 := fun (W : World) (hGlW : Aside0 (Code.Gl W)) => api_Code.calls t213 t217 W hGlW A32.out; try simp only [errW_none, errW_some] at CA32) | (go_at_call 8; (with_reducible refine (CA32 _ (by exact Aside0.mk (Code.Gl.below hGl.out (by repeat (first | (with_reducible first | exact HB.out | apply below_alloc | apply pw_below_drewN | apply below_drew1 | refine below_set ?_ (Aside0.out (by assumption))) | exact HB.out)) (Code.Gl.lt hGl.out)))).mono ?_); rintro e w48 ⟨rfl, hb⟩; have n0_ := Aside0.mk (Kd.R_below (by (with_reducible repeat (first | apply Kd.R_alloc | apply Kd.R_drewN | apply Kd.R_drew)); exact HO209.out) hb); have n1_ := Aside0.mk (blk_below (g := gb214) (o := .cells #[.int .i64 t205, .int .i64 t206, .slice Ao46 t207.length co46, .int .i64 t210, .bool t211, .bool t212] 24 (0, 0)) (by (with_reducible repeat (first | refine blk_drewN ?_ _ | refine blk_drew ?_ | refine blk_alloc ?_ _)); exact BK214.out) hb); have n2_ := Aside0.mk (below_step (by repeat (first | (with_reducible first | exact HB.out | apply below_alloc | apply pw_below_drewN | apply below_drew1 | refine below_set ?_ GE214.out) | exact HB.out)) hb); clear HO209; clear BK214; clear HB; have HO209 := n0_; have BK214 := n1_; have HB := n2_; clear n0_ n1_ n2_; (try clear hb); (try clear hb2); (try clear hk); (try clear hi)))
        go_ret
        exact ⟨by first | rfl | (simp [errW_none, errW_some] <;> rfl) | (simp [*, errW_none, errW_some] <;> rfl), by repeat (first | (with_reducible first | exact HB.out | apply below_alloc | apply pw_below_drewN | apply below_drew1 | refine below_set ?_ GE214.out) | exact HB.out)⟩
  · replace c5 := Bool.eq_false_iff.mpr c5
    subst c5
    have H1 : (some false) = some r := by rw [if_neg (show ¬ (false = true) by decide)] at H; exact H
    clear H
    have H := H1
    clear H1
    obtain rfl := Option.some.inj H
    go_enter Tryd.func3, Tryd.ntmps3
    go_wp2_with (first | ((with_reducible refine gate_callee (f := 5) rfl ?_); refine goesL_ (some 11) rfl rfl Tryd.func5 (by kernel_rfl) rfl #[.int .i64 a0, .int .i64 a1] rfl (by (try simp only [List.map_toArray, List.map_cons, List.map_nil]); first | done | rfl | (simp only [List.length_drop, List.length_take]; rfl)) ?_; (with_reducible refine (grid_New.calls a0 a1 t205 t206 t207 t210 t211 t212 t213 _ A3.out).mono ?_); rintro e w49 ⟨v208, rfl, ho0, hb⟩; refine ⟨_, rfl, ?_⟩; have n0_ := Aside0.mk (Kd.R_lower ho0 (below_size (by repeat (first | (with_reducible first | exact HB.out | apply below_alloc | apply pw_below_drewN | apply below_drew1) | exact HB.out)))); have n1_ := Aside0.mk (below_step (by repeat (first | (with_reducible first | exact HB.out | apply below_alloc | apply pw_below_drewN | apply below_drew1) | exact HB.out)) hb); clear HB; have HO209 := n0_; have HB := n1_; clear n0_ n1_; (try clear hb); (try clear hb2); (try clear hk); (try clear hi); (try clear ho0); (try simp only [errW_none, errW_some])) | ((with_reducible refine gate_dst (N := 5) rfl ?_); (try (refine gate_guard (by rfl) ?_; dsimp only)); refine box_event ?hg (N := 5) ?hd (cs := #[.int .i64 0, .int .i64 0, .slice none 0 0, .int .i64 0, .bool false, .bool false]) (t := 24) ?hr ?_; (case hd => rfl); (case hg => rfl); (case hr => first | (go_simp; done) | (go_simp; rfl)); intro gb214 hg w50 hbox hb; have n0_ := Aside0.mk (Kd.R_below (by (with_reducible repeat (first | apply Kd.R_alloc | apply Kd.R_drewN | apply Kd.R_drew)); exact HO209.out) hb); have n1_ := Aside0.mk (below_step (by repeat (first | (with_reducible first | exact HB.out | apply below_alloc | apply pw_below_drewN | apply below_drew1) | exact HB.out)) hb); have n2_ := Aside0.mk (hbox); have n3_ := Aside0.mk ((by rw [hg]; exact (below_size (by repeat (first | (with_reducible first | exact HB.out | apply below_alloc | apply pw_below_drewN | apply below_drew1) | exact HB.out))) : w.heap.size ≤ gb214)); have n4_ := Aside0.mk ((by rw [hg]; exact (below_size (by repeat (first | (with_reducible first | exact HB.out | apply below_alloc | apply pw_below_drewN | apply below_drew1) | exact HB.out))) : w.heap.size ≤ gb214)); clear HO209; clear HB; have HO209 := n0_; have HB := n1_; have BK214 := n2_; have GW214 := n3_; have GE214 := n4_; clear n0_ n1_ n2_ n3_ n4_; clear hb hbox hg; have hcz51_0 : w50.cell? ⟨gb214, 0, none⟩ = some (.int .i64 0) := (blk_cell BK214.out 0).trans rfl; have hcz51_1 : w50.cell? ⟨gb214, 1, none⟩ = some (.int .i64 0) := (blk_cell BK214.out 1).trans rfl; have hcz51_2 : w50.cell? ⟨gb214, 2, none⟩ = some (.slice none 0 0) := (blk_cell BK214.out 2).trans rfl; have hcz51_3 : w50.cell? ⟨gb214, 3, none⟩ = some (.int .i64 0) := (blk_cell BK214.out 3).trans rfl; have hcz51_4 : w50.cell? ⟨gb214, 4, none⟩ = some (.bool false) := (blk_cell BK214.out 4).trans rfl; have hcz51_5 : w50.cell? ⟨gb214, 5, none⟩ = some (.bool false) := (blk_cell BK214.out 5).trans rfl; have hfz51_0 := blk_frozen BK214.out 0; have hfz51_1 := blk_frozen BK214.out 1; have hfz51_2 := blk_frozen BK214.out 2; have hfz51_3 := blk_frozen BK214.out 3; have hfz51_4 := blk_frozen BK214.out 4; have hfz51_5 := blk_frozen BK214.out 5; obtain ⟨Ao52, co52, eo52⟩ := Kd.R_slice HO209.out; subst eo52) | ((with_reducible refine gate_callee (f := 6) rfl ?_); refine goesL_ (some 14) rfl rfl Tryd.func6 (by kernel_rfl) rfl #[] rfl (by (try simp only [List.map_toArray, List.map_cons, List.map_nil]); first | done | rfl | (simp only [List.length_drop, List.length_take]; rfl)) ?_; (with_reducible refine (shutterlaw10_awake.calls k  false _ A4.out).mono ?_); rintro e w53 ⟨rfl, hb⟩; refine ⟨_, rfl, ?_⟩; have n0_ := Aside0.mk (Kd.R_below (by (with_reducible repeat (first | apply Kd.R_alloc | apply Kd.R_drewN | apply Kd.R_drew)); exact (Kd.R_mono (Kd.R_far (p := ⟨gb214, 5, none⟩) (Kd.R_far (p := ⟨gb214, 4, none⟩) (Kd.R_far (p := ⟨gb214, 3, none⟩) (Kd.R_far (p := ⟨gb214, 2, none⟩) (Kd.R_far (p := ⟨gb214, 1, none⟩) (Kd.R_far (p := ⟨gb214, 0, none⟩) (Kd.R_types HO209.out BK214.out (by decide)) (fun _ hk => hk.2) (.int .i64 t205)) (fun _ hk => hk.2) (.int .i64 t206)) (fun _ hk => hk.2) (.slice Ao52 t207.length co52)) (fun _ hk => hk.2) (.int .i64 t210)) (fun _ hk => hk.2) (.bool t211)) (fun _ hk => hk.2) (.bool t212)) (fun _ h_ => h_.1))) hb); have n1_ := Aside0.mk (blk_below (g := gb214) (o := .cells #[.int .i64 t205, .int .i64 t206, .slice Ao52 t207.length co52, .int .i64 t210, .bool t211, .bool t212] 24 (0, 0)) (by (with_reducible repeat (first | refine blk_drewN ?_ _ | refine blk_drew ?_ | refine blk_alloc ?_ _)); refine blk_put (cs := #[.int .i64 t205, .int .i64 t206, .slice Ao52 t207.length co52, .int .i64 t210, .bool t211, .bool false]) ?_ 5 _ rfl; (with_reducible repeat (first | refine blk_drewN ?_ _ | refine blk_drew ?_ | refine blk_alloc ?_ _)); refine blk_put (cs := #[.int .i64 t205, .int .i64 t206, .slice Ao52 t207.length co52, .int .i64 t210, .bool false, .bool false]) ?_ 4 _ rfl; (with_reducible repeat (first | refine blk_drewN ?_ _ | refine blk_drew ?_ | refine blk_alloc ?_ _)); refine blk_put (cs := #[.int .i64 t205, .int .i64 t206, .slice Ao52 t207.length co52, .int .i64 0, .bool false, .bool false]) ?_ 3 _ rfl; (with_reducible repeat (first | refine blk_drewN ?_ _ | refine blk_drew ?_ | refine blk_alloc ?_ _)); refine blk_put (cs := #[.int .i64 t205, .int .i64 t206, .slice none 0 0, .int .i64 0, .bool false, .bool false]) ?_ 2 _ rfl; (with_reducible repeat (first | refine blk_drewN ?_ _ | refine blk_drew ?_ | refine blk_alloc ?_ _)); refine blk_put (cs := #[.int .i64 t205, .int .i64 0, .slice none 0 0, .int .i64 0, .bool false, .bool false]) ?_ 1 _ rfl; (with_reducible repeat (first | refine blk_drewN ?_ _ | refine blk_drew ?_ | refine blk_alloc ?_ _)); refine blk_put (cs := #[.int .i64 0, .int .i64 0, .slice none 0 0, .int .i64 0, .bool false, .bool false]) ?_ 0 _ rfl; (with_reducible repeat (first | refine blk_drewN ?_ _ | refine blk_drew ?_ | refine blk_alloc ?_ _)); exact BK214.out) hb); have n2_ := Aside0.mk (below_step (by repeat (first | (with_reducible first | exact HB.out | apply below_alloc | apply pw_below_drewN | apply below_drew1 | refine below_set ?_ GE214.out) | exact HB.out)) hb); clear HO209; clear BK214; clear HB; have HO209 := n0_; have BK214 := n1_; have HB := n2_; clear n0_ n1_ n2_; (try clear hb); (try clear hb2); (try clear hk); (try clear hi)))
    go_ret
    exact ⟨by first | rfl | (simp [errW_none, errW_some] <;> rfl) | (simp [*, errW_none, errW_some] <;> rfl), by repeat (first | (with_reducible first | exact HB.out | apply below_alloc | apply pw_below_drewN | apply below_drew1 | refine below_set ?_ GE214.out) | exact HB.out)⟩

/-- THE ONE PURE STATEMENT of shutterlaw10_GridNews: yours. -/
def shutterlaw10_GridNews.Pure : Prop := ∀ (a0 : Int) (a1 : Int), (Lit.int .i64 a0).wf = true → (Lit.int .i64 a1).wf = true → ∃ k, shutterlaw10_GridNews.f k a0 a1 = some true
theorem shutterlaw10_GridNews.walk (P : shutterlaw10_GridNews.Pure) (a0 : Int) (a1 : Int) (w : World) (hGl : Aside0 (Code.Gl w)) (w0 : (Lit.int .i64 a0).wf = true) (w1 : (Lit.int .i64 a1).wf = true) :
    Calls Tryd.prog 3 #[.int .i64 a0, .int .i64 a1] w fun e w' => e = .returned (.bool true) ∧ Below w.heap.size w w' := by
  obtain ⟨k, h⟩ := P a0 a1 w0 w1
  refine (shutterlaw10_GridNews.calls k a0 a1 true w hGl h).mono ?_
  rintro e w' ⟨rfl, hd⟩
  exact ⟨rfl, hd⟩

/-! ### shutterref05_Char: function 23 -/
def shutterref05_Char.f (a0 : Int) : Option (Bool) := if a0 = 0 then (some true) else (if a0 = 28 then (some true) else (if a0 = 30 then (some true) else (if a0 ≥ 64 then (some (decide (a0 ≤ 254))) else (some false))))
set_option maxHeartbeats 8000000 in
set_option maxRecDepth 100000 in
theorem shutterref05_Char.calls (a0 : Int) (r : Bool) (w : World) (h : shutterref05_Char.f a0 = some r) :
    Calls Tryd.prog 23 #[.int .u8 a0] w fun e w' => e = .returned (.bool r) ∧ Drawn0 w w' := by
  have H : (if a0 = 0 then (some true) else (if a0 = 28 then (some true) else (if a0 = 30 then (some true) else (if a0 ≥ 64 then (some (decide (a0 ≤ 254))) else (some false))))) = some r := h
  clear h
  by_cases c2 : a0 = 0
  · rw [if_pos c2] at H
    have c2b0 : (a0 == 0) = true := beq_iff_eq.mpr c2
    have c2b1 : (a0 != 0) = false := bne_eq_false_iff_eq.mpr c2
    clear c2
    obtain rfl := Option.some.inj H
    go_enter Tryd.func23, Tryd.ntmps23
    go_wp2
    go_ret
    exact ⟨by first | rfl | (simp; done) | (simp [IntKind.wrap_u8, i64_w]; done) | (simp only [IntKind.wrap_u8, IntKind.wrap_i64, i64_w]; done) | (simp [*]; done), by repeat (first | exact Drawn0.refl _ | apply Drawn0.step)⟩
  · rw [if_neg c2] at H
    have c2b0 : (a0 == 0) = false := beq_eq_false_iff_ne.mpr c2
    have c2b1 : (a0 != 0) = true := bne_iff_ne.mpr c2
    by_cases c3 : a0 = 28
    · rw [if_pos c3] at H
      have c3b0 : (a0 == 28) = true := beq_iff_eq.mpr c3
      have c3b1 : (a0 != 28) = false := bne_eq_false_iff_eq.mpr c3
      clear c3
      obtain rfl := Option.some.inj H
      go_enter Tryd.func23, Tryd.ntmps23
      go_wp2
      go_ret
      exact ⟨by first | rfl | (simp; done) | (simp [IntKind.wrap_u8, i64_w]; done) | (simp only [IntKind.wrap_u8, IntKind.wrap_i64, i64_w]; done) | (simp [*]; done), by repeat (first | exact Drawn0.refl _ | apply Drawn0.step)⟩
    · rw [if_neg c3] at H
      have c3b0 : (a0 == 28) = false := beq_eq_false_iff_ne.mpr c3
      have c3b1 : (a0 != 28) = true := bne_iff_ne.mpr c3
      by_cases c4 : a0 = 30
      · rw [if_pos c4] at H
        have c4b0 : (a0 == 30) = true := beq_iff_eq.mpr c4
        have c4b1 : (a0 != 30) = false := bne_eq_false_iff_eq.mpr c4
        clear c4
        obtain rfl := Option.some.inj H
        go_enter Tryd.func23, Tryd.ntmps23
        go_wp2
        go_ret
        exact ⟨by first | rfl | (simp; done) | (simp [IntKind.wrap_u8, i64_w]; done) | (simp only [IntKind.wrap_u8, IntKind.wrap_i64, i64_w]; done) | (simp [*]; done), by repeat (first | exact Drawn0.refl _ | apply Drawn0.step)⟩
      · rw [if_neg c4] at H
        have c4b0 : (a0 == 30) = false := beq_eq_false_iff_ne.mpr c4
        have c4b1 : (a0 != 30) = true := bne_iff_ne.mpr c4
        by_cases c5 : a0 ≥ 64
        · rw [if_pos c5] at H
          have c5b0 : decide (64 ≤ a0) = true := decide_eq_true c5
          clear c5
          obtain rfl := Option.some.inj H
          go_enter Tryd.func23, Tryd.ntmps23
          go_wp2
          go_ret
          exact ⟨by first | rfl | (simp; done) | (simp [IntKind.wrap_u8, i64_w]; done) | (simp only [IntKind.wrap_u8, IntKind.wrap_i64, i64_w]; done) | (simp [*]; done), by repeat (first | exact Drawn0.refl _ | apply Drawn0.step)⟩
        · rw [if_neg c5] at H
          have c5b0 : decide (64 ≤ a0) = false := decide_eq_false c5
          clear c5
          obtain rfl := Option.some.inj H
          go_enter Tryd.func23, Tryd.ntmps23
          go_wp2
          go_ret
          exact ⟨by first | rfl | (simp; done) | (simp [IntKind.wrap_u8, i64_w]; done) | (simp only [IntKind.wrap_u8, IntKind.wrap_i64, i64_w]; done) | (simp [*]; done), by repeat (first | exact Drawn0.refl _ | apply Drawn0.step)⟩

/-! ### shutterref10_Cell: function 12 -/
def shutterref10_Cell.f (a0_0 : Bool) (a0_1 : Bool) (a0_2 : Bool) (a0_3 : Int) (a0_4 : Bool) (a0_5 : Int) : Option (Bool) := if a0_0 = true then (if a0_5 = 0 then (if a0_3 ≥ 0 then (some (decide (a0_3 ≤ 3))) else (some false)) else (some false)) else (if (!a0_1 && (!a0_2 && (a0_3 == 0 && (!a0_4)))) = true then ((shutterref05_Char.f a0_5).bind fun t222 => (some t222)) else (some false))
set_option maxHeartbeats 8000000 in
set_option maxRecDepth 100000 in
theorem shutterref10_Cell.calls (a0_0 : Bool) (a0_1 : Bool) (a0_2 : Bool) (a0_3 : Int) (a0_4 : Bool) (a0_5 : Int) (r : Bool) (w : World) (h : shutterref10_Cell.f a0_0 a0_1 a0_2 a0_3 a0_4 a0_5 = some r) :
    Calls Tryd.prog 12 #[.agg #[.bool a0_0, .bool a0_1, .bool a0_2, .int .i64 a0_3, .bool a0_4, .int .u8 a0_5]] w fun e w' => e = .returned (.bool r) ∧ Below w.heap.size w w' := by
  have hu36 := Tryd.underlying36
  have hu34 := Tryd.underlying34
  have HB := Aside0.mk (Below.refl w.heap.size w)
  have H : (if a0_0 = true then (if a0_5 = 0 then (if a0_3 ≥ 0 then (some (decide (a0_3 ≤ 3))) else (some false)) else (some false)) else (if (!a0_1 && (!a0_2 && (a0_3 == 0 && (!a0_4)))) = true then ((shutterref05_Char.f a0_5).bind fun t222 => (some t222)) else (some false))) = some r := h
  clear h
  by_cases c2 : a0_0 = true
  · subst c2
    have H1 : (if a0_5 = 0 then (if a0_3 ≥ 0 then (some (decide (a0_3 ≤ 3))) else (some false)) else (some false)) = some r := by rw [if_pos rfl] at H; exact H
    clear H
    have H := H1
    clear H1
    by_cases c3 : a0_5 = 0
    · rw [if_pos c3] at H
      have c3b0 : (a0_5 == 0) = true := beq_iff_eq.mpr c3
      have c3b1 : (a0_5 != 0) = false := bne_eq_false_iff_eq.mpr c3
      clear c3
      by_cases c4 : a0_3 ≥ 0
      · rw [if_pos c4] at H
        have c4b0 : decide (0 ≤ a0_3) = true := decide_eq_true c4
        clear c4
        obtain rfl := Option.some.inj H
        go_enter Tryd.func12, Tryd.ntmps12
        go_wp2_with (first | ((with_reducible refine gate_dst (N := 1) rfl ?_); refine box_event ?hg (N := 1) ?hd (cs := #[.bool true, .bool a0_1, .bool a0_2, .int .i64 a0_3, .bool a0_4, .int .u8 a0_5]) (t := 36) ?hr ?_; (case hd => rfl); (case hg => rfl); (case hr => first | (go_simp; done) | (go_simp; rfl)); intro gb221 hg w5 hbox hb; have n0_ := Aside0.mk (below_step (by repeat (first | (with_reducible first | exact HB.out | apply below_alloc | apply pw_below_drewN | apply below_drew1) | exact HB.out)) hb); have n1_ := Aside0.mk (hbox); have n2_ := Aside0.mk ((by rw [hg]; exact (below_size (by repeat (first | (with_reducible first | exact HB.out | apply below_alloc | apply pw_below_drewN | apply below_drew1) | exact HB.out))) : w.heap.size ≤ gb221)); have n3_ := Aside0.mk ((by rw [hg]; exact (below_size (by repeat (first | (with_reducible first | exact HB.out | apply below_alloc | apply pw_below_drewN | apply below_drew1) | exact HB.out))) : w.heap.size ≤ gb221)); clear HB; have HB := n0_; have BK221 := n1_; have GW221 := n2_; have GE221 := n3_; clear n0_ n1_ n2_ n3_; clear hb hbox hg; have hcz6_0 : w5.cell? ⟨gb221, 0, none⟩ = some (.bool true) := (blk_cell BK221.out 0).trans rfl; have hcz6_1 : w5.cell? ⟨gb221, 1, none⟩ = some (.bool a0_1) := (blk_cell BK221.out 1).trans rfl; have hcz6_2 : w5.cell? ⟨gb221, 2, none⟩ = some (.bool a0_2) := (blk_cell BK221.out 2).trans rfl; have hcz6_3 : w5.cell? ⟨gb221, 3, none⟩ = some (.int .i64 a0_3) := (blk_cell BK221.out 3).trans rfl; have hcz6_4 : w5.cell? ⟨gb221, 4, none⟩ = some (.bool a0_4) := (blk_cell BK221.out 4).trans rfl; have hcz6_5 : w5.cell? ⟨gb221, 5, none⟩ = some (.int .u8 a0_5) := (blk_cell BK221.out 5).trans rfl; have hfz6_0 := blk_frozen BK221.out 0; have hfz6_1 := blk_frozen BK221.out 1; have hfz6_2 := blk_frozen BK221.out 2; have hfz6_3 := blk_frozen BK221.out 3; have hfz6_4 := blk_frozen BK221.out 4; have hfz6_5 := blk_frozen BK221.out 5))
        go_ret
        exact ⟨by first | rfl | (simp [errW_none, errW_some] <;> rfl) | (simp [*, errW_none, errW_some] <;> rfl), by repeat (first | (with_reducible first | exact HB.out | apply below_alloc | apply pw_below_drewN | apply below_drew1 | refine below_set ?_ GE221.out) | exact HB.out)⟩
      · rw [if_neg c4] at H
        have c4b0 : decide (0 ≤ a0_3) = false := decide_eq_false c4
        clear c4
        obtain rfl := Option.some.inj H
        go_enter Tryd.func12, Tryd.ntmps12
        go_wp2_with (first | ((with_reducible refine gate_dst (N := 1) rfl ?_); refine box_event ?hg (N := 1) ?hd (cs := #[.bool true, .bool a0_1, .bool a0_2, .int .i64 a0_3, .bool a0_4, .int .u8 a0_5]) (t := 36) ?hr ?_; (case hd => rfl); (case hg => rfl); (case hr => first | (go_simp; done) | (go_simp; rfl)); intro gb221 hg w7 hbox hb; have n0_ := Aside0.mk (below_step (by repeat (first | (with_reducible first | exact HB.out | apply below_alloc | apply pw_below_drewN | apply below_drew1) | exact HB.out)) hb); have n1_ := Aside0.mk (hbox); have n2_ := Aside0.mk ((by rw [hg]; exact (below_size (by repeat (first | (with_reducible first | exact HB.out | apply below_alloc | apply pw_below_drewN | apply below_drew1) | exact HB.out))) : w.heap.size ≤ gb221)); have n3_ := Aside0.mk ((by rw [hg]; exact (below_size (by repeat (first | (with_reducible first | exact HB.out | apply below_alloc | apply pw_below_drewN | apply below_drew1) | exact HB.out))) : w.heap.size ≤ gb221)); clear HB; have HB := n0_; have BK221 := n1_; have GW221 := n2_; have GE221 := n3_; clear n0_ n1_ n2_ n3_; clear hb hbox hg; have hcz8_0 : w7.cell? ⟨gb221, 0, none⟩ = some (.bool true) := (blk_cell BK221.out 0).trans rfl; have hcz8_1 : w7.cell? ⟨gb221, 1, none⟩ = some (.bool a0_1) := (blk_cell BK221.out 1).trans rfl; have hcz8_2 : w7.cell? ⟨gb221, 2, none⟩ = some (.bool a0_2) := (blk_cell BK221.out 2).trans rfl; have hcz8_3 : w7.cell? ⟨gb221, 3, none⟩ = some (.int .i64 a0_3) := (blk_cell BK221.out 3).trans rfl; have hcz8_4 : w7.cell? ⟨gb221, 4, none⟩ = some (.bool a0_4) := (blk_cell BK221.out 4).trans rfl; have hcz8_5 : w7.cell? ⟨gb221, 5, none⟩ = some (.int .u8 a0_5) := (blk_cell BK221.out 5).trans rfl; have hfz8_0 := blk_frozen BK221.out 0; have hfz8_1 := blk_frozen BK221.out 1; have hfz8_2 := blk_frozen BK221.out 2; have hfz8_3 := blk_frozen BK221.out 3; have hfz8_4 := blk_frozen BK221.out 4; have hfz8_5 := blk_frozen BK221.out 5))
        go_ret
        exact ⟨by first | rfl | (simp [errW_none, errW_some] <;> rfl) | (simp [*, errW_none, errW_some] <;> rfl), by repeat (first | (with_reducible first | exact HB.out | apply below_alloc | apply pw_below_drewN | apply below_drew1 | refine below_set ?_ GE221.out) | exact HB.out)⟩
    · rw [if_neg c3] at H
      have c3b0 : (a0_5 == 0) = false := beq_eq_false_iff_ne.mpr c3
      have c3b1 : (a0_5 != 0) = true := bne_iff_ne.mpr c3
      obtain rfl := Option.some.inj H
      go_enter Tryd.func12, Tryd.ntmps12
      go_wp2_with (first | ((with_reducible refine gate_dst (N := 1) rfl ?_); refine box_event ?hg (N := 1) ?hd (cs := #[.bool true, .bool a0_1, .bool a0_2, .int .i64 a0_3, .bool a0_4, .int .u8 a0_5]) (t := 36) ?hr ?_; (case hd => rfl); (case hg => rfl); (case hr => first | (go_simp; done) | (go_simp; rfl)); intro gb221 hg w9 hbox hb; have n0_ := Aside0.mk (below_step (by repeat (first | (with_reducible first | exact HB.out | apply below_alloc | apply pw_below_drewN | apply below_drew1) | exact HB.out)) hb); have n1_ := Aside0.mk (hbox); have n2_ := Aside0.mk ((by rw [hg]; exact (below_size (by repeat (first | (with_reducible first | exact HB.out | apply below_alloc | apply pw_below_drewN | apply below_drew1) | exact HB.out))) : w.heap.size ≤ gb221)); have n3_ := Aside0.mk ((by rw [hg]; exact (below_size (by repeat (first | (with_reducible first | exact HB.out | apply below_alloc | apply pw_below_drewN | apply below_drew1) | exact HB.out))) : w.heap.size ≤ gb221)); clear HB; have HB := n0_; have BK221 := n1_; have GW221 := n2_; have GE221 := n3_; clear n0_ n1_ n2_ n3_; clear hb hbox hg; have hcz10_0 : w9.cell? ⟨gb221, 0, none⟩ = some (.bool true) := (blk_cell BK221.out 0).trans rfl; have hcz10_1 : w9.cell? ⟨gb221, 1, none⟩ = some (.bool a0_1) := (blk_cell BK221.out 1).trans rfl; have hcz10_2 : w9.cell? ⟨gb221, 2, none⟩ = some (.bool a0_2) := (blk_cell BK221.out 2).trans rfl; have hcz10_3 : w9.cell? ⟨gb221, 3, none⟩ = some (.int .i64 a0_3) := (blk_cell BK221.out 3).trans rfl; have hcz10_4 : w9.cell? ⟨gb221, 4, none⟩ = some (.bool a0_4) := (blk_cell BK221.out 4).trans rfl; have hcz10_5 : w9.cell? ⟨gb221, 5, none⟩ = some (.int .u8 a0_5) := (blk_cell BK221.out 5).trans rfl; have hfz10_0 := blk_frozen BK221.out 0; have hfz10_1 := blk_frozen BK221.out 1; have hfz10_2 := blk_frozen BK221.out 2; have hfz10_3 := blk_frozen BK221.out 3; have hfz10_4 := blk_frozen BK221.out 4; have hfz10_5 := blk_frozen BK221.out 5))
      go_ret
      exact ⟨by first | rfl | (simp [errW_none, errW_some] <;> rfl) | (simp [*, errW_none, errW_some] <;> rfl), by repeat (first | (with_reducible first | exact HB.out | apply below_alloc | apply pw_below_drewN | apply below_drew1 | refine below_set ?_ GE221.out) | exact HB.out)⟩
  · replace c2 := Bool.eq_false_iff.mpr c2
    subst c2
    have H1 : (if (!a0_1 && (!a0_2 && (a0_3 == 0 && (!a0_4)))) = true then ((shutterref05_Char.f a0_5).bind fun t222 => (some t222)) else (some false)) = some r := by rw [if_neg (show ¬ (false = true) by decide)] at H; exact H
    clear H
    have H := H1
    clear H1
    by_cases c11 : (!a0_1 && (!a0_2 && (a0_3 == 0 && (!a0_4)))) = true
    · rw [if_pos c11] at H
      have c11b0 : (!a0_1 && (!a0_2 && (a0_3 == 0 && (!a0_4)))) = true := c11
      clear c11
      replace H := Option.bind_eq_some_iff.mp H
      obtain ⟨t222, A120, H⟩ := H
      replace H : (some t222) = some r := H
      have A12 := Aside0.mk A120
      clear A120
      obtain rfl := Option.some.inj H
      go_enter Tryd.func12, Tryd.ntmps12
      go_wp2_with (first | ((with_reducible refine gate_dst (N := 1) rfl ?_); refine box_event ?hg (N := 1) ?hd (cs := #[.bool false, .bool a0_1, .bool a0_2, .int .i64 a0_3, .bool a0_4, .int .u8 a0_5]) (t := 36) ?hr ?_; (case hd => rfl); (case hg => rfl); (case hr => first | (go_simp; done) | (go_simp; rfl)); intro gb221 hg w13 hbox hb; have n0_ := Aside0.mk (below_step (by repeat (first | (with_reducible first | exact HB.out | apply below_alloc | apply pw_below_drewN | apply below_drew1) | exact HB.out)) hb); have n1_ := Aside0.mk (hbox); have n2_ := Aside0.mk ((by rw [hg]; exact (below_size (by repeat (first | (with_reducible first | exact HB.out | apply below_alloc | apply pw_below_drewN | apply below_drew1) | exact HB.out))) : w.heap.size ≤ gb221)); have n3_ := Aside0.mk ((by rw [hg]; exact (below_size (by repeat (first | (with_reducible first | exact HB.out | apply below_alloc | apply pw_below_drewN | apply below_drew1) | exact HB.out))) : w.heap.size ≤ gb221)); clear HB; have HB := n0_; have BK221 := n1_; have GW221 := n2_; have GE221 := n3_; clear n0_ n1_ n2_ n3_; clear hb hbox hg; have hcz14_0 : w13.cell? ⟨gb221, 0, none⟩ = some (.bool false) := (blk_cell BK221.out 0).trans rfl; have hcz14_1 : w13.cell? ⟨gb221, 1, none⟩ = some (.bool a0_1) := (blk_cell BK221.out 1).trans rfl; have hcz14_2 : w13.cell? ⟨gb221, 2, none⟩ = some (.bool a0_2) := (blk_cell BK221.out 2).trans rfl; have hcz14_3 : w13.cell? ⟨gb221, 3, none⟩ = some (.int .i64 a0_3) := (blk_cell BK221.out 3).trans rfl; have hcz14_4 : w13.cell? ⟨gb221, 4, none⟩ = some (.bool a0_4) := (blk_cell BK221.out 4).trans rfl; have hcz14_5 : w13.cell? ⟨gb221, 5, none⟩ = some (.int .u8 a0_5) := (blk_cell BK221.out 5).trans rfl; have hfz14_0 := blk_frozen BK221.out 0; have hfz14_1 := blk_frozen BK221.out 1; have hfz14_2 := blk_frozen BK221.out 2; have hfz14_3 := blk_frozen BK221.out 3; have hfz14_4 := blk_frozen BK221.out 4; have hfz14_5 := blk_frozen BK221.out 5) | (go_at_call 23; (with_reducible refine (shutterref05_Char.calls a0_5 t222 _ A12.out).mono ?_); rintro e w' ⟨rfl, ⟨nd, rfl⟩⟩))
      go_ret
      exact ⟨by first | rfl | (simp [errW_none, errW_some] <;> rfl) | (simp [*, errW_none, errW_some] <;> rfl), by repeat (first | (with_reducible first | exact HB.out | apply below_alloc | apply pw_below_drewN | apply below_drew1 | refine below_set ?_ GE221.out) | exact HB.out)⟩
    · rw [if_neg c11] at H
      have c11b0 : (!a0_1 && (!a0_2 && (a0_3 == 0 && (!a0_4)))) = false := by simpa using c11
      clear c11
      obtain rfl := Option.some.inj H
      go_enter Tryd.func12, Tryd.ntmps12
      go_wp2_with (first | ((with_reducible refine gate_dst (N := 1) rfl ?_); refine box_event ?hg (N := 1) ?hd (cs := #[.bool false, .bool a0_1, .bool a0_2, .int .i64 a0_3, .bool a0_4, .int .u8 a0_5]) (t := 36) ?hr ?_; (case hd => rfl); (case hg => rfl); (case hr => first | (go_simp; done) | (go_simp; rfl)); intro gb221 hg w15 hbox hb; have n0_ := Aside0.mk (below_step (by repeat (first | (with_reducible first | exact HB.out | apply below_alloc | apply pw_below_drewN | apply below_drew1) | exact HB.out)) hb); have n1_ := Aside0.mk (hbox); have n2_ := Aside0.mk ((by rw [hg]; exact (below_size (by repeat (first | (with_reducible first | exact HB.out | apply below_alloc | apply pw_below_drewN | apply below_drew1) | exact HB.out))) : w.heap.size ≤ gb221)); have n3_ := Aside0.mk ((by rw [hg]; exact (below_size (by repeat (first | (with_reducible first | exact HB.out | apply below_alloc | apply pw_below_drewN | apply below_drew1) | exact HB.out))) : w.heap.size ≤ gb221)); clear HB; have HB := n0_; have BK221 := n1_; have GW221 := n2_; have GE221 := n3_; clear n0_ n1_ n2_ n3_; clear hb hbox hg; have hcz16_0 : w15.cell? ⟨gb221, 0, none⟩ = some (.bool false) := (blk_cell BK221.out 0).trans rfl; have hcz16_1 : w15.cell? ⟨gb221, 1, none⟩ = some (.bool a0_1) := (blk_cell BK221.out 1).trans rfl; have hcz16_2 : w15.cell? ⟨gb221, 2, none⟩ = some (.bool a0_2) := (blk_cell BK221.out 2).trans rfl; have hcz16_3 : w15.cell? ⟨gb221, 3, none⟩ = some (.int .i64 a0_3) := (blk_cell BK221.out 3).trans rfl; have hcz16_4 : w15.cell? ⟨gb221, 4, none⟩ = some (.bool a0_4) := (blk_cell BK221.out 4).trans rfl; have hcz16_5 : w15.cell? ⟨gb221, 5, none⟩ = some (.int .u8 a0_5) := (blk_cell BK221.out 5).trans rfl; have hfz16_0 := blk_frozen BK221.out 0; have hfz16_1 := blk_frozen BK221.out 1; have hfz16_2 := blk_frozen BK221.out 2; have hfz16_3 := blk_frozen BK221.out 3; have hfz16_4 := blk_frozen BK221.out 4; have hfz16_5 := blk_frozen BK221.out 5))
      go_ret
      exact ⟨by first | rfl | (simp [errW_none, errW_some] <;> rfl) | (simp [*, errW_none, errW_some] <;> rfl), by repeat (first | (with_reducible first | exact HB.out | apply below_alloc | apply pw_below_drewN | apply below_drew1 | refine below_set ?_ GE221.out) | exact HB.out)⟩

end Go.Proofs.YtabghncbdohciaaDoor.YGrid

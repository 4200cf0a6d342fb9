-- Own text, made by this session out of the translation by wip/tools/xprint.sh: Lean functions with the answers of Go functions, and their walks.
import Derived.Test.YtphdefenonncaaaDoorYSixx0
import Derived.Test.YtphdefenonncaaaDoorYSixx1
import Derived.Test.YtphdefenonncaaaDoorYSixx2
import Derived.Test.YtphdefenonncaaaDoorYSixx3
import Derived.Test.YtphdefenonncaaaDoorYSixx5
import Derived.Test.YtphdefenonncaaaDoorYSixx6
import Derived.Test.YtphdefenonncaaaDoorYSixx7
import Derived.Test.YtphdefenonncaaaDoorYSixx8
namespace Go.Proofs.YtphdefenonncaaaDoor.YSix
open Go.RowKit Go.Proofs.YtphdefenonncaaaDoorW.PrintWords Go.Proofs.YtphdefenonncaaaDoorW.PrintLast Go.Proofs.YtphdefenonncaaaDoorW.PrintMore
attribute [local go_sem] max2_int min2_int max_two min_two max_three min_three max_four min_four   -- for this text's walks alone
set_option linter.unusedVariables false
set_option linter.unusedSimpArgs false

attribute [local go_sem high] eqA37 eqA39
/-! ### shutterlaw05_AttrGets: function 8 -/
mutual
def shutterlaw05_AttrGets.j0 : Nat → Int → Option Int → Option Int → Bool → Bool → Bool → Option (Bool)
  | 0, _, _, _, _, _, _ => none
  | k + 1, x0, x4, x6, x8, x10, x54 => if x54 = true then (some false) else (if x8 = true then (if x10 = true then (shutterlaw05_AttrGets.j1 k x0 false) else ((api_Code.f x6).bind fun t264 => (shutterlaw05_AttrGets.j1 k x0 (t264 != 3)))) else ((api_Code.f x4).bind fun t265 => (if t265 = 3 then (if x10 = true then (shutterlaw05_AttrGets.j1 k x0 false) else ((api_Code.f x6).bind fun t266 => (shutterlaw05_AttrGets.j1 k x0 (t266 != 3)))) else (shutterlaw05_AttrGets.j1 k x0 true))))
def shutterlaw05_AttrGets.j1 : Nat → Int → Bool → Option (Bool)
  | 0, _, _ => none
  | k + 1, x0, x70 => if x70 = true then (some false) else ((attr_Char.f x0).bind fun t267 => ((shutterref05_Char.f x0).bind fun t268 => (if (t267 == t268) = true then ((attr_Aid.f k x0).bind fun t269 => ((shutterref05_Aid.f x0).bind fun t270 => (if (t269 == t270) = true then ((attr_Bare.f k x0).bind fun t271 => ((shutterref05_Bare.f x0).bind fun t272 => (some (t271 == t272)))) else (some false)))) else (some false))))
end
def shutterlaw05_AttrGets.f (k : Nat) (a0 : Int) : Option (Bool) := (attr_Get.f a0).bind fun bt238 => ((attr_GetWcc.f a0).bind fun bt244 => ((shutterref05_Get.f k a0).bind fun bt249 => ((shutterref05_GetWcc.f k a0).bind fun bt255 => ((shutterlaw05_awake.f k).bind fun t260 => (if t260 = true then (if (!(bt238.1 == bt249.1) || (!(bt238.2.1 == bt249.2.1) || (!(bt238.2.2.1 == bt249.2.2.1) || (!(bt238.2.2.2.1 == bt249.2.2.2.1))))) = true then (shutterlaw05_AttrGets.j0 k a0 bt238.2.2.2.2 bt244.2.2.2 bt249.2.2.2.2 bt255.2.2.2 true) else (if (!(bt244.1 == bt255.1) || (!(bt244.2.1 == bt255.2.1) || (!(bt244.2.2.1 == bt255.2.2.1)))) = true then (shutterlaw05_AttrGets.j0 k a0 bt238.2.2.2.2 bt244.2.2.2 bt249.2.2.2.2 bt255.2.2.2 true) else (if bt238.2.2.2.2.isNone = true then (if (bt249.2.2.2.2 != true) = true then (shutterlaw05_AttrGets.j0 k a0 none bt244.2.2.2 bt249.2.2.2.2 bt255.2.2.2 true) else (if bt244.2.2.2.isNone = true then (shutterlaw05_AttrGets.j0 k a0 none none bt249.2.2.2.2 bt255.2.2.2 (bt255.2.2.2 != true)) else (shutterlaw05_AttrGets.j0 k a0 none (some (bt244.2.2.2.getD 0)) bt249.2.2.2.2 bt255.2.2.2 (bt255.2.2.2 != false)))) else (if (bt249.2.2.2.2 != false) = true then (shutterlaw05_AttrGets.j0 k a0 (some (bt238.2.2.2.2.getD 0)) bt244.2.2.2 bt249.2.2.2.2 bt255.2.2.2 true) else (if bt244.2.2.2.isNone = true then (shutterlaw05_AttrGets.j0 k a0 (some (bt238.2.2.2.2.getD 0)) none bt249.2.2.2.2 bt255.2.2.2 (bt255.2.2.2 != true)) else (shutterlaw05_AttrGets.j0 k a0 (some (bt238.2.2.2.2.getD 0)) (some (bt244.2.2.2.getD 0)) bt249.2.2.2.2 bt255.2.2.2 (bt255.2.2.2 != false))))))) else (shutterlaw05_AttrGets.j0 k a0 bt238.2.2.2.2 bt244.2.2.2 bt249.2.2.2.2 bt255.2.2.2 true))))))
theorem shutterlaw05_AttrGets.mono_l : ∀ k, (∀ y0 y1 y2 y3 y4 y5, LeO (shutterlaw05_AttrGets.j0 k y0 y1 y2 y3 y4 y5) (shutterlaw05_AttrGets.j0 (k + 1) y0 y1 y2 y3 y4 y5)) ∧ (∀ y0 y1, LeO (shutterlaw05_AttrGets.j1 k y0 y1) (shutterlaw05_AttrGets.j1 (k + 1) y0 y1))
  | 0 => ⟨fun _ _ _ _ _ _ r h => by simp [shutterlaw05_AttrGets.j0] at h, fun _ _ r h => by simp [shutterlaw05_AttrGets.j1] at h⟩
  | k + 1 => by
    obtain ⟨ih0, ih1⟩ := shutterlaw05_AttrGets.mono_l k
    refine ⟨?_, ?_⟩
    · intro y0 y1 y2 y3 y4 y5
      unfold shutterlaw05_AttrGets.j0
      repeat' first
      | (with_reducible exact ih0 _ _ _ _ _ _)
      | (with_reducible exact ih1 _ _)
      | (with_reducible exact attr_Aid.mono _ _)
      | (with_reducible exact attr_Bare.mono _ _)
      | (with_reducible exact shutterlaw05_awake.mono _)
      | (with_reducible exact shutterref05_Get.mono _ _)
      | (with_reducible exact shutterref05_GetWcc.mono _ _)
      | (with_reducible exact LeO.refl _)
      | (with_reducible exact LeO.none _)
      | (with_reducible refine LeO.ite ?_ ?_)
      | (with_reducible refine LeO.bind ?_ (fun _ => ?_))
      | exact ih0 _ _ _ _ _ _
      | exact ih1 _ _
      | exact attr_Aid.mono _ _
      | exact attr_Bare.mono _ _
      | exact shutterlaw05_awake.mono _
      | exact shutterref05_Get.mono _ _
      | exact shutterref05_GetWcc.mono _ _
      | exact LeO.none _
      | refine LeO.ite ?_ ?_
      | refine LeO.bind ?_ (fun _ => ?_)
    · intro y0 y1
      unfold shutterlaw05_AttrGets.j1
      repeat' first
      | (with_reducible exact ih0 _ _ _ _ _ _)
      | (with_reducible exact ih1 _ _)
      | (with_reducible exact attr_Aid.mono _ _)
      | (with_reducible exact attr_Bare.mono _ _)
      | (with_reducible exact shutterlaw05_awake.mono _)
      | (with_reducible exact shutterref05_Get.mono _ _)
      | (with_reducible exact shutterref05_GetWcc.mono _ _)
      | (with_reducible exact LeO.refl _)
      | (with_reducible exact LeO.none _)
      | (with_reducible refine LeO.ite ?_ ?_)
      | (with_reducible refine LeO.bind ?_ (fun _ => ?_))
      | exact ih0 _ _ _ _ _ _
      | exact ih1 _ _
      | exact attr_Aid.mono _ _
      | exact attr_Bare.mono _ _
      | exact shutterlaw05_awake.mono _
      | exact shutterref05_Get.mono _ _
      | exact shutterref05_GetWcc.mono _ _
      | exact LeO.none _
      | refine LeO.ite ?_ ?_
      | refine LeO.bind ?_ (fun _ => ?_)
theorem shutterlaw05_AttrGets.mono : ∀ a0 k, LeO (shutterlaw05_AttrGets.f k a0) (shutterlaw05_AttrGets.f (k + 1) a0) := by
  intro a0 k
  obtain ⟨ih0, ih1⟩ := shutterlaw05_AttrGets.mono_l k
  unfold shutterlaw05_AttrGets.f
  repeat' first
      | (with_reducible exact ih0 _ _ _ _ _ _)
      | (with_reducible exact ih1 _ _)
      | (with_reducible exact attr_Aid.mono _ _)
      | (with_reducible exact attr_Bare.mono _ _)
      | (with_reducible exact shutterlaw05_awake.mono _)
      | (with_reducible exact shutterref05_Get.mono _ _)
      | (with_reducible exact shutterref05_GetWcc.mono _ _)
      | (with_reducible exact LeO.refl _)
      | (with_reducible exact LeO.none _)
      | (with_reducible refine LeO.ite ?_ ?_)
      | (with_reducible refine LeO.bind ?_ (fun _ => ?_))
      | exact ih0 _ _ _ _ _ _
      | exact ih1 _ _
      | exact attr_Aid.mono _ _
      | exact attr_Bare.mono _ _
      | exact shutterlaw05_awake.mono _
      | exact shutterref05_Get.mono _ _
      | exact shutterref05_GetWcc.mono _ _
      | exact LeO.none _
      | refine LeO.ite ?_ ?_
      | refine LeO.bind ?_ (fun _ => ?_)
set_option maxHeartbeats 8000000 in
set_option maxRecDepth 100000 in
theorem shutterlaw05_AttrGets.j0_ne (k : Nat) (a : Int) (b c : Option Int) (d e : Bool) : shutterlaw05_AttrGets.j0 k a b c d e true ≠ some true := by cases k <;> simp [shutterlaw05_AttrGets.j0]
set_option maxHeartbeats 8000000 in
set_option maxRecDepth 100000 in
theorem shutterlaw05_AttrGets.calls (k : Nat) (a0 : Int) (r : Bool) (w : World) (hGl : Aside0 (Code.Gl w)) (hr1 : Aside0 (r = true)) (h : shutterlaw05_AttrGets.f k a0 = some r) :
    Calls Tryd.prog 8 #[.int .u8 a0] w fun e w' => e = .returned (.bool r) ∧ Below w.heap.size w w' := by
  have hu37 := Tryd.underlying37
  have hu39 := Tryd.underlying39
  have hu23 := Tryd.underlying23
  have hu52 := Tryd.underlying52
  have HB := Aside0.mk (Below.refl w.heap.size w)
  have H : ((attr_Get.f a0).bind fun bt238 => ((attr_GetWcc.f a0).bind fun bt244 => ((shutterref05_Get.f k a0).bind fun bt249 => ((shutterref05_GetWcc.f k a0).bind fun bt255 => ((shutterlaw05_awake.f k).bind fun t260 => (if t260 = true then (if (!(bt238.1 == bt249.1) || (!(bt238.2.1 == bt249.2.1) || (!(bt238.2.2.1 == bt249.2.2.1) || (!(bt238.2.2.2.1 == bt249.2.2.2.1))))) = true then (shutterlaw05_AttrGets.j0 k a0 bt238.2.2.2.2 bt244.2.2.2 bt249.2.2.2.2 bt255.2.2.2 true) else (if (!(bt244.1 == bt255.1) || (!(bt244.2.1 == bt255.2.1) || (!(bt244.2.2.1 == bt255.2.2.1)))) = true then (shutterlaw05_AttrGets.j0 k a0 bt238.2.2.2.2 bt244.2.2.2 bt249.2.2.2.2 bt255.2.2.2 true) else (if bt238.2.2.2.2.isNone = true then (if (bt249.2.2.2.2 != true) = true then (shutterlaw05_AttrGets.j0 k a0 none bt244.2.2.2 bt249.2.2.2.2 bt255.2.2.2 true) else (if bt244.2.2.2.isNone = true then (shutterlaw05_AttrGets.j0 k a0 none none bt249.2.2.2.2 bt255.2.2.2 (bt255.2.2.2 != true)) else (shutterlaw05_AttrGets.j0 k a0 none (some (bt244.2.2.2.getD 0)) bt249.2.2.2.2 bt255.2.2.2 (bt255.2.2.2 != false)))) else (if (bt249.2.2.2.2 != false) = true then (shutterlaw05_AttrGets.j0 k a0 (some (bt238.2.2.2.2.getD 0)) bt244.2.2.2 bt249.2.2.2.2 bt255.2.2.2 true) else (if bt244.2.2.2.isNone = true then (shutterlaw05_AttrGets.j0 k a0 (some (bt238.2.2.2.2.getD 0)) none bt249.2.2.2.2 bt255.2.2.2 (bt255.2.2.2 != true)) else (shutterlaw05_AttrGets.j0 k a0 (some (bt238.2.2.2.2.getD 0)) (some (bt244.2.2.2.getD 0)) bt249.2.2.2.2 bt255.2.2.2 (bt255.2.2.2 != false))))))) else (shutterlaw05_AttrGets.j0 k a0 bt238.2.2.2.2 bt244.2.2.2 bt249.2.2.2.2 bt255.2.2.2 true))))))) = some r := h
  clear h
  replace H := Option.bind_eq_some_iff.mp H
  obtain ⟨⟨t238, t239, t240, t241, t242⟩, A20, H⟩ := H
  replace H : ((attr_GetWcc.f a0).bind fun bt244 => ((shutterref05_Get.f k a0).bind fun bt249 => ((shutterref05_GetWcc.f k a0).bind fun bt255 => ((shutterlaw05_awake.f k).bind fun t260 => (if t260 = true then (if (!(t238 == bt249.1) || (!(t239 == bt249.2.1) || (!(t240 == bt249.2.2.1) || (!(t241 == bt249.2.2.2.1))))) = true then (shutterlaw05_AttrGets.j0 k a0 t242 bt244.2.2.2 bt249.2.2.2.2 bt255.2.2.2 true) else (if (!(bt244.1 == bt255.1) || (!(bt244.2.1 == bt255.2.1) || (!(bt244.2.2.1 == bt255.2.2.1)))) = true then (shutterlaw05_AttrGets.j0 k a0 t242 bt244.2.2.2 bt249.2.2.2.2 bt255.2.2.2 true) else (if t242.isNone = true then (if (bt249.2.2.2.2 != true) = true then (shutterlaw05_AttrGets.j0 k a0 none bt244.2.2.2 bt249.2.2.2.2 bt255.2.2.2 true) else (if bt244.2.2.2.isNone = true then (shutterlaw05_AttrGets.j0 k a0 none none bt249.2.2.2.2 bt255.2.2.2 (bt255.2.2.2 != true)) else (shutterlaw05_AttrGets.j0 k a0 none (some (bt244.2.2.2.getD 0)) bt249.2.2.2.2 bt255.2.2.2 (bt255.2.2.2 != false)))) else (if (bt249.2.2.2.2 != false) = true then (shutterlaw05_AttrGets.j0 k a0 (some (t242.getD 0)) bt244.2.2.2 bt249.2.2.2.2 bt255.2.2.2 true) else (if bt244.2.2.2.isNone = true then (shutterlaw05_AttrGets.j0 k a0 (some (t242.getD 0)) none bt249.2.2.2.2 bt255.2.2.2 (bt255.2.2.2 != true)) else (shutterlaw05_AttrGets.j0 k a0 (some (t242.getD 0)) (some (bt244.2.2.2.getD 0)) bt249.2.2.2.2 bt255.2.2.2 (bt255.2.2.2 != false))))))) else (shutterlaw05_AttrGets.j0 k a0 t242 bt244.2.2.2 bt249.2.2.2.2 bt255.2.2.2 true)))))) = some r := H
  have A2 := Aside0.mk A20
  clear A20
  replace H := Option.bind_eq_some_iff.mp H
  obtain ⟨⟨t244, t245, t246, t247⟩, A30, H⟩ := H
  replace H : ((shutterref05_Get.f k a0).bind fun bt249 => ((shutterref05_GetWcc.f k a0).bind fun bt255 => ((shutterlaw05_awake.f k).bind fun t260 => (if t260 = true then (if (!(t238 == bt249.1) || (!(t239 == bt249.2.1) || (!(t240 == bt249.2.2.1) || (!(t241 == bt249.2.2.2.1))))) = true then (shutterlaw05_AttrGets.j0 k a0 t242 t247 bt249.2.2.2.2 bt255.2.2.2 true) else (if (!(t244 == bt255.1) || (!(t245 == bt255.2.1) || (!(t246 == bt255.2.2.1)))) = true then (shutterlaw05_AttrGets.j0 k a0 t242 t247 bt249.2.2.2.2 bt255.2.2.2 true) else (if t242.isNone = true then (if (bt249.2.2.2.2 != true) = true then (shutterlaw05_AttrGets.j0 k a0 none t247 bt249.2.2.2.2 bt255.2.2.2 true) else (if t247.isNone = true then (shutterlaw05_AttrGets.j0 k a0 none none bt249.2.2.2.2 bt255.2.2.2 (bt255.2.2.2 != true)) else (shutterlaw05_AttrGets.j0 k a0 none (some (t247.getD 0)) bt249.2.2.2.2 bt255.2.2.2 (bt255.2.2.2 != false)))) else (if (bt249.2.2.2.2 != false) = true then (shutterlaw05_AttrGets.j0 k a0 (some (t242.getD 0)) t247 bt249.2.2.2.2 bt255.2.2.2 true) else (if t247.isNone = true then (shutterlaw05_AttrGets.j0 k a0 (some (t242.getD 0)) none bt249.2.2.2.2 bt255.2.2.2 (bt255.2.2.2 != true)) else (shutterlaw05_AttrGets.j0 k a0 (some (t242.getD 0)) (some (t247.getD 0)) bt249.2.2.2.2 bt255.2.2.2 (bt255.2.2.2 != false))))))) else (shutterlaw05_AttrGets.j0 k a0 t242 t247 bt249.2.2.2.2 bt255.2.2.2 true))))) = some r := H
  have A3 := Aside0.mk A30
  clear A30
  replace H := Option.bind_eq_some_iff.mp H
  obtain ⟨⟨t249, t250, t251, t252, t253⟩, A40, H⟩ := H
  replace H : ((shutterref05_GetWcc.f k a0).bind fun bt255 => ((shutterlaw05_awake.f k).bind fun t260 => (if t260 = true then (if (!(t238 == t249) || (!(t239 == t250) || (!(t240 == t251) || (!(t241 == t252))))) = true then (shutterlaw05_AttrGets.j0 k a0 t242 t247 t253 bt255.2.2.2 true) else (if (!(t244 == bt255.1) || (!(t245 == bt255.2.1) || (!(t246 == bt255.2.2.1)))) = true then (shutterlaw05_AttrGets.j0 k a0 t242 t247 t253 bt255.2.2.2 true) else (if t242.isNone = true then (if (t253 != true) = true then (shutterlaw05_AttrGets.j0 k a0 none t247 t253 bt255.2.2.2 true) else (if t247.isNone = true then (shutterlaw05_AttrGets.j0 k a0 none none t253 bt255.2.2.2 (bt255.2.2.2 != true)) else (shutterlaw05_AttrGets.j0 k a0 none (some (t247.getD 0)) t253 bt255.2.2.2 (bt255.2.2.2 != false)))) else (if (t253 != false) = true then (shutterlaw05_AttrGets.j0 k a0 (some (t242.getD 0)) t247 t253 bt255.2.2.2 true) else (if t247.isNone = true then (shutterlaw05_AttrGets.j0 k a0 (some (t242.getD 0)) none t253 bt255.2.2.2 (bt255.2.2.2 != true)) else (shutterlaw05_AttrGets.j0 k a0 (some (t242.getD 0)) (some (t247.getD 0)) t253 bt255.2.2.2 (bt255.2.2.2 != false))))))) else (shutterlaw05_AttrGets.j0 k a0 t242 t247 t253 bt255.2.2.2 true)))) = some r := H
  have A4 := Aside0.mk A40
  clear A40
  replace H := Option.bind_eq_some_iff.mp H
  obtain ⟨⟨t255, t256, t257, t258⟩, A50, H⟩ := H
  replace H : ((shutterlaw05_awake.f k).bind fun t260 => (if t260 = true then (if (!(t238 == t249) || (!(t239 == t250) || (!(t240 == t251) || (!(t241 == t252))))) = true then (shutterlaw05_AttrGets.j0 k a0 t242 t247 t253 t258 true) else (if (!(t244 == t255) || (!(t245 == t256) || (!(t246 == t257)))) = true then (shutterlaw05_AttrGets.j0 k a0 t242 t247 t253 t258 true) else (if t242.isNone = true then (if (t253 != true) = true then (shutterlaw05_AttrGets.j0 k a0 none t247 t253 t258 true) else (if t247.isNone = true then (shutterlaw05_AttrGets.j0 k a0 none none t253 t258 (t258 != true)) else (shutterlaw05_AttrGets.j0 k a0 none (some (t247.getD 0)) t253 t258 (t258 != false)))) else (if (t253 != false) = true then (shutterlaw05_AttrGets.j0 k a0 (some (t242.getD 0)) t247 t253 t258 true) else (if t247.isNone = true then (shutterlaw05_AttrGets.j0 k a0 (some (t242.getD 0)) none t253 t258 (t258 != true)) else (shutterlaw05_AttrGets.j0 k a0 (some (t242.getD 0)) (some (t247.getD 0)) t253 t258 (t258 != false))))))) else (shutterlaw05_AttrGets.j0 k a0 t242 t247 t253 t258 true))) = some r := H
  have A5 := Aside0.mk A50
  clear A50
  have HC6 := Aside0.mk H
  clear H
  go_enter Tryd.func8, Tryd.ntmps8
  go_upto_region 5 with (first | ((with_reducible refine gate_callee (f := 21) rfl ?_); refine goesL_ (some 13) rfl rfl Tryd.func21 (by kernel_rfl) rfl #[.int .u8 a0] rfl (by (try simp only [List.map_toArray, List.map_cons, List.map_nil]); first | done | rfl | (simp only [List.length_drop, List.length_take]; rfl)) ?_; (with_reducible refine (attr_Get.calls a0 t238 t239 t240 t241 t242 _ A2.out).mono ?_); rintro e w7 ⟨rfl, hb⟩; refine ⟨_, rfl, ?_⟩; have n0_ := Aside0.mk (below_step (by repeat (first | (with_reducible first | exact HB.out | apply below_alloc | apply pw_below_drewN | apply below_drew1) | exact HB.out)) hb); clear HB; have HB := n0_; clear n0_; (try clear hb); (try clear hb2); (try clear hk); (try clear hi); (try simp only [errW_none, errW_some])) | ((with_reducible refine gate_dst (N := 3) rfl ?_); refine box_event ?hg (N := 3) ?hd (cs := #[.bool false, .bool false, .int .i64 0, .bool false]) (t := 37) ?hr ?_; (case hd => rfl); (case hg => rfl); (case hr => first | (go_simp; done) | (go_simp; rfl)); intro gb243 hg w8 hbox hb; have n0_ := Aside0.mk (below_step (by repeat (first | (with_reducible first | exact HB.out | apply below_alloc | apply pw_below_drewN | apply below_drew1) | exact HB.out)) hb); have n1_ := Aside0.mk (hbox); have n2_ := Aside0.mk ((by rw [hg]; exact (below_size (by repeat (first | (with_reducible first | exact HB.out | apply below_alloc | apply pw_below_drewN | apply below_drew1) | exact HB.out))) : w.heap.size ≤ gb243)); have n3_ := Aside0.mk ((by rw [hg]; exact (below_size (by repeat (first | (with_reducible first | exact HB.out | apply below_alloc | apply pw_below_drewN | apply below_drew1) | exact HB.out))) : w.heap.size ≤ gb243)); clear HB; have HB := n0_; have BK243 := n1_; have GW243 := n2_; have GE243 := n3_; clear n0_ n1_ n2_ n3_; clear hb hbox hg; have hcz9_0 : w8.cell? ⟨gb243, 0, none⟩ = some (.bool false) := (blk_cell BK243.out 0).trans rfl; have hcz9_1 : w8.cell? ⟨gb243, 1, none⟩ = some (.bool false) := (blk_cell BK243.out 1).trans rfl; have hcz9_2 : w8.cell? ⟨gb243, 2, none⟩ = some (.int .i64 0) := (blk_cell BK243.out 2).trans rfl; have hcz9_3 : w8.cell? ⟨gb243, 3, none⟩ = some (.bool false) := (blk_cell BK243.out 3).trans rfl; have hfz9_0 := blk_frozen BK243.out 0; have hfz9_1 := blk_frozen BK243.out 1; have hfz9_2 := blk_frozen BK243.out 2; have hfz9_3 := blk_frozen BK243.out 3) | ((with_reducible refine gate_callee (f := 22) rfl ?_); refine goesL_ (some 18) rfl rfl Tryd.func22 (by kernel_rfl) rfl #[.int .u8 a0] rfl (by (try simp only [List.map_toArray, List.map_cons, List.map_nil]); first | done | rfl | (simp only [List.length_drop, List.length_take]; rfl)) ?_; (with_reducible refine (attr_GetWcc.calls a0 t244 t245 t246 t247 _ A3.out).mono ?_); rintro e w10 ⟨rfl, hb⟩; refine ⟨_, rfl, ?_⟩; have n0_ := Aside0.mk (blk_below (g := gb243) (o := .cells #[.bool t238, .bool t239, .int .i64 t240, .bool t241] 37 (0, 0)) (by (with_reducible repeat (first | refine blk_drewN ?_ _ | refine blk_drew ?_ | refine blk_alloc ?_ _)); refine blk_put (cs := #[.bool t238, .bool t239, .int .i64 t240, .bool false]) ?_ 3 _ rfl; (with_reducible repeat (first | refine blk_drewN ?_ _ | refine blk_drew ?_ | refine blk_alloc ?_ _)); refine blk_put (cs := #[.bool t238, .bool t239, .int .i64 0, .bool false]) ?_ 2 _ rfl; (with_reducible repeat (first | refine blk_drewN ?_ _ | refine blk_drew ?_ | refine blk_alloc ?_ _)); refine blk_put (cs := #[.bool t238, .bool false, .int .i64 0, .bool false]) ?_ 1 _ rfl; (with_reducible repeat (first | refine blk_drewN ?_ _ | refine blk_drew ?_ | refine blk_alloc ?_ _)); refine blk_put (cs := #[.bool false, .bool false, .int .i64 0, .bool false]) ?_ 0 _ rfl; (with_reducible repeat (first | refine blk_drewN ?_ _ | refine blk_drew ?_ | refine blk_alloc ?_ _)); exact BK243.out) hb); have n1_ := Aside0.mk (below_step (by repeat (first | (with_reducible first | exact HB.out | apply below_alloc | apply pw_below_drewN | apply below_drew1 | refine below_set ?_ GE243.out) | exact HB.out)) hb); clear BK243; clear HB; have BK243 := n0_; have HB := n1_; clear n0_ n1_; (try clear hb); (try clear hb2); (try clear hk); (try clear hi); (try simp only [errW_none, errW_some])) | ((with_reducible refine gate_dst (N := 5) rfl ?_); refine box_event ?hg (N := 5) ?hd (cs := #[.bool false, .bool false, .bool false]) (t := 39) ?hr ?_; (case hd => rfl); (case hg => rfl); (case hr => first | (go_simp; done) | (go_simp; rfl)); intro gb248 hg w11 hbox hb; have n0_ := Aside0.mk (blk_below (g := gb243) (o := .cells #[.bool t238, .bool t239, .int .i64 t240, .bool t241] 37 (0, 0)) (by (with_reducible repeat (first | refine blk_drewN ?_ _ | refine blk_drew ?_ | refine blk_alloc ?_ _)); exact BK243.out) hb); have n1_ := Aside0.mk (below_step (by repeat (first | (with_reducible first | exact HB.out | apply below_alloc | apply pw_below_drewN | apply below_drew1 | refine below_set ?_ GE243.out) | exact HB.out)) hb); have n2_ := Aside0.mk (hbox); have n3_ := Aside0.mk ((by rw [hg]; exact (below_size (by repeat (first | (with_reducible first | exact HB.out | apply below_alloc | apply pw_below_drewN | apply below_drew1 | refine below_set ?_ GE243.out) | exact HB.out))) : w.heap.size ≤ gb248)); have n4_ := Aside0.mk ((by rw [hg]; exact (below_size (by repeat (first | (with_reducible first | exact HB.out | apply below_alloc | apply pw_below_drewN | apply below_drew1 | refine below_set ?_ GE243.out) | exact HB.out))) : w.heap.size ≤ gb248)); have n5_ := Aside0.mk ((by rw [hg]; exact Nat.ne_of_lt (blk_lt (g := gb243) (o := .cells #[.bool t238, .bool t239, .int .i64 t240, .bool t241] 37 (0, 0)) (by (with_reducible repeat (first | refine blk_drewN ?_ _ | refine blk_drew ?_ | refine blk_alloc ?_ _)); exact BK243.out)) : gb243 ≠ gb248)); have n6_ := Aside0.mk ((by rw [hg]; exact Nat.ne_of_gt (blk_lt (g := gb243) (o := .cells #[.bool t238, .bool t239, .int .i64 t240, .bool t241] 37 (0, 0)) (by (with_reducible repeat (first | refine blk_drewN ?_ _ | refine blk_drew ?_ | refine blk_alloc ?_ _)); exact BK243.out)) : gb248 ≠ gb243)); clear BK243; clear HB; have BK243 := n0_; have HB := n1_; have BK248 := n2_; have GW248 := n3_; have GE248 := n4_; have NB243_248 := n5_; have NB248_243 := n6_; clear n0_ n1_ n2_ n3_ n4_ n5_ n6_; clear hb hbox hg; have hnb12 := NB248_243.out; have hnc12 := NB243_248.out; have hcz13_0 : w11.cell? ⟨gb248, 0, none⟩ = some (.bool false) := (blk_cell BK248.out 0).trans rfl; have hcz13_1 : w11.cell? ⟨gb248, 1, none⟩ = some (.bool false) := (blk_cell BK248.out 1).trans rfl; have hcz13_2 : w11.cell? ⟨gb248, 2, none⟩ = some (.bool false) := (blk_cell BK248.out 2).trans rfl; have hfz13_0 := blk_frozen BK248.out 0; have hfz13_1 := blk_frozen BK248.out 1; have hfz13_2 := blk_frozen BK248.out 2) | ((with_reducible refine gate_callee (f := 23) rfl ?_); refine goesL_ (some 23) rfl rfl Tryd.func23 (by kernel_rfl) rfl #[.int .u8 a0] rfl (by (try simp only [List.map_toArray, List.map_cons, List.map_nil]); first | done | rfl | (simp only [List.length_drop, List.length_take]; rfl)) ?_; (with_reducible refine (shutterref05_Get.calls k a0 t249 t250 t251 t252 t253 _ A4.out).mono ?_); rintro e w14 ⟨rfl, hb⟩; refine ⟨_, rfl, ?_⟩; have n0_ := Aside0.mk (blk_below (g := gb243) (o := .cells #[.bool t238, .bool t239, .int .i64 t240, .bool t241] 37 (0, 0)) (by (with_reducible repeat (first | refine blk_drewN ?_ _ | refine blk_drew ?_ | refine blk_alloc ?_ _)); refine blk_far ?_ NB243_248.out _; (with_reducible repeat (first | refine blk_drewN ?_ _ | refine blk_drew ?_ | refine blk_alloc ?_ _)); refine blk_far ?_ NB243_248.out _; (with_reducible repeat (first | refine blk_drewN ?_ _ | refine blk_drew ?_ | refine blk_alloc ?_ _)); refine blk_far ?_ NB243_248.out _; (with_reducible repeat (first | refine blk_drewN ?_ _ | refine blk_drew ?_ | refine blk_alloc ?_ _)); exact BK243.out) hb); have n1_ := Aside0.mk (blk_below (g := gb248) (o := .cells #[.bool t244, .bool t245, .bool t246] 39 (0, 0)) (by (with_reducible repeat (first | refine blk_drewN ?_ _ | refine blk_drew ?_ | refine blk_alloc ?_ _)); refine blk_put (cs := #[.bool t244, .bool t245, .bool false]) ?_ 2 _ rfl; (with_reducible repeat (first | refine blk_drewN ?_ _ | refine blk_drew ?_ | refine blk_alloc ?_ _)); refine blk_put (cs := #[.bool t244, .bool false, .bool false]) ?_ 1 _ rfl; (with_reducible repeat (first | refine blk_drewN ?_ _ | refine blk_drew ?_ | refine blk_alloc ?_ _)); refine blk_put (cs := #[.bool false, .bool false, .bool false]) ?_ 0 _ rfl; (with_reducible repeat (first | refine blk_drewN ?_ _ | refine blk_drew ?_ | refine blk_alloc ?_ _)); exact BK248.out) hb); have n2_ := Aside0.mk (below_step (by repeat (first | (with_reducible first | exact HB.out | apply below_alloc | apply pw_below_drewN | apply below_drew1 | refine below_set ?_ GE243.out | refine below_set ?_ GE248.out) | exact HB.out)) hb); clear BK243; clear BK248; clear HB; have BK243 := n0_; have BK248 := n1_; have HB := n2_; clear n0_ n1_ n2_; (try clear hb); (try clear hb2); (try clear hk); (try clear hi)) | ((with_reducible refine gate_dst (N := 7) rfl ?_); refine box_event ?hg (N := 7) ?hd (cs := #[.bool false, .bool false, .int .i64 0, .bool false]) (t := 37) ?hr ?_; (case hd => rfl); (case hg => rfl); (case hr => first | (go_simp; done) | (go_simp; rfl)); intro gb254 hg w15 hbox hb; have n0_ := Aside0.mk (blk_below (g := gb243) (o := .cells #[.bool t238, .bool t239, .int .i64 t240, .bool t241] 37 (0, 0)) (by (with_reducible repeat (first | refine blk_drewN ?_ _ | refine blk_drew ?_ | refine blk_alloc ?_ _)); exact BK243.out) hb); have n1_ := Aside0.mk (blk_below (g := gb248) (o := .cells #[.bool t244, .bool t245, .bool t246] 39 (0, 0)) (by (with_reducible repeat (first | refine blk_drewN ?_ _ | refine blk_drew ?_ | refine blk_alloc ?_ _)); exact BK248.out) hb); have n2_ := Aside0.mk (below_step (by repeat (first | (with_reducible first | exact HB.out | apply below_alloc | apply pw_below_drewN | apply below_drew1 | refine below_set ?_ GE243.out | refine below_set ?_ GE248.out) | exact HB.out)) hb); have n3_ := Aside0.mk (hbox); have n4_ := Aside0.mk ((by rw [hg]; exact (below_size (by repeat (first | (with_reducible first | exact HB.out | apply below_alloc | apply pw_below_drewN | apply below_drew1 | refine below_set ?_ GE243.out | refine below_set ?_ GE248.out) | exact HB.out))) : w.heap.size ≤ gb254)); have n5_ := Aside0.mk ((by rw [hg]; exact (below_size (by repeat (first | (with_reducible first | exact HB.out | apply below_alloc | apply pw_below_drewN | apply below_drew1 | refine below_set ?_ GE243.out | refine below_set ?_ GE248.out) | exact HB.out))) : w.heap.size ≤ gb254)); have n6_ := Aside0.mk ((by rw [hg]; exact Nat.ne_of_lt (blk_lt (g := gb243) (o := .cells #[.bool t238, .bool t239, .int .i64 t240, .bool t241] 37 (0, 0)) (by (with_reducible repeat (first | refine blk_drewN ?_ _ | refine blk_drew ?_ | refine blk_alloc ?_ _)); exact BK243.out)) : gb243 ≠ gb254)); have n7_ := Aside0.mk ((by rw [hg]; exact Nat.ne_of_gt (blk_lt (g := gb243) (o := .cells #[.bool t238, .bool t239, .int .i64 t240, .bool t241] 37 (0, 0)) (by (with_reducible repeat (first | refine blk_drewN ?_ _ | refine blk_drew ?_ | refine blk_alloc ?_ _)); exact BK243.out)) : gb254 ≠ gb243)); have n8_ := Aside0.mk ((by rw [hg]; exact Nat.ne_of_lt (blk_lt (g := gb248) (o := .cells #[.bool t244, .bool t245, .bool t246] 39 (0, 0)) (by (with_reducible repeat (first | refine blk_drewN ?_ _ | refine blk_drew ?_ | refine blk_alloc ?_ _)); exact BK248.out)) : gb248 ≠ gb254)); have n9_ := Aside0.mk ((by rw [hg]; exact Nat.ne_of_gt (blk_lt (g := gb248) (o := .cells #[.bool t244, .bool t245, .bool t246] 39 (0, 0)) (by (with_reducible repeat (first | refine blk_drewN ?_ _ | refine blk_drew ?_ | refine blk_alloc ?_ _)); exact BK248.out)) : gb254 ≠ gb248)); clear BK243; clear BK248; clear HB; have BK243 := n0_; have BK248 := n1_; have HB := n2_; have BK254 := n3_; have GW254 := n4_; have GE254 := n5_; have NB243_254 := n6_; have NB254_243 := n7_; have NB248_254 := n8_; have NB254_248 := n9_; clear n0_ n1_ n2_ n3_ n4_ n5_ n6_ n7_ n8_ n9_; clear hb hbox hg; have hnb16 := NB254_243.out; have hnc16 := NB243_254.out; have hnb17 := NB254_248.out; have hnc17 := NB248_254.out; have hcz18_0 : w15.cell? ⟨gb254, 0, none⟩ = some (.bool false) := (blk_cell BK254.out 0).trans rfl; have hcz18_1 : w15.cell? ⟨gb254, 1, none⟩ = some (.bool false) := (blk_cell BK254.out 1).trans rfl; have hcz18_2 : w15.cell? ⟨gb254, 2, none⟩ = some (.int .i64 0) := (blk_cell BK254.out 2).trans rfl; have hcz18_3 : w15.cell? ⟨gb254, 3, none⟩ = some (.bool false) := (blk_cell BK254.out 3).trans rfl; have hfz18_0 := blk_frozen BK254.out 0; have hfz18_1 := blk_frozen BK254.out 1; have hfz18_2 := blk_frozen BK254.out 2; have hfz18_3 := blk_frozen BK254.out 3) | ((with_reducible refine gate_callee (f := 24) rfl ?_); refine goesL_ (some 28) rfl rfl Tryd.func24 (by kernel_rfl) rfl #[.int .u8 a0] rfl (by (try simp only [List.map_toArray, List.map_cons, List.map_nil]); first | done | rfl | (simp only [List.length_drop, List.length_take]; rfl)) ?_; (with_reducible refine (shutterref05_GetWcc.calls k a0 t255 t256 t257 t258 _ A5.out).mono ?_); rintro e w19 ⟨rfl, hb⟩; refine ⟨_, rfl, ?_⟩; have n0_ := Aside0.mk (blk_below (g := gb243) (o := .cells #[.bool t238, .bool t239, .int .i64 t240, .bool t241] 37 (0, 0)) (by (with_reducible repeat (first | refine blk_drewN ?_ _ | refine blk_drew ?_ | refine blk_alloc ?_ _)); refine blk_far ?_ NB243_254.out _; (with_reducible repeat (first | refine blk_drewN ?_ _ | refine blk_drew ?_ | refine blk_alloc ?_ _)); refine blk_far ?_ NB243_254.out _; (with_reducible repeat (first | refine blk_drewN ?_ _ | refine blk_drew ?_ | refine blk_alloc ?_ _)); refine blk_far ?_ NB243_254.out _; (with_reducible repeat (first | refine blk_drewN ?_ _ | refine blk_drew ?_ | refine blk_alloc ?_ _)); refine blk_far ?_ NB243_254.out _; (with_reducible repeat (first | refine blk_drewN ?_ _ | refine blk_drew ?_ | refine blk_alloc ?_ _)); exact BK243.out) hb); have n1_ := Aside0.mk (blk_below (g := gb248) (o := .cells #[.bool t244, .bool t245, .bool t246] 39 (0, 0)) (by (with_reducible repeat (first | refine blk_drewN ?_ _ | refine blk_drew ?_ | refine blk_alloc ?_ _)); refine blk_far ?_ NB248_254.out _; (with_reducible repeat (first | refine blk_drewN ?_ _ | refine blk_drew ?_ | refine blk_alloc ?_ _)); refine blk_far ?_ NB248_254.out _; (with_reducible repeat (first | refine blk_drewN ?_ _ | refine blk_drew ?_ | refine blk_alloc ?_ _)); refine blk_far ?_ NB248_254.out _; (with_reducible repeat (first | refine blk_drewN ?_ _ | refine blk_drew ?_ | refine blk_alloc ?_ _)); refine blk_far ?_ NB248_254.out _; (with_reducible repeat (first | refine blk_drewN ?_ _ | refine blk_drew ?_ | refine blk_alloc ?_ _)); exact BK248.out) hb); have n2_ := Aside0.mk (blk_below (g := gb254) (o := .cells #[.bool t249, .bool t250, .int .i64 t251, .bool t252] 37 (0, 0)) (by (with_reducible repeat (first | refine blk_drewN ?_ _ | refine blk_drew ?_ | refine blk_alloc ?_ _)); refine blk_put (cs := #[.bool t249, .bool t250, .int .i64 t251, .bool false]) ?_ 3 _ rfl; (with_reducible repeat (first | refine blk_drewN ?_ _ | refine blk_drew ?_ | refine blk_alloc ?_ _)); refine blk_put (cs := #[.bool t249, .bool t250, .int .i64 0, .bool false]) ?_ 2 _ rfl; (with_reducible repeat (first | refine blk_drewN ?_ _ | refine blk_drew ?_ | refine blk_alloc ?_ _)); refine blk_put (cs := #[.bool t249, .bool false, .int .i64 0, .bool false]) ?_ 1 _ rfl; (with_reducible repeat (first | refine blk_drewN ?_ _ | refine blk_drew ?_ | refine blk_alloc ?_ _)); refine blk_put (cs := #[.bool false, .bool false, .int .i64 0, .bool false]) ?_ 0 _ rfl; (with_reducible repeat (first | refine blk_drewN ?_ _ | refine blk_drew ?_ | refine blk_alloc ?_ _)); exact BK254.out) hb); have n3_ := Aside0.mk (below_step (by repeat (first | (with_reducible first | exact HB.out | apply below_alloc | apply pw_below_drewN | apply below_drew1 | refine below_set ?_ GE243.out | refine below_set ?_ GE248.out | refine below_set ?_ GE254.out) | exact HB.out)) hb); clear BK243; clear BK248; clear BK254; clear HB; have BK243 := n0_; have BK248 := n1_; have BK254 := n2_; have HB := n3_; clear n0_ n1_ n2_ n3_; (try clear hb); (try clear hb2); (try clear hk); (try clear hi)) | ((with_reducible refine gate_dst (N := 9) rfl ?_); refine box_event ?hg (N := 9) ?hd (cs := #[.bool false, .bool false, .bool false]) (t := 39) ?hr ?_; (case hd => rfl); (case hg => rfl); (case hr => first | (go_simp; done) | (go_simp; rfl)); intro gb259 hg w20 hbox hb; have n0_ := Aside0.mk (blk_below (g := gb243) (o := .cells #[.bool t238, .bool t239, .int .i64 t240, .bool t241] 37 (0, 0)) (by (with_reducible repeat (first | refine blk_drewN ?_ _ | refine blk_drew ?_ | refine blk_alloc ?_ _)); exact BK243.out) hb); have n1_ := Aside0.mk (blk_below (g := gb248) (o := .cells #[.bool t244, .bool t245, .bool t246] 39 (0, 0)) (by (with_reducible repeat (first | refine blk_drewN ?_ _ | refine blk_drew ?_ | refine blk_alloc ?_ _)); exact BK248.out) hb); have n2_ := Aside0.mk (blk_below (g := gb254) (o := .cells #[.bool t249, .bool t250, .int .i64 t251, .bool t252] 37 (0, 0)) (by (with_reducible repeat (first | refine blk_drewN ?_ _ | refine blk_drew ?_ | refine blk_alloc ?_ _)); exact BK254.out) hb); have n3_ := Aside0.mk (below_step (by repeat (first | (with_reducible first | exact HB.out | apply below_alloc | apply pw_below_drewN | apply below_drew1 | refine below_set ?_ GE243.out | refine below_set ?_ GE248.out | refine below_set ?_ GE254.out) | exact HB.out)) hb); have n4_ := Aside0.mk (hbox); have n5_ := Aside0.mk ((by rw [hg]; exact (below_size (by repeat (first | (with_reducible first | exact HB.out | apply below_alloc | apply pw_below_drewN | apply below_drew1 | refine below_set ?_ GE243.out | refine below_set ?_ GE248.out | refine below_set ?_ GE254.out) | exact HB.out))) : w.heap.size ≤ gb259)); have n6_ := Aside0.mk ((by rw [hg]; exact (below_size (by repeat (first | (with_reducible first | exact HB.out | apply below_alloc | apply pw_below_drewN | apply below_drew1 | refine below_set ?_ GE243.out | refine below_set ?_ GE248.out | refine below_set ?_ GE254.out) | exact HB.out))) : w.heap.size ≤ gb259)); have n7_ := Aside0.mk ((by rw [hg]; exact Nat.ne_of_lt (blk_lt (g := gb243) (o := .cells #[.bool t238, .bool t239, .int .i64 t240, .bool t241] 37 (0, 0)) (by (with_reducible repeat (first | refine blk_drewN ?_ _ | refine blk_drew ?_ | refine blk_alloc ?_ _)); exact BK243.out)) : gb243 ≠ gb259)); have n8_ := Aside0.mk ((by rw [hg]; exact Nat.ne_of_gt (blk_lt (g := gb243) (o := .cells #[.bool t238, .bool t239, .int .i64 t240, .bool t241] 37 (0, 0)) (by (with_reducible repeat (first | refine blk_drewN ?_ _ | refine blk_drew ?_ | refine blk_alloc ?_ _)); exact BK243.out)) : gb259 ≠ gb243)); have n9_ := Aside0.mk ((by rw [hg]; exact Nat.ne_of_lt (blk_lt (g := gb248) (o := .cells #[.bool t244, .bool t245, .bool t246] 39 (0, 0)) (by (with_reducible repeat (first | refine blk_drewN ?_ _ | refine blk_drew ?_ | refine blk_alloc ?_ _)); exact BK248.out)) : gb248 ≠ gb259)); have n10_ := Aside0.mk ((by rw [hg]; exact Nat.ne_of_gt (blk_lt (g := gb248) (o := .cells #[.bool t244, .bool t245, .bool t246] 39 (0, 0)) (by (with_reducible repeat (first | refine blk_drewN ?_ _ | refine blk_drew ?_ | refine blk_alloc ?_ _)); exact BK248.out)) : gb259 ≠ gb248)); have n11_ := Aside0.mk ((by rw [hg]; exact Nat.ne_of_lt (blk_lt (g := gb254) (o := .cells #[.bool t249, .bool t250, .int .i64 t251, .bool t252] 37 (0, 0)) (by (with_reducible repeat (first | refine blk_drewN ?_ _ | refine blk_drew ?_ | refine blk_alloc ?_ _)); exact BK254.out)) : gb254 ≠ gb259)); have n12_ := Aside0.mk ((by rw [hg]; exact Nat.ne_of_gt (blk_lt (g := gb254) (o := .cells #[.bool t249, .bool t250, .int .i64 t251, .bool t252] 37 (0, 0)) (by (with_reducible repeat (first | refine blk_drewN ?_ _ | refine blk_drew ?_ | refine blk_alloc ?_ _)); exact BK254.out)) : gb259 ≠ gb254)); clear BK243; clear BK248; clear BK254; clear HB; have BK243 := n0_; have BK248 := n1_; have BK254 := n2_; have HB := n3_; have BK259 := n4_; have GW259 := n5_; have GE259 := n6_; have NB243_259 := n7_; have NB259_243 := n8_; have NB248_259 := n9_; have NB259_248 := n10_; have NB254_259 := n11_; have NB259_254 := n12_; clear n0_ n1_ n2_ n3_ n4_ n5_ n6_ n7_ n8_ n9_ n10_ n11_ n12_; clear hb hbox hg; have hnb21 := NB259_243.out; have hnc21 := NB243_259.out; have hnb22 := NB259_248.out; have hnc22 := NB248_259.out; have hnb23 := NB259_254.out; have hnc23 := NB254_259.out; have hcz24_0 : w20.cell? ⟨gb259, 0, none⟩ = some (.bool false) := (blk_cell BK259.out 0).trans rfl; have hcz24_1 : w20.cell? ⟨gb259, 1, none⟩ = some (.bool false) := (blk_cell BK259.out 1).trans rfl; have hcz24_2 : w20.cell? ⟨gb259, 2, none⟩ = some (.bool false) := (blk_cell BK259.out 2).trans rfl; have hfz24_0 := blk_frozen BK259.out 0; have hfz24_1 := blk_frozen BK259.out 1; have hfz24_2 := blk_frozen BK259.out 2))
  (try simp only [Act.put, List.setIfInBounds_toArray, List.set_cons_zero, List.set_cons_succ])
  go_cut [54] (fun v54 wc => ∃ (kq : Nat) (x54_5 : Bool), v54 = .bool x54_5 ∧ Aside0 (shutterlaw05_AttrGets.j0 kq a0 t242 t247 t253 t258 x54_5 = some r) ∧ Aside0 (kq ≤ k) ∧ Aside0 (wc.heap[gb243]? = some (.cells #[.bool t238, .bool t239, .int .i64 t240, .bool t241] 37 (0, 0))) ∧ Aside0 (wc.heap[gb248]? = some (.cells #[.bool t244, .bool t245, .bool t246] 39 (0, 0))) ∧ Aside0 (wc.heap[gb254]? = some (.cells #[.bool t249, .bool t250, .int .i64 t251, .bool t252] 37 (0, 0))) ∧ Aside0 (wc.heap[gb259]? = some (.cells #[.bool t255, .bool t256, .bool t257] 39 (0, 0))) ∧ Aside0 (Below w.heap.size w wc))
  case first =>
    have H := HC6.out
    clear HC6
    replace H := Option.bind_eq_some_iff.mp H
    obtain ⟨t260, A250, H⟩ := H
    replace H : (if t260 = true then (if (!(t238 == t249) || (!(t239 == t250) || (!(t240 == t251) || (!(t241 == t252))))) = true then (shutterlaw05_AttrGets.j0 k a0 t242 t247 t253 t258 true) else (if (!(t244 == t255) || (!(t245 == t256) || (!(t246 == t257)))) = true then (shutterlaw05_AttrGets.j0 k a0 t242 t247 t253 t258 true) else (if t242.isNone = true then (if (t253 != true) = true then (shutterlaw05_AttrGets.j0 k a0 none t247 t253 t258 true) else (if t247.isNone = true then (shutterlaw05_AttrGets.j0 k a0 none none t253 t258 (t258 != true)) else (shutterlaw05_AttrGets.j0 k a0 none (some (t247.getD 0)) t253 t258 (t258 != false)))) else (if (t253 != false) = true then (shutterlaw05_AttrGets.j0 k a0 (some (t242.getD 0)) t247 t253 t258 true) else (if t247.isNone = true then (shutterlaw05_AttrGets.j0 k a0 (some (t242.getD 0)) none t253 t258 (t258 != true)) else (shutterlaw05_AttrGets.j0 k a0 (some (t242.getD 0)) (some (t247.getD 0)) t253 t258 (t258 != false))))))) else (shutterlaw05_AttrGets.j0 k a0 t242 t247 t253 t258 true)) = some r := H
    have A25 := Aside0.mk A250
    clear A250
    by_cases c26 : t260 = true
    · subst c26
      have H1 : (if (!(t238 == t249) || (!(t239 == t250) || (!(t240 == t251) || (!(t241 == t252))))) = true then (shutterlaw05_AttrGets.j0 k a0 t242 t247 t253 t258 true) else (if (!(t244 == t255) || (!(t245 == t256) || (!(t246 == t257)))) = true then (shutterlaw05_AttrGets.j0 k a0 t242 t247 t253 t258 true) else (if t242.isNone = true then (if (t253 != true) = true then (shutterlaw05_AttrGets.j0 k a0 none t247 t253 t258 true) else (if t247.isNone = true then (shutterlaw05_AttrGets.j0 k a0 none none t253 t258 (t258 != true)) else (shutterlaw05_AttrGets.j0 k a0 none (some (t247.getD 0)) t253 t258 (t258 != false)))) else (if (t253 != false) = true then (shutterlaw05_AttrGets.j0 k a0 (some (t242.getD 0)) t247 t253 t258 true) else (if t247.isNone = true then (shutterlaw05_AttrGets.j0 k a0 (some (t242.getD 0)) none t253 t258 (t258 != true)) else (shutterlaw05_AttrGets.j0 k a0 (some (t242.getD 0)) (some (t247.getD 0)) t253 t258 (t258 != false))))))) = some r := by rw [if_pos rfl] at H; exact H
      clear H
      have H := H1
      clear H1
      by_cases c27 : (!(t238 == t249) || (!(t239 == t250) || (!(t240 == t251) || (!(t241 == t252))))) = true
      · rw [if_pos c27] at H
        have c27b0 : (!(t238 == t249) || (!(t239 == t250) || (!(t240 == t251) || (!(t241 == t252))))) = true := c27
        clear c27
        (first | rw [c27b0] | (simp only [i64_w, i32_w]; rw [c27b0]) | skip)
        have H' := Aside0.mk H
        clear H
        go_wp2_with (first | ((with_reducible refine gate_callee (f := 17) rfl ?_); refine goesL_ (some 31) rfl rfl Tryd.func17 (by kernel_rfl) rfl #[] rfl (by (try simp only [List.map_toArray, List.map_cons, List.map_nil]); first | done | rfl | (simp only [List.length_drop, List.length_take]; rfl)) ?_; (with_reducible refine (shutterlaw05_awake.calls k  true _ A25.out).mono ?_); rintro e w28 ⟨rfl, hb⟩; refine ⟨_, rfl, ?_⟩; have n0_ := Aside0.mk (blk_below (g := gb243) (o := .cells #[.bool t238, .bool t239, .int .i64 t240, .bool t241] 37 (0, 0)) (by (with_reducible repeat (first | refine blk_drewN ?_ _ | refine blk_drew ?_ | refine blk_alloc ?_ _)); refine blk_far ?_ NB243_259.out _; (with_reducible repeat (first | refine blk_drewN ?_ _ | refine blk_drew ?_ | refine blk_alloc ?_ _)); refine blk_far ?_ NB243_259.out _; (with_reducible repeat (first | refine blk_drewN ?_ _ | refine blk_drew ?_ | refine blk_alloc ?_ _)); refine blk_far ?_ NB243_259.out _; (with_reducible repeat (first | refine blk_drewN ?_ _ | refine blk_drew ?_ | refine blk_alloc ?_ _)); exact BK243.out) hb); have n1_ := Aside0.mk (blk_below (g := gb248) (o := .cells #[.bool t244, .bool t245, .bool t246] 39 (0, 0)) (by (with_reducible repeat (first | refine blk_drewN ?_ _ | refine blk_drew ?_ | refine blk_alloc ?_ _)); refine blk_far ?_ NB248_259.out _; (with_reducible repeat (first | refine blk_drewN ?_ _ | refine blk_drew ?_ | refine blk_alloc ?_ _)); refine blk_far ?_ NB248_259.out _; (with_reducible repeat (first | refine blk_drewN ?_ _ | refine blk_drew ?_ | refine blk_alloc ?_ _)); refine blk_far ?_ NB248_259.out _; (with_reducible repeat (first | refine blk_drewN ?_ _ | refine blk_drew ?_ | refine blk_alloc ?_ _)); exact BK248.out) hb); have n2_ := Aside0.mk (blk_below (g := gb254) (o := .cells #[.bool t249, .bool t250, .int .i64 t251, .bool t252] 37 (0, 0)) (by (with_reducible repeat (first | refine blk_drewN ?_ _ | refine blk_drew ?_ | refine blk_alloc ?_ _)); refine blk_far ?_ NB254_259.out _; (with_reducible repeat (first | refine blk_drewN ?_ _ | refine blk_drew ?_ | refine blk_alloc ?_ _)); refine blk_far ?_ NB254_259.out _; (with_reducible repeat (first | refine blk_drewN ?_ _ | refine blk_drew ?_ | refine blk_alloc ?_ _)); refine blk_far ?_ NB254_259.out _; (with_reducible repeat (first | refine blk_drewN ?_ _ | refine blk_drew ?_ | refine blk_alloc ?_ _)); exact BK254.out) hb); have n3_ := Aside0.mk (blk_below (g := gb259) (o := .cells #[.bool t255, .bool t256, .bool t257] 39 (0, 0)) (by (with_reducible repeat (first | refine blk_drewN ?_ _ | refine blk_drew ?_ | refine blk_alloc ?_ _)); refine blk_put (cs := #[.bool t255, .bool t256, .bool false]) ?_ 2 _ rfl; (with_reducible repeat (first | refine blk_drewN ?_ _ | refine blk_drew ?_ | refine blk_alloc ?_ _)); refine blk_put (cs := #[.bool t255, .bool false, .bool false]) ?_ 1 _ rfl; (with_reducible repeat (first | refine blk_drewN ?_ _ | refine blk_drew ?_ | refine blk_alloc ?_ _)); refine blk_put (cs := #[.bool false, .bool false, .bool false]) ?_ 0 _ rfl; (with_reducible repeat (first | refine blk_drewN ?_ _ | refine blk_drew ?_ | refine blk_alloc ?_ _)); exact BK259.out) hb); have n4_ := Aside0.mk (below_step (by repeat (first | (with_reducible first | exact HB.out | apply below_alloc | apply pw_below_drewN | apply below_drew1 | refine below_set ?_ GE243.out | refine below_set ?_ GE248.out | refine below_set ?_ GE254.out | refine below_set ?_ GE259.out) | exact HB.out)) hb); clear BK243; clear BK248; clear BK254; clear BK259; clear HB; have BK243 := n0_; have BK248 := n1_; have BK254 := n2_; have BK259 := n3_; have HB := n4_; clear n0_ n1_ n2_ n3_ n4_; (try clear hb); (try clear hb2); (try clear hk); (try clear hi); have hnb29 := NB243_248.out; have hnc29 := NB248_243.out; have hnb30 := NB243_254.out; have hnc30 := NB254_243.out; have hnb31 := NB243_259.out; have hnc31 := NB259_243.out; have hcz32_0 : w28.cell? ⟨gb243, 0, none⟩ = some (.bool t238) := (blk_cell BK243.out 0).trans rfl; have hcz32_1 : w28.cell? ⟨gb243, 1, none⟩ = some (.bool t239) := (blk_cell BK243.out 1).trans rfl; have hcz32_2 : w28.cell? ⟨gb243, 2, none⟩ = some (.int .i64 t240) := (blk_cell BK243.out 2).trans rfl; have hcz32_3 : w28.cell? ⟨gb243, 3, none⟩ = some (.bool t241) := (blk_cell BK243.out 3).trans rfl; have hfz32_0 := blk_frozen BK243.out 0; have hfz32_1 := blk_frozen BK243.out 1; have hfz32_2 := blk_frozen BK243.out 2; have hfz32_3 := blk_frozen BK243.out 3; have hnb33 := NB254_248.out; have hnc33 := NB248_254.out; have hnb34 := NB254_259.out; have hnc34 := NB259_254.out; have hcz35_0 : w28.cell? ⟨gb254, 0, none⟩ = some (.bool t249) := (blk_cell BK254.out 0).trans rfl; have hcz35_1 : w28.cell? ⟨gb254, 1, none⟩ = some (.bool t250) := (blk_cell BK254.out 1).trans rfl; have hcz35_2 : w28.cell? ⟨gb254, 2, none⟩ = some (.int .i64 t251) := (blk_cell BK254.out 2).trans rfl; have hcz35_3 : w28.cell? ⟨gb254, 3, none⟩ = some (.bool t252) := (blk_cell BK254.out 3).trans rfl; have hfz35_0 := blk_frozen BK254.out 0; have hfz35_1 := blk_frozen BK254.out 1; have hfz35_2 := blk_frozen BK254.out 2; have hfz35_3 := blk_frozen BK254.out 3))
        go_meet
        case rel => exact ⟨_, (true), (by first | rfl | (simp; done) | (simp [*]; done)), H', ⟨by first | omega | exact Nat.le_refl _⟩, ⟨by (with_reducible repeat (first | refine blk_drewN ?_ _ | refine blk_drew ?_ | refine blk_alloc ?_ _)); exact BK243.out⟩, ⟨by (with_reducible repeat (first | refine blk_drewN ?_ _ | refine blk_drew ?_ | refine blk_alloc ?_ _)); exact BK248.out⟩, ⟨by (with_reducible repeat (first | refine blk_drewN ?_ _ | refine blk_drew ?_ | refine blk_alloc ?_ _)); exact BK254.out⟩, ⟨by (with_reducible repeat (first | refine blk_drewN ?_ _ | refine blk_drew ?_ | refine blk_alloc ?_ _)); exact BK259.out⟩, ⟨by repeat (first | (with_reducible first | exact HB.out | apply below_alloc | apply pw_below_drewN | apply below_drew1 | refine below_set ?_ GE243.out | refine below_set ?_ GE248.out | refine below_set ?_ GE254.out | refine below_set ?_ GE259.out) | exact HB.out)⟩⟩
      · rw [if_neg c27] at H
        have c27b0 : (!(t238 == t249) || (!(t239 == t250) || (!(t240 == t251) || (!(t241 == t252))))) = false := by simpa using c27
        clear c27
        (first | rw [c27b0] | (simp only [i64_w, i32_w]; rw [c27b0]) | skip)
        by_cases c36 : (!(t244 == t255) || (!(t245 == t256) || (!(t246 == t257)))) = true
        · rw [if_pos c36] at H
          have c36b0 : (!(t244 == t255) || (!(t245 == t256) || (!(t246 == t257)))) = true := c36
          clear c36
          have H' := Aside0.mk H
          clear H
          go_wp2_with (first | ((with_reducible refine gate_callee (f := 17) rfl ?_); refine goesL_ (some 31) rfl rfl Tryd.func17 (by kernel_rfl) rfl #[] rfl (by (try simp only [List.map_toArray, List.map_cons, List.map_nil]); first | done | rfl | (simp only [List.length_drop, List.length_take]; rfl)) ?_; (with_reducible refine (shutterlaw05_awake.calls k  true _ A25.out).mono ?_); rintro e w37 ⟨rfl, hb⟩; refine ⟨_, rfl, ?_⟩; have n0_ := Aside0.mk (blk_below (g := gb243) (o := .cells #[.bool t238, .bool t239, .int .i64 t240, .bool t241] 37 (0, 0)) (by (with_reducible repeat (first | refine blk_drewN ?_ _ | refine blk_drew ?_ | refine blk_alloc ?_ _)); refine blk_far ?_ NB243_259.out _; (with_reducible repeat (first | refine blk_drewN ?_ _ | refine blk_drew ?_ | refine blk_alloc ?_ _)); refine blk_far ?_ NB243_259.out _; (with_reducible repeat (first | refine blk_drewN ?_ _ | refine blk_drew ?_ | refine blk_alloc ?_ _)); refine blk_far ?_ NB243_259.out _; (with_reducible repeat (first | refine blk_drewN ?_ _ | refine blk_drew ?_ | refine blk_alloc ?_ _)); exact BK243.out) hb); have n1_ := Aside0.mk (blk_below (g := gb248) (o := .cells #[.bool t244, .bool t245, .bool t246] 39 (0, 0)) (by (with_reducible repeat (first | refine blk_drewN ?_ _ | refine blk_drew ?_ | refine blk_alloc ?_ _)); refine blk_far ?_ NB248_259.out _; (with_reducible repeat (first | refine blk_drewN ?_ _ | refine blk_drew ?_ | refine blk_alloc ?_ _)); refine blk_far ?_ NB248_259.out _; (with_reducible repeat (first | refine blk_drewN ?_ _ | refine blk_drew ?_ | refine blk_alloc ?_ _)); refine blk_far ?_ NB248_259.out _; (with_reducible repeat (first | refine blk_drewN ?_ _ | refine blk_drew ?_ | refine blk_alloc ?_ _)); exact BK248.out) hb); have n2_ := Aside0.mk (blk_below (g := gb254) (o := .cells #[.bool t249, .bool t250, .int .i64 t251, .bool t252] 37 (0, 0)) (by (with_reducible repeat (first | refine blk_drewN ?_ _ | refine blk_drew ?_ | refine blk_alloc ?_ _)); refine blk_far ?_ NB254_259.out _; (with_reducible repeat (first | refine blk_drewN ?_ _ | refine blk_drew ?_ | refine blk_alloc ?_ _)); refine blk_far ?_ NB254_259.out _; (with_reducible repeat (first | refine blk_drewN ?_ _ | refine blk_drew ?_ | refine blk_alloc ?_ _)); refine blk_far ?_ NB254_259.out _; (with_reducible repeat (first | refine blk_drewN ?_ _ | refine blk_drew ?_ | refine blk_alloc ?_ _)); exact BK254.out) hb); have n3_ := Aside0.mk (blk_below (g := gb259) (o := .cells #[.bool t255, .bool t256, .bool t257] 39 (0, 0)) (by (with_reducible repeat (first | refine blk_drewN ?_ _ | refine blk_drew ?_ | refine blk_alloc ?_ _)); refine blk_put (cs := #[.bool t255, .bool t256, .bool false]) ?_ 2 _ rfl; (with_reducible repeat (first | refine blk_drewN ?_ _ | refine blk_drew ?_ | refine blk_alloc ?_ _)); refine blk_put (cs := #[.bool t255, .bool false, .bool false]) ?_ 1 _ rfl; (with_reducible repeat (first | refine blk_drewN ?_ _ | refine blk_drew ?_ | refine blk_alloc ?_ _)); refine blk_put (cs := #[.bool false, .bool false, .bool false]) ?_ 0 _ rfl; (with_reducible repeat (first | refine blk_drewN ?_ _ | refine blk_drew ?_ | refine blk_alloc ?_ _)); exact BK259.out) hb); have n4_ := Aside0.mk (below_step (by repeat (first | (with_reducible first | exact HB.out | apply below_alloc | apply pw_below_drewN | apply below_drew1 | refine below_set ?_ GE243.out | refine below_set ?_ GE248.out | refine below_set ?_ GE254.out | refine below_set ?_ GE259.out) | exact HB.out)) hb); clear BK243; clear BK248; clear BK254; clear BK259; clear HB; have BK243 := n0_; have BK248 := n1_; have BK254 := n2_; have BK259 := n3_; have HB := n4_; clear n0_ n1_ n2_ n3_ n4_; (try clear hb); (try clear hb2); (try clear hk); (try clear hi); have hnb38 := NB243_248.out; have hnc38 := NB248_243.out; have hnb39 := NB243_254.out; have hnc39 := NB254_243.out; have hnb40 := NB243_259.out; have hnc40 := NB259_243.out; have hcz41_0 : w37.cell? ⟨gb243, 0, none⟩ = some (.bool t238) := (blk_cell BK243.out 0).trans rfl; have hcz41_1 : w37.cell? ⟨gb243, 1, none⟩ = some (.bool t239) := (blk_cell BK243.out 1).trans rfl; have hcz41_2 : w37.cell? ⟨gb243, 2, none⟩ = some (.int .i64 t240) := (blk_cell BK243.out 2).trans rfl; have hcz41_3 : w37.cell? ⟨gb243, 3, none⟩ = some (.bool t241) := (blk_cell BK243.out 3).trans rfl; have hfz41_0 := blk_frozen BK243.out 0; have hfz41_1 := blk_frozen BK243.out 1; have hfz41_2 := blk_frozen BK243.out 2; have hfz41_3 := blk_frozen BK243.out 3; have hnb42 := NB254_248.out; have hnc42 := NB248_254.out; have hnb43 := NB254_259.out; have hnc43 := NB259_254.out; have hcz44_0 : w37.cell? ⟨gb254, 0, none⟩ = some (.bool t249) := (blk_cell BK254.out 0).trans rfl; have hcz44_1 : w37.cell? ⟨gb254, 1, none⟩ = some (.bool t250) := (blk_cell BK254.out 1).trans rfl; have hcz44_2 : w37.cell? ⟨gb254, 2, none⟩ = some (.int .i64 t251) := (blk_cell BK254.out 2).trans rfl; have hcz44_3 : w37.cell? ⟨gb254, 3, none⟩ = some (.bool t252) := (blk_cell BK254.out 3).trans rfl; have hfz44_0 := blk_frozen BK254.out 0; have hfz44_1 := blk_frozen BK254.out 1; have hfz44_2 := blk_frozen BK254.out 2; have hfz44_3 := blk_frozen BK254.out 3; have hnb45 := NB248_259.out; have hnc45 := NB259_248.out; have hcz46_0 : w37.cell? ⟨gb248, 0, none⟩ = some (.bool t244) := (blk_cell BK248.out 0).trans rfl; have hcz46_1 : w37.cell? ⟨gb248, 1, none⟩ = some (.bool t245) := (blk_cell BK248.out 1).trans rfl; have hcz46_2 : w37.cell? ⟨gb248, 2, none⟩ = some (.bool t246) := (blk_cell BK248.out 2).trans rfl; have hfz46_0 := blk_frozen BK248.out 0; have hfz46_1 := blk_frozen BK248.out 1; have hfz46_2 := blk_frozen BK248.out 2; have hcz47_0 : w37.cell? ⟨gb259, 0, none⟩ = some (.bool t255) := (blk_cell BK259.out 0).trans rfl; have hcz47_1 : w37.cell? ⟨gb259, 1, none⟩ = some (.bool t256) := (blk_cell BK259.out 1).trans rfl; have hcz47_2 : w37.cell? ⟨gb259, 2, none⟩ = some (.bool t257) := (blk_cell BK259.out 2).trans rfl; have hfz47_0 := blk_frozen BK259.out 0; have hfz47_1 := blk_frozen BK259.out 1; have hfz47_2 := blk_frozen BK259.out 2))
          go_meet
          case rel => exact ⟨_, (true), (by first | rfl | (simp; done) | (simp [*]; done)), H', ⟨by first | omega | exact Nat.le_refl _⟩, ⟨by (with_reducible repeat (first | refine blk_drewN ?_ _ | refine blk_drew ?_ | refine blk_alloc ?_ _)); exact BK243.out⟩, ⟨by (with_reducible repeat (first | refine blk_drewN ?_ _ | refine blk_drew ?_ | refine blk_alloc ?_ _)); exact BK248.out⟩, ⟨by (with_reducible repeat (first | refine blk_drewN ?_ _ | refine blk_drew ?_ | refine blk_alloc ?_ _)); exact BK254.out⟩, ⟨by (with_reducible repeat (first | refine blk_drewN ?_ _ | refine blk_drew ?_ | refine blk_alloc ?_ _)); exact BK259.out⟩, ⟨by repeat (first | (with_reducible first | exact HB.out | apply below_alloc | apply pw_below_drewN | apply below_drew1 | refine below_set ?_ GE243.out | refine below_set ?_ GE248.out | refine below_set ?_ GE254.out | refine below_set ?_ GE259.out) | exact HB.out)⟩⟩
        · rw [if_neg c36] at H
          have c36b0 : (!(t244 == t255) || (!(t245 == t256) || (!(t246 == t257)))) = false := by simpa using c36
          clear c36
          rcases t242 with _ | q261
          · have H1 : (if (t253 != true) = true then (shutterlaw05_AttrGets.j0 k a0 none t247 t253 t258 true) else (if t247.isNone = true then (shutterlaw05_AttrGets.j0 k a0 none none t253 t258 (t258 != true)) else (shutterlaw05_AttrGets.j0 k a0 none (some (t247.getD 0)) t253 t258 (t258 != false)))) = some r := by rw [if_pos (show (none : Option Int).isNone = true by rfl)] at H; exact H
            clear H
            have H := H1
            clear H1
            try simp only [errW_none, errW_some]
            by_cases c48 : (t253 != true) = true
            · rw [if_pos c48] at H
              have c48b0 : (t253 != true) = true := c48
              (try (have c48b1 : decide (t253 = true) = false := by simpa using c48))
              (try (have c48b2 : (t253 == true) = false := by simpa using c48))
              (try (have c48b3 : ¬ (t253 = true) := by simpa using c48))
              clear c48
              exact absurd (H.trans (congrArg some hr1.out)) (shutterlaw05_AttrGets.j0_ne _ _ _ _ _ _)
            · rw [if_neg c48] at H
              have c48b0 : (t253 != true) = false := by simpa using c48
              (try (have c48b1 : decide (t253 = true) = true := by simpa using c48))
              (try (have c48b2 : (t253 == true) = true := by simpa using c48))
              clear c48
              rcases t247 with _ | q262
              · have H1 : (shutterlaw05_AttrGets.j0 k a0 none none t253 t258 (t258 != true)) = some r := by rw [if_pos (show (none : Option Int).isNone = true by rfl)] at H; exact H
                clear H
                have H := H1
                clear H1
                try simp only [errW_none, errW_some]
                have H' := Aside0.mk H
                clear H
                go_wp2_with (first | ((with_reducible refine gate_callee (f := 17) rfl ?_); refine goesL_ (some 31) rfl rfl Tryd.func17 (by kernel_rfl) rfl #[] rfl (by (try simp only [List.map_toArray, List.map_cons, List.map_nil]); first | done | rfl | (simp only [List.length_drop, List.length_take]; rfl)) ?_; (with_reducible refine (shutterlaw05_awake.calls k  true _ A25.out).mono ?_); rintro e w60 ⟨rfl, hb⟩; refine ⟨_, rfl, ?_⟩; have n0_ := Aside0.mk (blk_below (g := gb243) (o := .cells #[.bool t238, .bool t239, .int .i64 t240, .bool t241] 37 (0, 0)) (by (with_reducible repeat (first | refine blk_drewN ?_ _ | refine blk_drew ?_ | refine blk_alloc ?_ _)); refine blk_far ?_ NB243_259.out _; (with_reducible repeat (first | refine blk_drewN ?_ _ | refine blk_drew ?_ | refine blk_alloc ?_ _)); refine blk_far ?_ NB243_259.out _; (with_reducible repeat (first | refine blk_drewN ?_ _ | refine blk_drew ?_ | refine blk_alloc ?_ _)); refine blk_far ?_ NB243_259.out _; (with_reducible repeat (first | refine blk_drewN ?_ _ | refine blk_drew ?_ | refine blk_alloc ?_ _)); exact BK243.out) hb); have n1_ := Aside0.mk (blk_below (g := gb248) (o := .cells #[.bool t244, .bool t245, .bool t246] 39 (0, 0)) (by (with_reducible repeat (first | refine blk_drewN ?_ _ | refine blk_drew ?_ | refine blk_alloc ?_ _)); refine blk_far ?_ NB248_259.out _; (with_reducible repeat (first | refine blk_drewN ?_ _ | refine blk_drew ?_ | refine blk_alloc ?_ _)); refine blk_far ?_ NB248_259.out _; (with_reducible repeat (first | refine blk_drewN ?_ _ | refine blk_drew ?_ | refine blk_alloc ?_ _)); refine blk_far ?_ NB248_259.out _; (with_reducible repeat (first | refine blk_drewN ?_ _ | refine blk_drew ?_ | refine blk_alloc ?_ _)); exact BK248.out) hb); have n2_ := Aside0.mk (blk_below (g := gb254) (o := .cells #[.bool t249, .bool t250, .int .i64 t251, .bool t252] 37 (0, 0)) (by (with_reducible repeat (first | refine blk_drewN ?_ _ | refine blk_drew ?_ | refine blk_alloc ?_ _)); refine blk_far ?_ NB254_259.out _; (with_reducible repeat (first | refine blk_drewN ?_ _ | refine blk_drew ?_ | refine blk_alloc ?_ _)); refine blk_far ?_ NB254_259.out _; (with_reducible repeat (first | refine blk_drewN ?_ _ | refine blk_drew ?_ | refine blk_alloc ?_ _)); refine blk_far ?_ NB254_259.out _; (with_reducible repeat (first | refine blk_drewN ?_ _ | refine blk_drew ?_ | refine blk_alloc ?_ _)); exact BK254.out) hb); have n3_ := Aside0.mk (blk_below (g := gb259) (o := .cells #[.bool t255, .bool t256, .bool t257] 39 (0, 0)) (by (with_reducible repeat (first | refine blk_drewN ?_ _ | refine blk_drew ?_ | refine blk_alloc ?_ _)); refine blk_put (cs := #[.bool t255, .bool t256, .bool false]) ?_ 2 _ rfl; (with_reducible repeat (first | refine blk_drewN ?_ _ | refine blk_drew ?_ | refine blk_alloc ?_ _)); refine blk_put (cs := #[.bool t255, .bool false, .bool false]) ?_ 1 _ rfl; (with_reducible repeat (first | refine blk_drewN ?_ _ | refine blk_drew ?_ | refine blk_alloc ?_ _)); refine blk_put (cs := #[.bool false, .bool false, .bool false]) ?_ 0 _ rfl; (with_reducible repeat (first | refine blk_drewN ?_ _ | refine blk_drew ?_ | refine blk_alloc ?_ _)); exact BK259.out) hb); have n4_ := Aside0.mk (below_step (by repeat (first | (with_reducible first | exact HB.out | apply below_alloc | apply pw_below_drewN | apply below_drew1 | refine below_set ?_ GE243.out | refine below_set ?_ GE248.out | refine below_set ?_ GE254.out | refine below_set ?_ GE259.out) | exact HB.out)) hb); clear BK243; clear BK248; clear BK254; clear BK259; clear HB; have BK243 := n0_; have BK248 := n1_; have BK254 := n2_; have BK259 := n3_; have HB := n4_; clear n0_ n1_ n2_ n3_ n4_; (try clear hb); (try clear hb2); (try clear hk); (try clear hi); have hnb61 := NB243_248.out; have hnc61 := NB248_243.out; have hnb62 := NB243_254.out; have hnc62 := NB254_243.out; have hnb63 := NB243_259.out; have hnc63 := NB259_243.out; have hcz64_0 : w60.cell? ⟨gb243, 0, none⟩ = some (.bool t238) := (blk_cell BK243.out 0).trans rfl; have hcz64_1 : w60.cell? ⟨gb243, 1, none⟩ = some (.bool t239) := (blk_cell BK243.out 1).trans rfl; have hcz64_2 : w60.cell? ⟨gb243, 2, none⟩ = some (.int .i64 t240) := (blk_cell BK243.out 2).trans rfl; have hcz64_3 : w60.cell? ⟨gb243, 3, none⟩ = some (.bool t241) := (blk_cell BK243.out 3).trans rfl; have hfz64_0 := blk_frozen BK243.out 0; have hfz64_1 := blk_frozen BK243.out 1; have hfz64_2 := blk_frozen BK243.out 2; have hfz64_3 := blk_frozen BK243.out 3; have hnb65 := NB254_248.out; have hnc65 := NB248_254.out; have hnb66 := NB254_259.out; have hnc66 := NB259_254.out; have hcz67_0 : w60.cell? ⟨gb254, 0, none⟩ = some (.bool t249) := (blk_cell BK254.out 0).trans rfl; have hcz67_1 : w60.cell? ⟨gb254, 1, none⟩ = some (.bool t250) := (blk_cell BK254.out 1).trans rfl; have hcz67_2 : w60.cell? ⟨gb254, 2, none⟩ = some (.int .i64 t251) := (blk_cell BK254.out 2).trans rfl; have hcz67_3 : w60.cell? ⟨gb254, 3, none⟩ = some (.bool t252) := (blk_cell BK254.out 3).trans rfl; have hfz67_0 := blk_frozen BK254.out 0; have hfz67_1 := blk_frozen BK254.out 1; have hfz67_2 := blk_frozen BK254.out 2; have hfz67_3 := blk_frozen BK254.out 3; have hnb68 := NB248_259.out; have hnc68 := NB259_248.out; have hcz69_0 : w60.cell? ⟨gb248, 0, none⟩ = some (.bool t244) := (blk_cell BK248.out 0).trans rfl; have hcz69_1 : w60.cell? ⟨gb248, 1, none⟩ = some (.bool t245) := (blk_cell BK248.out 1).trans rfl; have hcz69_2 : w60.cell? ⟨gb248, 2, none⟩ = some (.bool t246) := (blk_cell BK248.out 2).trans rfl; have hfz69_0 := blk_frozen BK248.out 0; have hfz69_1 := blk_frozen BK248.out 1; have hfz69_2 := blk_frozen BK248.out 2; have hcz70_0 : w60.cell? ⟨gb259, 0, none⟩ = some (.bool t255) := (blk_cell BK259.out 0).trans rfl; have hcz70_1 : w60.cell? ⟨gb259, 1, none⟩ = some (.bool t256) := (blk_cell BK259.out 1).trans rfl; have hcz70_2 : w60.cell? ⟨gb259, 2, none⟩ = some (.bool t257) := (blk_cell BK259.out 2).trans rfl; have hfz70_0 := blk_frozen BK259.out 0; have hfz70_1 := blk_frozen BK259.out 1; have hfz70_2 := blk_frozen BK259.out 2))
                go_meet
                case rel => exact ⟨_, ((t258 != true)), (by first | rfl | (simp; done) | (simp [*]; done)), H', ⟨by first | omega | exact Nat.le_refl _⟩, ⟨by (with_reducible repeat (first | refine blk_drewN ?_ _ | refine blk_drew ?_ | refine blk_alloc ?_ _)); exact BK243.out⟩, ⟨by (with_reducible repeat (first | refine blk_drewN ?_ _ | refine blk_drew ?_ | refine blk_alloc ?_ _)); exact BK248.out⟩, ⟨by (with_reducible repeat (first | refine blk_drewN ?_ _ | refine blk_drew ?_ | refine blk_alloc ?_ _)); exact BK254.out⟩, ⟨by (with_reducible repeat (first | refine blk_drewN ?_ _ | refine blk_drew ?_ | refine blk_alloc ?_ _)); exact BK259.out⟩, ⟨by repeat (first | (with_reducible first | exact HB.out | apply below_alloc | apply pw_below_drewN | apply below_drew1 | refine below_set ?_ GE243.out | refine below_set ?_ GE248.out | refine below_set ?_ GE254.out | refine below_set ?_ GE259.out) | exact HB.out)⟩⟩
              · have H1 : (shutterlaw05_AttrGets.j0 k a0 none (some q262) t253 t258 (t258 != false)) = some r := by rw [if_neg (show ¬ (some q262).isNone = true by simp)] at H; exact H
                clear H
                have H := H1
                clear H1
                try simp only [errW_none, errW_some]
                have H' := Aside0.mk H
                clear H
                go_wp2_with (first | ((with_reducible refine gate_callee (f := 17) rfl ?_); refine goesL_ (some 31) rfl rfl Tryd.func17 (by kernel_rfl) rfl #[] rfl (by (try simp only [List.map_toArray, List.map_cons, List.map_nil]); first | done | rfl | (simp only [List.length_drop, List.length_take]; rfl)) ?_; (with_reducible refine (shutterlaw05_awake.calls k  true _ A25.out).mono ?_); rintro e w71 ⟨rfl, hb⟩; refine ⟨_, rfl, ?_⟩; have n0_ := Aside0.mk (blk_below (g := gb243) (o := .cells #[.bool t238, .bool t239, .int .i64 t240, .bool t241] 37 (0, 0)) (by (with_reducible repeat (first | refine blk_drewN ?_ _ | refine blk_drew ?_ | refine blk_alloc ?_ _)); refine blk_far ?_ NB243_259.out _; (with_reducible repeat (first | refine blk_drewN ?_ _ | refine blk_drew ?_ | refine blk_alloc ?_ _)); refine blk_far ?_ NB243_259.out _; (with_reducible repeat (first | refine blk_drewN ?_ _ | refine blk_drew ?_ | refine blk_alloc ?_ _)); refine blk_far ?_ NB243_259.out _; (with_reducible repeat (first | refine blk_drewN ?_ _ | refine blk_drew ?_ | refine blk_alloc ?_ _)); exact BK243.out) hb); have n1_ := Aside0.mk (blk_below (g := gb248) (o := .cells #[.bool t244, .bool t245, .bool t246] 39 (0, 0)) (by (with_reducible repeat (first | refine blk_drewN ?_ _ | refine blk_drew ?_ | refine blk_alloc ?_ _)); refine blk_far ?_ NB248_259.out _; (with_reducible repeat (first | refine blk_drewN ?_ _ | refine blk_drew ?_ | refine blk_alloc ?_ _)); refine blk_far ?_ NB248_259.out _; (with_reducible repeat (first | refine blk_drewN ?_ _ | refine blk_drew ?_ | refine blk_alloc ?_ _)); refine blk_far ?_ NB248_259.out _; (with_reducible repeat (first | refine blk_drewN ?_ _ | refine blk_drew ?_ | refine blk_alloc ?_ _)); exact BK248.out) hb); have n2_ := Aside0.mk (blk_below (g := gb254) (o := .cells #[.bool t249, .bool t250, .int .i64 t251, .bool t252] 37 (0, 0)) (by (with_reducible repeat (first | refine blk_drewN ?_ _ | refine blk_drew ?_ | refine blk_alloc ?_ _)); refine blk_far ?_ NB254_259.out _; (with_reducible repeat (first | refine blk_drewN ?_ _ | refine blk_drew ?_ | refine blk_alloc ?_ _)); refine blk_far ?_ NB254_259.out _; (with_reducible repeat (first | refine blk_drewN ?_ _ | refine blk_drew ?_ | refine blk_alloc ?_ _)); refine blk_far ?_ NB254_259.out _; (with_reducible repeat (first | refine blk_drewN ?_ _ | refine blk_drew ?_ | refine blk_alloc ?_ _)); exact BK254.out) hb); have n3_ := Aside0.mk (blk_below (g := gb259) (o := .cells #[.bool t255, .bool t256, .bool t257] 39 (0, 0)) (by (with_reducible repeat (first | refine blk_drewN ?_ _ | refine blk_drew ?_ | refine blk_alloc ?_ _)); refine blk_put (cs := #[.bool t255, .bool t256, .bool false]) ?_ 2 _ rfl; (with_reducible repeat (first | refine blk_drewN ?_ _ | refine blk_drew ?_ | refine blk_alloc ?_ _)); refine blk_put (cs := #[.bool t255, .bool false, .bool false]) ?_ 1 _ rfl; (with_reducible repeat (first | refine blk_drewN ?_ _ | refine blk_drew ?_ | refine blk_alloc ?_ _)); refine blk_put (cs := #[.bool false, .bool false, .bool false]) ?_ 0 _ rfl; (with_reducible repeat (first | refine blk_drewN ?_ _ | refine blk_drew ?_ | refine blk_alloc ?_ _)); exact BK259.out) hb); have n4_ := Aside0.mk (below_step (by repeat (first | (with_reducible first | exact HB.out | apply below_alloc | apply pw_below_drewN | apply below_drew1 | refine below_set ?_ GE243.out | refine below_set ?_ GE248.out | refine below_set ?_ GE254.out | refine below_set ?_ GE259.out) | exact HB.out)) hb); clear BK243; clear BK248; clear BK254; clear BK259; clear HB; have BK243 := n0_; have BK248 := n1_; have BK254 := n2_; have BK259 := n3_; have HB := n4_; clear n0_ n1_ n2_ n3_ n4_; (try clear hb); (try clear hb2); (try clear hk); (try clear hi); have hnb72 := NB243_248.out; have hnc72 := NB248_243.out; have hnb73 := NB243_254.out; have hnc73 := NB254_243.out; have hnb74 := NB243_259.out; have hnc74 := NB259_243.out; have hcz75_0 : w71.cell? ⟨gb243, 0, none⟩ = some (.bool t238) := (blk_cell BK243.out 0).trans rfl; have hcz75_1 : w71.cell? ⟨gb243, 1, none⟩ = some (.bool t239) := (blk_cell BK243.out 1).trans rfl; have hcz75_2 : w71.cell? ⟨gb243, 2, none⟩ = some (.int .i64 t240) := (blk_cell BK243.out 2).trans rfl; have hcz75_3 : w71.cell? ⟨gb243, 3, none⟩ = some (.bool t241) := (blk_cell BK243.out 3).trans rfl; have hfz75_0 := blk_frozen BK243.out 0; have hfz75_1 := blk_frozen BK243.out 1; have hfz75_2 := blk_frozen BK243.out 2; have hfz75_3 := blk_frozen BK243.out 3; have hnb76 := NB254_248.out; have hnc76 := NB248_254.out; have hnb77 := NB254_259.out; have hnc77 := NB259_254.out; have hcz78_0 : w71.cell? ⟨gb254, 0, none⟩ = some (.bool t249) := (blk_cell BK254.out 0).trans rfl; have hcz78_1 : w71.cell? ⟨gb254, 1, none⟩ = some (.bool t250) := (blk_cell BK254.out 1).trans rfl; have hcz78_2 : w71.cell? ⟨gb254, 2, none⟩ = some (.int .i64 t251) := (blk_cell BK254.out 2).trans rfl; have hcz78_3 : w71.cell? ⟨gb254, 3, none⟩ = some (.bool t252) := (blk_cell BK254.out 3).trans rfl; have hfz78_0 := blk_frozen BK254.out 0; have hfz78_1 := blk_frozen BK254.out 1; have hfz78_2 := blk_frozen BK254.out 2; have hfz78_3 := blk_frozen BK254.out 3; have hnb79 := NB248_259.out; have hnc79 := NB259_248.out; have hcz80_0 : w71.cell? ⟨gb248, 0, none⟩ = some (.bool t244) := (blk_cell BK248.out 0).trans rfl; have hcz80_1 : w71.cell? ⟨gb248, 1, none⟩ = some (.bool t245) := (blk_cell BK248.out 1).trans rfl; have hcz80_2 : w71.cell? ⟨gb248, 2, none⟩ = some (.bool t246) := (blk_cell BK248.out 2).trans rfl; have hfz80_0 := blk_frozen BK248.out 0; have hfz80_1 := blk_frozen BK248.out 1; have hfz80_2 := blk_frozen BK248.out 2; have hcz81_0 : w71.cell? ⟨gb259, 0, none⟩ = some (.bool t255) := (blk_cell BK259.out 0).trans rfl; have hcz81_1 : w71.cell? ⟨gb259, 1, none⟩ = some (.bool t256) := (blk_cell BK259.out 1).trans rfl; have hcz81_2 : w71.cell? ⟨gb259, 2, none⟩ = some (.bool t257) := (blk_cell BK259.out 2).trans rfl; have hfz81_0 := blk_frozen BK259.out 0; have hfz81_1 := blk_frozen BK259.out 1; have hfz81_2 := blk_frozen BK259.out 2))
                go_meet
                case rel => exact ⟨_, ((t258 != false)), (by first | rfl | (simp; done) | (simp [*]; done)), H', ⟨by first | omega | exact Nat.le_refl _⟩, ⟨by (with_reducible repeat (first | refine blk_drewN ?_ _ | refine blk_drew ?_ | refine blk_alloc ?_ _)); exact BK243.out⟩, ⟨by (with_reducible repeat (first | refine blk_drewN ?_ _ | refine blk_drew ?_ | refine blk_alloc ?_ _)); exact BK248.out⟩, ⟨by (with_reducible repeat (first | refine blk_drewN ?_ _ | refine blk_drew ?_ | refine blk_alloc ?_ _)); exact BK254.out⟩, ⟨by (with_reducible repeat (first | refine blk_drewN ?_ _ | refine blk_drew ?_ | refine blk_alloc ?_ _)); exact BK259.out⟩, ⟨by repeat (first | (with_reducible first | exact HB.out | apply below_alloc | apply pw_below_drewN | apply below_drew1 | refine below_set ?_ GE243.out | refine below_set ?_ GE248.out | refine below_set ?_ GE254.out | refine below_set ?_ GE259.out) | exact HB.out)⟩⟩
          · have H1 : (if (t253 != false) = true then (shutterlaw05_AttrGets.j0 k a0 (some q261) t247 t253 t258 true) else (if t247.isNone = true then (shutterlaw05_AttrGets.j0 k a0 (some q261) none t253 t258 (t258 != true)) else (shutterlaw05_AttrGets.j0 k a0 (some q261) (some (t247.getD 0)) t253 t258 (t258 != false)))) = some r := by rw [if_neg (show ¬ (some q261).isNone = true by simp)] at H; exact H
            clear H
            have H := H1
            clear H1
            try simp only [errW_none, errW_some]
            by_cases c82 : (t253 != false) = true
            · rw [if_pos c82] at H
              have c82b0 : (t253 != false) = true := c82
              (try (have c82b1 : decide (t253 = false) = false := by simpa using c82))
              (try (have c82b2 : (t253 == false) = false := by simpa using c82))
              (try (have c82b3 : ¬ (t253 = false) := by simpa using c82))
              clear c82
              exact absurd (H.trans (congrArg some hr1.out)) (shutterlaw05_AttrGets.j0_ne _ _ _ _ _ _)
            · rw [if_neg c82] at H
              have c82b0 : (t253 != false) = false := by simpa using c82
              (try (have c82b1 : decide (t253 = false) = true := by simpa using c82))
              (try (have c82b2 : (t253 == false) = true := by simpa using c82))
              clear c82
              rcases t247 with _ | q263
              · have H1 : (shutterlaw05_AttrGets.j0 k a0 (some q261) none t253 t258 (t258 != true)) = some r := by rw [if_pos (show (none : Option Int).isNone = true by rfl)] at H; exact H
                clear H
                have H := H1
                clear H1
                try simp only [errW_none, errW_some]
                have H' := Aside0.mk H
                clear H
                go_wp2_with (first | ((with_reducible refine gate_callee (f := 17) rfl ?_); refine goesL_ (some 31) rfl rfl Tryd.func17 (by kernel_rfl) rfl #[] rfl (by (try simp only [List.map_toArray, List.map_cons, List.map_nil]); first | done | rfl | (simp only [List.length_drop, List.length_take]; rfl)) ?_; (with_reducible refine (shutterlaw05_awake.calls k  true _ A25.out).mono ?_); rintro e w94 ⟨rfl, hb⟩; refine ⟨_, rfl, ?_⟩; have n0_ := Aside0.mk (blk_below (g := gb243) (o := .cells #[.bool t238, .bool t239, .int .i64 t240, .bool t241] 37 (0, 0)) (by (with_reducible repeat (first | refine blk_drewN ?_ _ | refine blk_drew ?_ | refine blk_alloc ?_ _)); refine blk_far ?_ NB243_259.out _; (with_reducible repeat (first | refine blk_drewN ?_ _ | refine blk_drew ?_ | refine blk_alloc ?_ _)); refine blk_far ?_ NB243_259.out _; (with_reducible repeat (first | refine blk_drewN ?_ _ | refine blk_drew ?_ | refine blk_alloc ?_ _)); refine blk_far ?_ NB243_259.out _; (with_reducible repeat (first | refine blk_drewN ?_ _ | refine blk_drew ?_ | refine blk_alloc ?_ _)); exact BK243.out) hb); have n1_ := Aside0.mk (blk_below (g := gb248) (o := .cells #[.bool t244, .bool t245, .bool t246] 39 (0, 0)) (by (with_reducible repeat (first | refine blk_drewN ?_ _ | refine blk_drew ?_ | refine blk_alloc ?_ _)); refine blk_far ?_ NB248_259.out _; (with_reducible repeat (first | refine blk_drewN ?_ _ | refine blk_drew ?_ | refine blk_alloc ?_ _)); refine blk_far ?_ NB248_259.out _; (with_reducible repeat (first | refine blk_drewN ?_ _ | refine blk_drew ?_ | refine blk_alloc ?_ _)); refine blk_far ?_ NB248_259.out _; (with_reducible repeat (first | refine blk_drewN ?_ _ | refine blk_drew ?_ | refine blk_alloc ?_ _)); exact BK248.out) hb); have n2_ := Aside0.mk (blk_below (g := gb254) (o := .cells #[.bool t249, .bool t250, .int .i64 t251, .bool t252] 37 (0, 0)) (by (with_reducible repeat (first | refine blk_drewN ?_ _ | refine blk_drew ?_ | refine blk_alloc ?_ _)); refine blk_far ?_ NB254_259.out _; (with_reducible repeat (first | refine blk_drewN ?_ _ | refine blk_drew ?_ | refine blk_alloc ?_ _)); refine blk_far ?_ NB254_259.out _; (with_reducible repeat (first | refine blk_drewN ?_ _ | refine blk_drew ?_ | refine blk_alloc ?_ _)); refine blk_far ?_ NB254_259.out _; (with_reducible repeat (first | refine blk_drewN ?_ _ | refine blk_drew ?_ | refine blk_alloc ?_ _)); exact BK254.out) hb); have n3_ := Aside0.mk (blk_below (g := gb259) (o := .cells #[.bool t255, .bool t256, .bool t257] 39 (0, 0)) (by (with_reducible repeat (first | refine blk_drewN ?_ _ | refine blk_drew ?_ | refine blk_alloc ?_ _)); refine blk_put (cs := #[.bool t255, .bool t256, .bool false]) ?_ 2 _ rfl; (with_reducible repeat (first | refine blk_drewN ?_ _ | refine blk_drew ?_ | refine blk_alloc ?_ _)); refine blk_put (cs := #[.bool t255, .bool false, .bool false]) ?_ 1 _ rfl; (with_reducible repeat (first | refine blk_drewN ?_ _ | refine blk_drew ?_ | refine blk_alloc ?_ _)); refine blk_put (cs := #[.bool false, .bool false, .bool false]) ?_ 0 _ rfl; (with_reducible repeat (first | refine blk_drewN ?_ _ | refine blk_drew ?_ | refine blk_alloc ?_ _)); exact BK259.out) hb); have n4_ := Aside0.mk (below_step (by repeat (first | (with_reducible first | exact HB.out | apply below_alloc | apply pw_below_drewN | apply below_drew1 | refine below_set ?_ GE243.out | refine below_set ?_ GE248.out | refine below_set ?_ GE254.out | refine below_set ?_ GE259.out) | exact HB.out)) hb); clear BK243; clear BK248; clear BK254; clear BK259; clear HB; have BK243 := n0_; have BK248 := n1_; have BK254 := n2_; have BK259 := n3_; have HB := n4_; clear n0_ n1_ n2_ n3_ n4_; (try clear hb); (try clear hb2); (try clear hk); (try clear hi); have hnb95 := NB243_248.out; have hnc95 := NB248_243.out; have hnb96 := NB243_254.out; have hnc96 := NB254_243.out; have hnb97 := NB243_259.out; have hnc97 := NB259_243.out; have hcz98_0 : w94.cell? ⟨gb243, 0, none⟩ = some (.bool t238) := (blk_cell BK243.out 0).trans rfl; have hcz98_1 : w94.cell? ⟨gb243, 1, none⟩ = some (.bool t239) := (blk_cell BK243.out 1).trans rfl; have hcz98_2 : w94.cell? ⟨gb243, 2, none⟩ = some (.int .i64 t240) := (blk_cell BK243.out 2).trans rfl; have hcz98_3 : w94.cell? ⟨gb243, 3, none⟩ = some (.bool t241) := (blk_cell BK243.out 3).trans rfl; have hfz98_0 := blk_frozen BK243.out 0; have hfz98_1 := blk_frozen BK243.out 1; have hfz98_2 := blk_frozen BK243.out 2; have hfz98_3 := blk_frozen BK243.out 3; have hnb99 := NB254_248.out; have hnc99 := NB248_254.out; have hnb100 := NB254_259.out; have hnc100 := NB259_254.out; have hcz101_0 : w94.cell? ⟨gb254, 0, none⟩ = some (.bool t249) := (blk_cell BK254.out 0).trans rfl; have hcz101_1 : w94.cell? ⟨gb254, 1, none⟩ = some (.bool t250) := (blk_cell BK254.out 1).trans rfl; have hcz101_2 : w94.cell? ⟨gb254, 2, none⟩ = some (.int .i64 t251) := (blk_cell BK254.out 2).trans rfl; have hcz101_3 : w94.cell? ⟨gb254, 3, none⟩ = some (.bool t252) := (blk_cell BK254.out 3).trans rfl; have hfz101_0 := blk_frozen BK254.out 0; have hfz101_1 := blk_frozen BK254.out 1; have hfz101_2 := blk_frozen BK254.out 2; have hfz101_3 := blk_frozen BK254.out 3; have hnb102 := NB248_259.out; have hnc102 := NB259_248.out; have hcz103_0 : w94.cell? ⟨gb248, 0, none⟩ = some (.bool t244) := (blk_cell BK248.out 0).trans rfl; have hcz103_1 : w94.cell? ⟨gb248, 1, none⟩ = some (.bool t245) := (blk_cell BK248.out 1).trans rfl; have hcz103_2 : w94.cell? ⟨gb248, 2, none⟩ = some (.bool t246) := (blk_cell BK248.out 2).trans rfl; have hfz103_0 := blk_frozen BK248.out 0; have hfz103_1 := blk_frozen BK248.out 1; have hfz103_2 := blk_frozen BK248.out 2; have hcz104_0 : w94.cell? ⟨gb259, 0, none⟩ = some (.bool t255) := (blk_cell BK259.out 0).trans rfl; have hcz104_1 : w94.cell? ⟨gb259, 1, none⟩ = some (.bool t256) := (blk_cell BK259.out 1).trans rfl; have hcz104_2 : w94.cell? ⟨gb259, 2, none⟩ = some (.bool t257) := (blk_cell BK259.out 2).trans rfl; have hfz104_0 := blk_frozen BK259.out 0; have hfz104_1 := blk_frozen BK259.out 1; have hfz104_2 := blk_frozen BK259.out 2))
                go_meet
                case rel => exact ⟨_, ((t258 != true)), (by first | rfl | (simp; done) | (simp [*]; done)), H', ⟨by first | omega | exact Nat.le_refl _⟩, ⟨by (with_reducible repeat (first | refine blk_drewN ?_ _ | refine blk_drew ?_ | refine blk_alloc ?_ _)); exact BK243.out⟩, ⟨by (with_reducible repeat (first | refine blk_drewN ?_ _ | refine blk_drew ?_ | refine blk_alloc ?_ _)); exact BK248.out⟩, ⟨by (with_reducible repeat (first | refine blk_drewN ?_ _ | refine blk_drew ?_ | refine blk_alloc ?_ _)); exact BK254.out⟩, ⟨by (with_reducible repeat (first | refine blk_drewN ?_ _ | refine blk_drew ?_ | refine blk_alloc ?_ _)); exact BK259.out⟩, ⟨by repeat (first | (with_reducible first | exact HB.out | apply below_alloc | apply pw_below_drewN | apply below_drew1 | refine below_set ?_ GE243.out | refine below_set ?_ GE248.out | refine below_set ?_ GE254.out | refine below_set ?_ GE259.out) | exact HB.out)⟩⟩
              · have H1 : (shutterlaw05_AttrGets.j0 k a0 (some q261) (some q263) t253 t258 (t258 != false)) = some r := by rw [if_neg (show ¬ (some q263).isNone = true by simp)] at H; exact H
                clear H
                have H := H1
                clear H1
                try simp only [errW_none, errW_some]
                have H' := Aside0.mk H
                clear H
                go_wp2_with (first | ((with_reducible refine gate_callee (f := 17) rfl ?_); refine goesL_ (some 31) rfl rfl Tryd.func17 (by kernel_rfl) rfl #[] rfl (by (try simp only [List.map_toArray, List.map_cons, List.map_nil]); first | done | rfl | (simp only [List.length_drop, List.length_take]; rfl)) ?_; (with_reducible refine (shutterlaw05_awake.calls k  true _ A25.out).mono ?_); rintro e w105 ⟨rfl, hb⟩; refine ⟨_, rfl, ?_⟩; have n0_ := Aside0.mk (blk_below (g := gb243) (o := .cells #[.bool t238, .bool t239, .int .i64 t240, .bool t241] 37 (0, 0)) (by (with_reducible repeat (first | refine blk_drewN ?_ _ | refine blk_drew ?_ | refine blk_alloc ?_ _)); refine blk_far ?_ NB243_259.out _; (with_reducible repeat (first | refine blk_drewN ?_ _ | refine blk_drew ?_ | refine blk_alloc ?_ _)); refine blk_far ?_ NB243_259.out _; (with_reducible repeat (first | refine blk_drewN ?_ _ | refine blk_drew ?_ | refine blk_alloc ?_ _)); refine blk_far ?_ NB243_259.out _; (with_reducible repeat (first | refine blk_drewN ?_ _ | refine blk_drew ?_ | refine blk_alloc ?_ _)); exact BK243.out) hb); have n1_ := Aside0.mk (blk_below (g := gb248) (o := .cells #[.bool t244, .bool t245, .bool t246] 39 (0, 0)) (by (with_reducible repeat (first | refine blk_drewN ?_ _ | refine blk_drew ?_ | refine blk_alloc ?_ _)); refine blk_far ?_ NB248_259.out _; (with_reducible repeat (first | refine blk_drewN ?_ _ | refine blk_drew ?_ | refine blk_alloc ?_ _)); refine blk_far ?_ NB248_259.out _; (with_reducible repeat (first | refine blk_drewN ?_ _ | refine blk_drew ?_ | refine blk_alloc ?_ _)); refine blk_far ?_ NB248_259.out _; (with_reducible repeat (first | refine blk_drewN ?_ _ | refine blk_drew ?_ | refine blk_alloc ?_ _)); exact BK248.out) hb); have n2_ := Aside0.mk (blk_below (g := gb254) (o := .cells #[.bool t249, .bool t250, .int .i64 t251, .bool t252] 37 (0, 0)) (by (with_reducible repeat (first | refine blk_drewN ?_ _ | refine blk_drew ?_ | refine blk_alloc ?_ _)); refine blk_far ?_ NB254_259.out _; (with_reducible repeat (first | refine blk_drewN ?_ _ | refine blk_drew ?_ | refine blk_alloc ?_ _)); refine blk_far ?_ NB254_259.out _; (with_reducible repeat (first | refine blk_drewN ?_ _ | refine blk_drew ?_ | refine blk_alloc ?_ _)); refine blk_far ?_ NB254_259.out _; (with_reducible repeat (first | refine blk_drewN ?_ _ | refine blk_drew ?_ | refine blk_alloc ?_ _)); exact BK254.out) hb); have n3_ := Aside0.mk (blk_below (g := gb259) (o := .cells #[.bool t255, .bool t256, .bool t257] 39 (0, 0)) (by (with_reducible repeat (first | refine blk_drewN ?_ _ | refine blk_drew ?_ | refine blk_alloc ?_ _)); refine blk_put (cs := #[.bool t255, .bool t256, .bool false]) ?_ 2 _ rfl; (with_reducible repeat (first | refine blk_drewN ?_ _ | refine blk_drew ?_ | refine blk_alloc ?_ _)); refine blk_put (cs := #[.bool t255, .bool false, .bool false]) ?_ 1 _ rfl; (with_reducible repeat (first | refine blk_drewN ?_ _ | refine blk_drew ?_ | refine blk_alloc ?_ _)); refine blk_put (cs := #[.bool false, .bool false, .bool false]) ?_ 0 _ rfl; (with_reducible repeat (first | refine blk_drewN ?_ _ | refine blk_drew ?_ | refine blk_alloc ?_ _)); exact BK259.out) hb); have n4_ := Aside0.mk (below_step (by repeat (first | (with_reducible first | exact HB.out | apply below_alloc | apply pw_below_drewN | apply below_drew1 | refine below_set ?_ GE243.out | refine below_set ?_ GE248.out | refine below_set ?_ GE254.out | refine below_set ?_ GE259.out) | exact HB.out)) hb); clear BK243; clear BK248; clear BK254; clear BK259; clear HB; have BK243 := n0_; have BK248 := n1_; have BK254 := n2_; have BK259 := n3_; have HB := n4_; clear n0_ n1_ n2_ n3_ n4_; (try clear hb); (try clear hb2); (try clear hk); (try clear hi); have hnb106 := NB243_248.out; have hnc106 := NB248_243.out; have hnb107 := NB243_254.out; have hnc107 := NB254_243.out; have hnb108 := NB243_259.out; have hnc108 := NB259_243.out; have hcz109_0 : w105.cell? ⟨gb243, 0, none⟩ = some (.bool t238) := (blk_cell BK243.out 0).trans rfl; have hcz109_1 : w105.cell? ⟨gb243, 1, none⟩ = some (.bool t239) := (blk_cell BK243.out 1).trans rfl; have hcz109_2 : w105.cell? ⟨gb243, 2, none⟩ = some (.int .i64 t240) := (blk_cell BK243.out 2).trans rfl; have hcz109_3 : w105.cell? ⟨gb243, 3, none⟩ = some (.bool t241) := (blk_cell BK243.out 3).trans rfl; have hfz109_0 := blk_frozen BK243.out 0; have hfz109_1 := blk_frozen BK243.out 1; have hfz109_2 := blk_frozen BK243.out 2; have hfz109_3 := blk_frozen BK243.out 3; have hnb110 := NB254_248.out; have hnc110 := NB248_254.out; have hnb111 := NB254_259.out; have hnc111 := NB259_254.out; have hcz112_0 : w105.cell? ⟨gb254, 0, none⟩ = some (.bool t249) := (blk_cell BK254.out 0).trans rfl; have hcz112_1 : w105.cell? ⟨gb254, 1, none⟩ = some (.bool t250) := (blk_cell BK254.out 1).trans rfl; have hcz112_2 : w105.cell? ⟨gb254, 2, none⟩ = some (.int .i64 t251) := (blk_cell BK254.out 2).trans rfl; have hcz112_3 : w105.cell? ⟨gb254, 3, none⟩ = some (.bool t252) := (blk_cell BK254.out 3).trans rfl; have hfz112_0 := blk_frozen BK254.out 0; have hfz112_1 := blk_frozen BK254.out 1; have hfz112_2 := blk_frozen BK254.out 2; have hfz112_3 := blk_frozen BK254.out 3; have hnb113 := NB248_259.out; have hnc113 := NB259_248.out; have hcz114_0 : w105.cell? ⟨gb248, 0, none⟩ = some (.bool t244) := (blk_cell BK248.out 0).trans rfl; have hcz114_1 : w105.cell? ⟨gb248, 1, none⟩ = some (.bool t245) := (blk_cell BK248.out 1).trans rfl; have hcz114_2 : w105.cell? ⟨gb248, 2, none⟩ = some (.bool t246) := (blk_cell BK248.out 2).trans rfl; have hfz114_0 := blk_frozen BK248.out 0; have hfz114_1 := blk_frozen BK248.out 1; have hfz114_2 := blk_frozen BK248.out 2; have hcz115_0 : w105.cell? ⟨gb259, 0, none⟩ = some (.bool t255) := (blk_cell BK259.out 0).trans rfl; have hcz115_1 : w105.cell? ⟨gb259, 1, none⟩ = some (.bool t256) := (blk_cell BK259.out 1).trans rfl; have hcz115_2 : w105.cell? ⟨gb259, 2, none⟩ = some (.bool t257) := (blk_cell BK259.out 2).trans rfl; have hfz115_0 := blk_frozen BK259.out 0; have hfz115_1 := blk_frozen BK259.out 1; have hfz115_2 := blk_frozen BK259.out 2))
                go_meet
                case rel => exact ⟨_, ((t258 != false)), (by first | rfl | (simp; done) | (simp [*]; done)), H', ⟨by first | omega | exact Nat.le_refl _⟩, ⟨by (with_reducible repeat (first | refine blk_drewN ?_ _ | refine blk_drew ?_ | refine blk_alloc ?_ _)); exact BK243.out⟩, ⟨by (with_reducible repeat (first | refine blk_drewN ?_ _ | refine blk_drew ?_ | refine blk_alloc ?_ _)); exact BK248.out⟩, ⟨by (with_reducible repeat (first | refine blk_drewN ?_ _ | refine blk_drew ?_ | refine blk_alloc ?_ _)); exact BK254.out⟩, ⟨by (with_reducible repeat (first | refine blk_drewN ?_ _ | refine blk_drew ?_ | refine blk_alloc ?_ _)); exact BK259.out⟩, ⟨by repeat (first | (with_reducible first | exact HB.out | apply below_alloc | apply pw_below_drewN | apply below_drew1 | refine below_set ?_ GE243.out | refine below_set ?_ GE248.out | refine below_set ?_ GE254.out | refine below_set ?_ GE259.out) | exact HB.out)⟩⟩
    · replace c26 := Bool.eq_false_iff.mpr c26
      subst c26
      have H1 : (shutterlaw05_AttrGets.j0 k a0 t242 t247 t253 t258 true) = some r := by rw [if_neg (show ¬ (false = true) by decide)] at H; exact H
      clear H
      have H := H1
      clear H1
      have H' := Aside0.mk H
      clear H
      go_wp2_with (first | ((with_reducible refine gate_callee (f := 17) rfl ?_); refine goesL_ (some 31) rfl rfl Tryd.func17 (by kernel_rfl) rfl #[] rfl (by (try simp only [List.map_toArray, List.map_cons, List.map_nil]); first | done | rfl | (simp only [List.length_drop, List.length_take]; rfl)) ?_; (with_reducible refine (shutterlaw05_awake.calls k  false _ A25.out).mono ?_); rintro e w116 ⟨rfl, hb⟩; refine ⟨_, rfl, ?_⟩; have n0_ := Aside0.mk (blk_below (g := gb243) (o := .cells #[.bool t238, .bool t239, .int .i64 t240, .bool t241] 37 (0, 0)) (by (with_reducible repeat (first | refine blk_drewN ?_ _ | refine blk_drew ?_ | refine blk_alloc ?_ _)); refine blk_far ?_ NB243_259.out _; (with_reducible repeat (first | refine blk_drewN ?_ _ | refine blk_drew ?_ | refine blk_alloc ?_ _)); refine blk_far ?_ NB243_259.out _; (with_reducible repeat (first | refine blk_drewN ?_ _ | refine blk_drew ?_ | refine blk_alloc ?_ _)); refine blk_far ?_ NB243_259.out _; (with_reducible repeat (first | refine blk_drewN ?_ _ | refine blk_drew ?_ | refine blk_alloc ?_ _)); exact BK243.out) hb); have n1_ := Aside0.mk (blk_below (g := gb248) (o := .cells #[.bool t244, .bool t245, .bool t246] 39 (0, 0)) (by (with_reducible repeat (first | refine blk_drewN ?_ _ | refine blk_drew ?_ | refine blk_alloc ?_ _)); refine blk_far ?_ NB248_259.out _; (with_reducible repeat (first | refine blk_drewN ?_ _ | refine blk_drew ?_ | refine blk_alloc ?_ _)); refine blk_far ?_ NB248_259.out _; (with_reducible repeat (first | refine blk_drewN ?_ _ | refine blk_drew ?_ | refine blk_alloc ?_ _)); refine blk_far ?_ NB248_259.out _; (with_reducible repeat (first | refine blk_drewN ?_ _ | refine blk_drew ?_ | refine blk_alloc ?_ _)); exact BK248.out) hb); have n2_ := Aside0.mk (blk_below (g := gb254) (o := .cells #[.bool t249, .bool t250, .int .i64 t251, .bool t252] 37 (0, 0)) (by (with_reducible repeat (first | refine blk_drewN ?_ _ | refine blk_drew ?_ | refine blk_alloc ?_ _)); refine blk_far ?_ NB254_259.out _; (with_reducible repeat (first | refine blk_drewN ?_ _ | refine blk_drew ?_ | refine blk_alloc ?_ _)); refine blk_far ?_ NB254_259.out _; (with_reducible repeat (first | refine blk_drewN ?_ _ | refine blk_drew ?_ | refine blk_alloc ?_ _)); refine blk_far ?_ NB254_259.out _; (with_reducible repeat (first | refine blk_drewN ?_ _ | refine blk_drew ?_ | refine blk_alloc ?_ _)); exact BK254.out) hb); have n3_ := Aside0.mk (blk_below (g := gb259) (o := .cells #[.bool t255, .bool t256, .bool t257] 39 (0, 0)) (by (with_reducible repeat (first | refine blk_drewN ?_ _ | refine blk_drew ?_ | refine blk_alloc ?_ _)); refine blk_put (cs := #[.bool t255, .bool t256, .bool false]) ?_ 2 _ rfl; (with_reducible repeat (first | refine blk_drewN ?_ _ | refine blk_drew ?_ | refine blk_alloc ?_ _)); refine blk_put (cs := #[.bool t255, .bool false, .bool false]) ?_ 1 _ rfl; (with_reducible repeat (first | refine blk_drewN ?_ _ | refine blk_drew ?_ | refine blk_alloc ?_ _)); refine blk_put (cs := #[.bool false, .bool false, .bool false]) ?_ 0 _ rfl; (with_reducible repeat (first | refine blk_drewN ?_ _ | refine blk_drew ?_ | refine blk_alloc ?_ _)); exact BK259.out) hb); have n4_ := Aside0.mk (below_step (by repeat (first | (with_reducible first | exact HB.out | apply below_alloc | apply pw_below_drewN | apply below_drew1 | refine below_set ?_ GE243.out | refine below_set ?_ GE248.out | refine below_set ?_ GE254.out | refine below_set ?_ GE259.out) | exact HB.out)) hb); clear BK243; clear BK248; clear BK254; clear BK259; clear HB; have BK243 := n0_; have BK248 := n1_; have BK254 := n2_; have BK259 := n3_; have HB := n4_; clear n0_ n1_ n2_ n3_ n4_; (try clear hb); (try clear hb2); (try clear hk); (try clear hi)))
      go_meet
      case rel => exact ⟨_, (true), (by first | rfl | (simp; done) | (simp [*]; done)), H', ⟨by first | omega | exact Nat.le_refl _⟩, ⟨by (with_reducible repeat (first | refine blk_drewN ?_ _ | refine blk_drew ?_ | refine blk_alloc ?_ _)); exact BK243.out⟩, ⟨by (with_reducible repeat (first | refine blk_drewN ?_ _ | refine blk_drew ?_ | refine blk_alloc ?_ _)); exact BK248.out⟩, ⟨by (with_reducible repeat (first | refine blk_drewN ?_ _ | refine blk_drew ?_ | refine blk_alloc ?_ _)); exact BK254.out⟩, ⟨by (with_reducible repeat (first | refine blk_drewN ?_ _ | refine blk_drew ?_ | refine blk_alloc ?_ _)); exact BK259.out⟩, ⟨by repeat (first | (with_reducible first | exact HB.out | apply below_alloc | apply pw_below_drewN | apply below_drew1 | refine below_set ?_ GE243.out | refine below_set ?_ GE248.out | refine below_set ?_ GE254.out | refine below_set ?_ GE259.out) | exact HB.out)⟩⟩
  case rest =>
    clear HC6
    try clear c1
    try clear c2
    try clear p2
    try clear q2
    try clear c3
    try clear c4
    try clear c5
    try clear c6
    try clear c7
    try clear c8
    try clear c9
    try clear c10
    try clear c11
    try clear c12
    try clear c16
    try clear c17
    try clear c21
    try clear c22
    try clear c23
    try clear c24
    try clear c26
    try clear q26
    try clear c27
    try clear c27b0
    try clear c29
    try clear c30
    try clear c31
    try clear c33
    try clear c34
    try clear c36
    try clear c36b0
    try clear c38
    try clear c39
    try clear c40
    try clear c42
    try clear c43
    try clear c45
    try clear c48
    try clear c48b0
    try clear c48b1
    try clear c48b2
    try clear c50
    try clear c51
    try clear c52
    try clear c54
    try clear c55
    try clear c57
    try clear c61
    try clear c62
    try clear c63
    try clear c65
    try clear c66
    try clear c68
    try clear c72
    try clear c73
    try clear c74
    try clear c76
    try clear c77
    try clear c79
    try clear c82
    try clear c82b0
    try clear c82b1
    try clear c82b2
    try clear c84
    try clear c85
    try clear c86
    try clear c88
    try clear c89
    try clear c91
    try clear c95
    try clear c96
    try clear c97
    try clear c99
    try clear c100
    try clear c102
    try clear c106
    try clear c107
    try clear c108
    try clear c110
    try clear c111
    try clear c113
    try clear hcz101_0
    try clear hcz101_1
    try clear hcz101_2
    try clear hcz101_3
    try clear hcz103_0
    try clear hcz103_1
    try clear hcz103_2
    try clear hcz104_0
    try clear hcz104_1
    try clear hcz104_2
    try clear hcz109_0
    try clear hcz109_1
    try clear hcz109_2
    try clear hcz109_3
    try clear hcz112_0
    try clear hcz112_1
    try clear hcz112_2
    try clear hcz112_3
    try clear hcz114_0
    try clear hcz114_1
    try clear hcz114_2
    try clear hcz115_0
    try clear hcz115_1
    try clear hcz115_2
    try clear hcz13_0
    try clear hcz13_1
    try clear hcz13_2
    try clear hcz18_0
    try clear hcz18_1
    try clear hcz18_2
    try clear hcz18_3
    try clear hcz24_0
    try clear hcz24_1
    try clear hcz24_2
    try clear hcz32_0
    try clear hcz32_1
    try clear hcz32_2
    try clear hcz32_3
    try clear hcz35_0
    try clear hcz35_1
    try clear hcz35_2
    try clear hcz35_3
    try clear hcz41_0
    try clear hcz41_1
    try clear hcz41_2
    try clear hcz41_3
    try clear hcz44_0
    try clear hcz44_1
    try clear hcz44_2
    try clear hcz44_3
    try clear hcz46_0
    try clear hcz46_1
    try clear hcz46_2
    try clear hcz47_0
    try clear hcz47_1
    try clear hcz47_2
    try clear hcz53_0
    try clear hcz53_1
    try clear hcz53_2
    try clear hcz53_3
    try clear hcz56_0
    try clear hcz56_1
    try clear hcz56_2
    try clear hcz56_3
    try clear hcz58_0
    try clear hcz58_1
    try clear hcz58_2
    try clear hcz59_0
    try clear hcz59_1
    try clear hcz59_2
    try clear hcz64_0
    try clear hcz64_1
    try clear hcz64_2
    try clear hcz64_3
    try clear hcz67_0
    try clear hcz67_1
    try clear hcz67_2
    try clear hcz67_3
    try clear hcz69_0
    try clear hcz69_1
    try clear hcz69_2
    try clear hcz70_0
    try clear hcz70_1
    try clear hcz70_2
    try clear hcz75_0
    try clear hcz75_1
    try clear hcz75_2
    try clear hcz75_3
    try clear hcz78_0
    try clear hcz78_1
    try clear hcz78_2
    try clear hcz78_3
    try clear hcz80_0
    try clear hcz80_1
    try clear hcz80_2
    try clear hcz81_0
    try clear hcz81_1
    try clear hcz81_2
    try clear hcz87_0
    try clear hcz87_1
    try clear hcz87_2
    try clear hcz87_3
    try clear hcz90_0
    try clear hcz90_1
    try clear hcz90_2
    try clear hcz90_3
    try clear hcz92_0
    try clear hcz92_1
    try clear hcz92_2
    try clear hcz93_0
    try clear hcz93_1
    try clear hcz93_2
    try clear hcz98_0
    try clear hcz98_1
    try clear hcz98_2
    try clear hcz98_3
    try clear hcz9_0
    try clear hcz9_1
    try clear hcz9_2
    try clear hcz9_3
    try clear hfz101_0
    try clear hfz101_1
    try clear hfz101_2
    try clear hfz101_3
    try clear hfz103_0
    try clear hfz103_1
    try clear hfz103_2
    try clear hfz104_0
    try clear hfz104_1
    try clear hfz104_2
    try clear hfz109_0
    try clear hfz109_1
    try clear hfz109_2
    try clear hfz109_3
    try clear hfz112_0
    try clear hfz112_1
    try clear hfz112_2
    try clear hfz112_3
    try clear hfz114_0
    try clear hfz114_1
    try clear hfz114_2
    try clear hfz115_0
    try clear hfz115_1
    try clear hfz115_2
    try clear hfz13_0
    try clear hfz13_1
    try clear hfz13_2
    try clear hfz18_0
    try clear hfz18_1
    try clear hfz18_2
    try clear hfz18_3
    try clear hfz24_0
    try clear hfz24_1
    try clear hfz24_2
    try clear hfz32_0
    try clear hfz32_1
    try clear hfz32_2
    try clear hfz32_3
    try clear hfz35_0
    try clear hfz35_1
    try clear hfz35_2
    try clear hfz35_3
    try clear hfz41_0
    try clear hfz41_1
    try clear hfz41_2
    try clear hfz41_3
    try clear hfz44_0
    try clear hfz44_1
    try clear hfz44_2
    try clear hfz44_3
    try clear hfz46_0
    try clear hfz46_1
    try clear hfz46_2
    try clear hfz47_0
    try clear hfz47_1
    try clear hfz47_2
    try clear hfz53_0
    try clear hfz53_1
    try clear hfz53_2
    try clear hfz53_3
    try clear hfz56_0
    try clear hfz56_1
    try clear hfz56_2
    try clear hfz56_3
    try clear hfz58_0
    try clear hfz58_1
    try clear hfz58_2
    try clear hfz59_0
    try clear hfz59_1
    try clear hfz59_2
    try clear hfz64_0
    try clear hfz64_1
    try clear hfz64_2
    try clear hfz64_3
    try clear hfz67_0
    try clear hfz67_1
    try clear hfz67_2
    try clear hfz67_3
    try clear hfz69_0
    try clear hfz69_1
    try clear hfz69_2
    try clear hfz70_0
    try clear hfz70_1
    try clear hfz70_2
    try clear hfz75_0
    try clear hfz75_1
    try clear hfz75_2
    try clear hfz75_3
    try clear hfz78_0
    try clear hfz78_1
    try clear hfz78_2
    try clear hfz78_3
    try clear hfz80_0
    try clear hfz80_1
    try clear hfz80_2
    try clear hfz81_0
    try clear hfz81_1
    try clear hfz81_2
    try clear hfz87_0
    try clear hfz87_1
    try clear hfz87_2
    try clear hfz87_3
    try clear hfz90_0
    try clear hfz90_1
    try clear hfz90_2
    try clear hfz90_3
    try clear hfz92_0
    try clear hfz92_1
    try clear hfz92_2
    try clear hfz93_0
    try clear hfz93_1
    try clear hfz93_2
    try clear hfz98_0
    try clear hfz98_1
    try clear hfz98_2
    try clear hfz98_3
    try clear hfz9_0
    try clear hfz9_1
    try clear hfz9_2
    try clear hfz9_3
    try clear q261
    try clear q262
    try clear q263
    obtain ⟨kq, x54_5, rfl, HA, HJ5, BK243, BK248, BK254, BK259, HB⟩ := hcut
    cases kq with
    | zero => exact absurd HA.out (by simp [shutterlaw05_AttrGets.j0])
    | succ kj5 =>
      have H := HA.out
      clear HA
      simp only [shutterlaw05_AttrGets.j0] at H
      by_cases c117 : x54_5 = true
      · subst c117
        have H1 : (some false) = some r := by rw [if_pos rfl] at H; exact H
        clear H
        have H := H1
        clear H1
        obtain rfl := Option.some.inj H
        go_wp2
        go_ret
        exact ⟨by first | rfl | (simp [errW_none, errW_some] <;> rfl) | (simp [*, errW_none, errW_some] <;> rfl), by repeat (first | (with_reducible first | exact HB.out | apply below_alloc | apply pw_below_drewN | apply below_drew1 | refine below_set ?_ GE243.out | refine below_set ?_ GE248.out | refine below_set ?_ GE254.out | refine below_set ?_ GE259.out) | exact HB.out)⟩
      · replace c117 := Bool.eq_false_iff.mpr c117
        subst c117
        have H1 : (if t253 = true then (if t258 = true then (shutterlaw05_AttrGets.j1 kj5 a0 false) else ((api_Code.f t247).bind fun t264 => (shutterlaw05_AttrGets.j1 kj5 a0 (t264 != 3)))) else ((api_Code.f t242).bind fun t265 => (if t265 = 3 then (if t258 = true then (shutterlaw05_AttrGets.j1 kj5 a0 false) else ((api_Code.f t247).bind fun t266 => (shutterlaw05_AttrGets.j1 kj5 a0 (t266 != 3)))) else (shutterlaw05_AttrGets.j1 kj5 a0 true)))) = some r := by rw [if_neg (show ¬ (false = true) by decide)] at H; exact H
        clear H
        have H := H1
        clear H1
        have HC118 := Aside0.mk H
        clear H
        go_upto_region 7 with (fail)
        go_cut [70] (fun v70 wc => ∃ (kq : Nat) (x70_117 : Bool), v70 = .bool x70_117 ∧ Aside0 (shutterlaw05_AttrGets.j1 kq a0 x70_117 = some r) ∧ Aside0 (kq ≤ kj5) ∧ Aside0 (wc.heap[gb243]? = some (.cells #[.bool t238, .bool t239, .int .i64 t240, .bool t241] 37 (0, 0))) ∧ Aside0 (wc.heap[gb248]? = some (.cells #[.bool t244, .bool t245, .bool t246] 39 (0, 0))) ∧ Aside0 (wc.heap[gb254]? = some (.cells #[.bool t249, .bool t250, .int .i64 t251, .bool t252] 37 (0, 0))) ∧ Aside0 (wc.heap[gb259]? = some (.cells #[.bool t255, .bool t256, .bool t257] 39 (0, 0))) ∧ Aside0 (Below w.heap.size w wc))
        case first =>
          have H := HC118.out
          clear HC118
          by_cases c119 : t253 = true
          · subst c119
            have H1 : (if t258 = true then (shutterlaw05_AttrGets.j1 kj5 a0 false) else ((api_Code.f t247).bind fun t264 => (shutterlaw05_AttrGets.j1 kj5 a0 (t264 != 3)))) = some r := by rw [if_pos rfl] at H; exact H
            clear H
            have H := H1
            clear H1
            by_cases c120 : t258 = true
            · subst c120
              have H1 : (shutterlaw05_AttrGets.j1 kj5 a0 false) = some r := by rw [if_pos rfl] at H; exact H
              clear H
              have H := H1
              clear H1
              have H' := Aside0.mk H
              clear H
              go_wp2
              go_meet
              case rel => exact ⟨_, (false), (by first | rfl | (simp; done) | (simp [*]; done)), H', ⟨by have := HJ5.out; first | omega | exact Nat.le_refl _⟩, ⟨by (with_reducible repeat (first | refine blk_drewN ?_ _ | refine blk_drew ?_ | refine blk_alloc ?_ _)); exact BK243.out⟩, ⟨by (with_reducible repeat (first | refine blk_drewN ?_ _ | refine blk_drew ?_ | refine blk_alloc ?_ _)); exact BK248.out⟩, ⟨by (with_reducible repeat (first | refine blk_drewN ?_ _ | refine blk_drew ?_ | refine blk_alloc ?_ _)); exact BK254.out⟩, ⟨by (with_reducible repeat (first | refine blk_drewN ?_ _ | refine blk_drew ?_ | refine blk_alloc ?_ _)); exact BK259.out⟩, ⟨by repeat (first | (with_reducible first | exact HB.out | apply below_alloc | apply pw_below_drewN | apply below_drew1 | refine below_set ?_ GE243.out | refine below_set ?_ GE248.out | refine below_set ?_ GE254.out | refine below_set ?_ GE259.out) | exact HB.out)⟩⟩
            · replace c120 := Bool.eq_false_iff.mpr c120
              subst c120
              have H1 : ((api_Code.f t247).bind fun t264 => (shutterlaw05_AttrGets.j1 kj5 a0 (t264 != 3))) = some r := by rw [if_neg (show ¬ (false = true) by decide)] at H; exact H
              clear H
              have H := H1
              clear H1
              replace H := Option.bind_eq_some_iff.mp H
              obtain ⟨t264, A1210, H⟩ := H
              replace H : (shutterlaw05_AttrGets.j1 kj5 a0 (t264 != 3)) = some r := H
              have A121 := Aside0.mk A1210
              clear A1210
              have H' := Aside0.mk H
              clear H
              have CA121 := fun (W : World) (hGlW : Aside0 (Code.Gl W)) => api_Code.calls t247 t264 W hGlW A121.out
              try simp only [errW_none, errW_some] at CA121
              go_wp2_with (first | (go_at_call 11; (with_reducible refine (CA121 _ (by exact Aside0.mk (Code.Gl.below hGl.out (by repeat (first | (with_reducible first | exact HB.out | apply below_alloc | apply pw_below_drewN | apply below_drew1 | refine below_set ?_ (Aside0.out (by assumption))) | exact HB.out)) (Code.Gl.lt hGl.out)))).mono ?_); rintro e w122 ⟨rfl, hb⟩; have n0_ := Aside0.mk (blk_below (g := gb243) (o := .cells #[.bool t238, .bool t239, .int .i64 t240, .bool t241] 37 (0, 0)) (by (with_reducible repeat (first | refine blk_drewN ?_ _ | refine blk_drew ?_ | refine blk_alloc ?_ _)); exact BK243.out) hb); have n1_ := Aside0.mk (blk_below (g := gb248) (o := .cells #[.bool t244, .bool t245, .bool t246] 39 (0, 0)) (by (with_reducible repeat (first | refine blk_drewN ?_ _ | refine blk_drew ?_ | refine blk_alloc ?_ _)); exact BK248.out) hb); have n2_ := Aside0.mk (blk_below (g := gb254) (o := .cells #[.bool t249, .bool t250, .int .i64 t251, .bool t252] 37 (0, 0)) (by (with_reducible repeat (first | refine blk_drewN ?_ _ | refine blk_drew ?_ | refine blk_alloc ?_ _)); exact BK254.out) hb); have n3_ := Aside0.mk (blk_below (g := gb259) (o := .cells #[.bool t255, .bool t256, .bool t257] 39 (0, 0)) (by (with_reducible repeat (first | refine blk_drewN ?_ _ | refine blk_drew ?_ | refine blk_alloc ?_ _)); exact BK259.out) hb); have n4_ := Aside0.mk (below_step (by repeat (first | (with_reducible first | exact HB.out | apply below_alloc | apply pw_below_drewN | apply below_drew1 | refine below_set ?_ GE243.out | refine below_set ?_ GE248.out | refine below_set ?_ GE254.out | refine below_set ?_ GE259.out) | exact HB.out)) hb); clear BK243; clear BK248; clear BK254; clear BK259; clear HB; have BK243 := n0_; have BK248 := n1_; have BK254 := n2_; have BK259 := n3_; have HB := n4_; clear n0_ n1_ n2_ n3_ n4_; (try clear hb); (try clear hb2); (try clear hk); (try clear hi)))
              go_meet
              case rel => exact ⟨_, ((t264 != 3)), (by first | rfl | (simp; done) | (simp [*]; done)), H', ⟨by have := HJ5.out; first | omega | exact Nat.le_refl _⟩, ⟨by (with_reducible repeat (first | refine blk_drewN ?_ _ | refine blk_drew ?_ | refine blk_alloc ?_ _)); exact BK243.out⟩, ⟨by (with_reducible repeat (first | refine blk_drewN ?_ _ | refine blk_drew ?_ | refine blk_alloc ?_ _)); exact BK248.out⟩, ⟨by (with_reducible repeat (first | refine blk_drewN ?_ _ | refine blk_drew ?_ | refine blk_alloc ?_ _)); exact BK254.out⟩, ⟨by (with_reducible repeat (first | refine blk_drewN ?_ _ | refine blk_drew ?_ | refine blk_alloc ?_ _)); exact BK259.out⟩, ⟨by repeat (first | (with_reducible first | exact HB.out | apply below_alloc | apply pw_below_drewN | apply below_drew1 | refine below_set ?_ GE243.out | refine below_set ?_ GE248.out | refine below_set ?_ GE254.out | refine below_set ?_ GE259.out) | exact HB.out)⟩⟩
          · replace c119 := Bool.eq_false_iff.mpr c119
            subst c119
            have H1 : ((api_Code.f t242).bind fun t265 => (if t265 = 3 then (if t258 = true then (shutterlaw05_AttrGets.j1 kj5 a0 false) else ((api_Code.f t247).bind fun t266 => (shutterlaw05_AttrGets.j1 kj5 a0 (t266 != 3)))) else (shutterlaw05_AttrGets.j1 kj5 a0 true))) = some r := by rw [if_neg (show ¬ (false = true) by decide)] at H; exact H
            clear H
            have H := H1
            clear H1
            replace H := Option.bind_eq_some_iff.mp H
            obtain ⟨t265, A1230, H⟩ := H
            replace H : (if t265 = 3 then (if t258 = true then (shutterlaw05_AttrGets.j1 kj5 a0 false) else ((api_Code.f t247).bind fun t266 => (shutterlaw05_AttrGets.j1 kj5 a0 (t266 != 3)))) else (shutterlaw05_AttrGets.j1 kj5 a0 true)) = some r := H
            have A123 := Aside0.mk A1230
            clear A1230
            by_cases c124 : t265 = 3
            · rw [if_pos c124] at H
              have c124b0 : (t265 == 3) = true := beq_iff_eq.mpr c124
              have c124b1 : (t265 != 3) = false := bne_eq_false_iff_eq.mpr c124
              clear c124
              (first | rw [c124b0] | (simp only [i64_w, i32_w]; rw [c124b0]) | skip)
              by_cases c125 : t258 = true
              · subst c125
                have H1 : (shutterlaw05_AttrGets.j1 kj5 a0 false) = some r := by rw [if_pos rfl] at H; exact H
                clear H
                have H := H1
                clear H1
                have H' := Aside0.mk H
                clear H
                have CA123 := fun (W : World) (hGlW : Aside0 (Code.Gl W)) => api_Code.calls t242 t265 W hGlW A123.out
                try simp only [errW_none, errW_some] at CA123
                go_wp2_with (first | (go_at_call 11; (with_reducible refine (CA123 _ (by exact Aside0.mk (Code.Gl.below hGl.out (by repeat (first | (with_reducible first | exact HB.out | apply below_alloc | apply pw_below_drewN | apply below_drew1 | refine below_set ?_ (Aside0.out (by assumption))) | exact HB.out)) (Code.Gl.lt hGl.out)))).mono ?_); rintro e w126 ⟨rfl, hb⟩; have n0_ := Aside0.mk (blk_below (g := gb243) (o := .cells #[.bool t238, .bool t239, .int .i64 t240, .bool t241] 37 (0, 0)) (by (with_reducible repeat (first | refine blk_drewN ?_ _ | refine blk_drew ?_ | refine blk_alloc ?_ _)); exact BK243.out) hb); have n1_ := Aside0.mk (blk_below (g := gb248) (o := .cells #[.bool t244, .bool t245, .bool t246] 39 (0, 0)) (by (with_reducible repeat (first | refine blk_drewN ?_ _ | refine blk_drew ?_ | refine blk_alloc ?_ _)); exact BK248.out) hb); have n2_ := Aside0.mk (blk_below (g := gb254) (o := .cells #[.bool t249, .bool t250, .int .i64 t251, .bool t252] 37 (0, 0)) (by (with_reducible repeat (first | refine blk_drewN ?_ _ | refine blk_drew ?_ | refine blk_alloc ?_ _)); exact BK254.out) hb); have n3_ := Aside0.mk (blk_below (g := gb259) (o := .cells #[.bool t255, .bool t256, .bool t257] 39 (0, 0)) (by (with_reducible repeat (first | refine blk_drewN ?_ _ | refine blk_drew ?_ | refine blk_alloc ?_ _)); exact BK259.out) hb); have n4_ := Aside0.mk (below_step (by repeat (first | (with_reducible first | exact HB.out | apply below_alloc | apply pw_below_drewN | apply below_drew1 | refine below_set ?_ GE243.out | refine below_set ?_ GE248.out | refine below_set ?_ GE254.out | refine below_set ?_ GE259.out) | exact HB.out)) hb); clear BK243; clear BK248; clear BK254; clear BK259; clear HB; have BK243 := n0_; have BK248 := n1_; have BK254 := n2_; have BK259 := n3_; have HB := n4_; clear n0_ n1_ n2_ n3_ n4_; (try clear hb); (try clear hb2); (try clear hk); (try clear hi)))
                go_meet
                case rel => exact ⟨_, (false), (by first | rfl | (simp; done) | (simp [*]; done)), H', ⟨by have := HJ5.out; first | omega | exact Nat.le_refl _⟩, ⟨by (with_reducible repeat (first | refine blk_drewN ?_ _ | refine blk_drew ?_ | refine blk_alloc ?_ _)); exact BK243.out⟩, ⟨by (with_reducible repeat (first | refine blk_drewN ?_ _ | refine blk_drew ?_ | refine blk_alloc ?_ _)); exact BK248.out⟩, ⟨by (with_reducible repeat (first | refine blk_drewN ?_ _ | refine blk_drew ?_ | refine blk_alloc ?_ _)); exact BK254.out⟩, ⟨by (with_reducible repeat (first | refine blk_drewN ?_ _ | refine blk_drew ?_ | refine blk_alloc ?_ _)); exact BK259.out⟩, ⟨by repeat (first | (with_reducible first | exact HB.out | apply below_alloc | apply pw_below_drewN | apply below_drew1 | refine below_set ?_ GE243.out | refine below_set ?_ GE248.out | refine below_set ?_ GE254.out | refine below_set ?_ GE259.out) | exact HB.out)⟩⟩
              · replace c125 := Bool.eq_false_iff.mpr c125
                subst c125
                have H1 : ((api_Code.f t247).bind fun t266 => (shutterlaw05_AttrGets.j1 kj5 a0 (t266 != 3))) = some r := by rw [if_neg (show ¬ (false = true) by decide)] at H; exact H
                clear H
                have H := H1
                clear H1
                replace H := Option.bind_eq_some_iff.mp H
                obtain ⟨t266, A1270, H⟩ := H
                replace H : (shutterlaw05_AttrGets.j1 kj5 a0 (t266 != 3)) = some r := H
                have A127 := Aside0.mk A1270
                clear A1270
                have H' := Aside0.mk H
                clear H
                have CA123 := fun (W : World) (hGlW : Aside0 (Code.Gl W)) => api_Code.calls t242 t265 W hGlW A123.out
                try simp only [errW_none, errW_some] at CA123
                go_wp2_with (first | (go_at_call 11; (with_reducible refine (CA123 _ (by exact Aside0.mk (Code.Gl.below hGl.out (by repeat (first | (with_reducible first | exact HB.out | apply below_alloc | apply pw_below_drewN | apply below_drew1 | refine below_set ?_ (Aside0.out (by assumption))) | exact HB.out)) (Code.Gl.lt hGl.out)))).mono ?_); rintro e w128 ⟨rfl, hb⟩; have n0_ := Aside0.mk (blk_below (g := gb243) (o := .cells #[.bool t238, .bool t239, .int .i64 t240, .bool t241] 37 (0, 0)) (by (with_reducible repeat (first | refine blk_drewN ?_ _ | refine blk_drew ?_ | refine blk_alloc ?_ _)); exact BK243.out) hb); have n1_ := Aside0.mk (blk_below (g := gb248) (o := .cells #[.bool t244, .bool t245, .bool t246] 39 (0, 0)) (by (with_reducible repeat (first | refine blk_drewN ?_ _ | refine blk_drew ?_ | refine blk_alloc ?_ _)); exact BK248.out) hb); have n2_ := Aside0.mk (blk_below (g := gb254) (o := .cells #[.bool t249, .bool t250, .int .i64 t251, .bool t252] 37 (0, 0)) (by (with_reducible repeat (first | refine blk_drewN ?_ _ | refine blk_drew ?_ | refine blk_alloc ?_ _)); exact BK254.out) hb); have n3_ := Aside0.mk (blk_below (g := gb259) (o := .cells #[.bool t255, .bool t256, .bool t257] 39 (0, 0)) (by (with_reducible repeat (first | refine blk_drewN ?_ _ | refine blk_drew ?_ | refine blk_alloc ?_ _)); exact BK259.out) hb); have n4_ := Aside0.mk (below_step (by repeat (first | (with_reducible first | exact HB.out | apply below_alloc | apply pw_below_drewN | apply below_drew1 | refine below_set ?_ GE243.out | refine below_set ?_ GE248.out | refine below_set ?_ GE254.out | refine below_set ?_ GE259.out) | exact HB.out)) hb); clear BK243; clear BK248; clear BK254; clear BK259; clear HB; have BK243 := n0_; have BK248 := n1_; have BK254 := n2_; have BK259 := n3_; have HB := n4_; clear n0_ n1_ n2_ n3_ n4_; (try clear hb); (try clear hb2); (try clear hk); (try clear hi); have CA127 := fun (W : World) (hGlW : Aside0 (Code.Gl W)) => api_Code.calls t247 t266 W hGlW A127.out; try simp only [errW_none, errW_some] at CA127) | (go_at_call 11; (with_reducible refine (CA127 _ (by exact Aside0.mk (Code.Gl.below hGl.out (by repeat (first | (with_reducible first | exact HB.out | apply below_alloc | apply pw_below_drewN | apply below_drew1 | refine below_set ?_ (Aside0.out (by assumption))) | exact HB.out)) (Code.Gl.lt hGl.out)))).mono ?_); rintro e w129 ⟨rfl, hb⟩; have n0_ := Aside0.mk (blk_below (g := gb243) (o := .cells #[.bool t238, .bool t239, .int .i64 t240, .bool t241] 37 (0, 0)) (by (with_reducible repeat (first | refine blk_drewN ?_ _ | refine blk_drew ?_ | refine blk_alloc ?_ _)); exact BK243.out) hb); have n1_ := Aside0.mk (blk_below (g := gb248) (o := .cells #[.bool t244, .bool t245, .bool t246] 39 (0, 0)) (by (with_reducible repeat (first | refine blk_drewN ?_ _ | refine blk_drew ?_ | refine blk_alloc ?_ _)); exact BK248.out) hb); have n2_ := Aside0.mk (blk_below (g := gb254) (o := .cells #[.bool t249, .bool t250, .int .i64 t251, .bool t252] 37 (0, 0)) (by (with_reducible repeat (first | refine blk_drewN ?_ _ | refine blk_drew ?_ | refine blk_alloc ?_ _)); exact BK254.out) hb); have n3_ := Aside0.mk (blk_below (g := gb259) (o := .cells #[.bool t255, .bool t256, .bool t257] 39 (0, 0)) (by (with_reducible repeat (first | refine blk_drewN ?_ _ | refine blk_drew ?_ | refine blk_alloc ?_ _)); exact BK259.out) hb); have n4_ := Aside0.mk (below_step (by repeat (first | (with_reducible first | exact HB.out | apply below_alloc | apply pw_below_drewN | apply below_drew1 | refine below_set ?_ GE243.out | refine below_set ?_ GE248.out | refine below_set ?_ GE254.out | refine below_set ?_ GE259.out) | exact HB.out)) hb); clear BK243; clear BK248; clear BK254; clear BK259; clear HB; have BK243 := n0_; have BK248 := n1_; have BK254 := n2_; have BK259 := n3_; have HB := n4_; clear n0_ n1_ n2_ n3_ n4_; (try clear hb); (try clear hb2); (try clear hk); (try clear hi)))
                go_meet
                case rel => exact ⟨_, ((t266 != 3)), (by first | rfl | (simp; done) | (simp [*]; done)), H', ⟨by have := HJ5.out; first | omega | exact Nat.le_refl _⟩, ⟨by (with_reducible repeat (first | refine blk_drewN ?_ _ | refine blk_drew ?_ | refine blk_alloc ?_ _)); exact BK243.out⟩, ⟨by (with_reducible repeat (first | refine blk_drewN ?_ _ | refine blk_drew ?_ | refine blk_alloc ?_ _)); exact BK248.out⟩, ⟨by (with_reducible repeat (first | refine blk_drewN ?_ _ | refine blk_drew ?_ | refine blk_alloc ?_ _)); exact BK254.out⟩, ⟨by (with_reducible repeat (first | refine blk_drewN ?_ _ | refine blk_drew ?_ | refine blk_alloc ?_ _)); exact BK259.out⟩, ⟨by repeat (first | (with_reducible first | exact HB.out | apply below_alloc | apply pw_below_drewN | apply below_drew1 | refine below_set ?_ GE243.out | refine below_set ?_ GE248.out | refine below_set ?_ GE254.out | refine below_set ?_ GE259.out) | exact HB.out)⟩⟩
            · rw [if_neg c124] at H
              have c124b0 : (t265 == 3) = false := beq_eq_false_iff_ne.mpr c124
              have c124b1 : (t265 != 3) = true := bne_iff_ne.mpr c124
              (first | rw [c124b0] | (simp only [i64_w, i32_w]; rw [c124b0]) | skip)
              have H' := Aside0.mk H
              clear H
              have CA123 := fun (W : World) (hGlW : Aside0 (Code.Gl W)) => api_Code.calls t242 t265 W hGlW A123.out
              try simp only [errW_none, errW_some] at CA123
              go_wp2_with (first | (go_at_call 11; (with_reducible refine (CA123 _ (by exact Aside0.mk (Code.Gl.below hGl.out (by repeat (first | (with_reducible first | exact HB.out | apply below_alloc | apply pw_below_drewN | apply below_drew1 | refine below_set ?_ (Aside0.out (by assumption))) | exact HB.out)) (Code.Gl.lt hGl.out)))).mono ?_); rintro e w130 ⟨rfl, hb⟩; have n0_ := Aside0.mk (blk_below (g := gb243) (o := .cells #[.bool t238, .bool t239, .int .i64 t240, .bool t241] 37 (0, 0)) (by (with_reducible repeat (first | refine blk_drewN ?_ _ | refine blk_drew ?_ | refine blk_alloc ?_ _)); exact BK243.out) hb); have n1_ := Aside0.mk (blk_below (g := gb248) (o := .cells #[.bool t244, .bool t245, .bool t246] 39 (0, 0)) (by (with_reducible repeat (first | refine blk_drewN ?_ _ | refine blk_drew ?_ | refine blk_alloc ?_ _)); exact BK248.out) hb); have n2_ := Aside0.mk (blk_below (g := gb254) (o := .cells #[.bool t249, .bool t250, .int .i64 t251, .bool t252] 37 (0, 0)) (by (with_reducible repeat (first | refine blk_drewN ?_ _ | refine blk_drew ?_ | refine blk_alloc ?_ _)); exact BK254.out) hb); have n3_ := Aside0.mk (blk_below (g := gb259) (o := .cells #[.bool t255, .bool t256, .bool t257] 39 (0, 0)) (by (with_reducible repeat (first | refine blk_drewN ?_ _ | refine blk_drew ?_ | refine blk_alloc ?_ _)); exact BK259.out) hb); have n4_ := Aside0.mk (below_step (by repeat (first | (with_reducible first | exact HB.out | apply below_alloc | apply pw_below_drewN | apply below_drew1 | refine below_set ?_ GE243.out | refine below_set ?_ GE248.out | refine below_set ?_ GE254.out | refine below_set ?_ GE259.out) | exact HB.out)) hb); clear BK243; clear BK248; clear BK254; clear BK259; clear HB; have BK243 := n0_; have BK248 := n1_; have BK254 := n2_; have BK259 := n3_; have HB := n4_; clear n0_ n1_ n2_ n3_ n4_; (try clear hb); (try clear hb2); (try clear hk); (try clear hi)))
              go_meet
              case rel => exact ⟨_, (true), (by first | rfl | (simp; done) | (simp [*]; done)), H', ⟨by have := HJ5.out; first | omega | exact Nat.le_refl _⟩, ⟨by (with_reducible repeat (first | refine blk_drewN ?_ _ | refine blk_drew ?_ | refine blk_alloc ?_ _)); exact BK243.out⟩, ⟨by (with_reducible repeat (first | refine blk_drewN ?_ _ | refine blk_drew ?_ | refine blk_alloc ?_ _)); exact BK248.out⟩, ⟨by (with_reducible repeat (first | refine blk_drewN ?_ _ | refine blk_drew ?_ | refine blk_alloc ?_ _)); exact BK254.out⟩, ⟨by (with_reducible repeat (first | refine blk_drewN ?_ _ | refine blk_drew ?_ | refine blk_alloc ?_ _)); exact BK259.out⟩, ⟨by repeat (first | (with_reducible first | exact HB.out | apply below_alloc | apply pw_below_drewN | apply below_drew1 | refine below_set ?_ GE243.out | refine below_set ?_ GE248.out | refine below_set ?_ GE254.out | refine below_set ?_ GE259.out) | exact HB.out)⟩⟩
        case rest =>
          clear HC118
          try clear c1
          try clear c2
          try clear p2
          try clear q2
          try clear c3
          try clear c4
          try clear c5
          try clear c6
          try clear c7
          try clear c8
          try clear c9
          try clear c10
          try clear c11
          try clear c12
          try clear c16
          try clear c17
          try clear c21
          try clear c22
          try clear c23
          try clear c24
          try clear c26
          try clear q26
          try clear c27
          try clear c27b0
          try clear c29
          try clear c30
          try clear c31
          try clear c33
          try clear c34
          try clear c36
          try clear c36b0
          try clear c38
          try clear c39
          try clear c40
          try clear c42
          try clear c43
          try clear c45
          try clear c48
          try clear c48b0
          try clear c48b1
          try clear c48b2
          try clear c50
          try clear c51
          try clear c52
          try clear c54
          try clear c55
          try clear c57
          try clear c61
          try clear c62
          try clear c63
          try clear c65
          try clear c66
          try clear c68
          try clear c72
          try clear c73
          try clear c74
          try clear c76
          try clear c77
          try clear c79
          try clear c82
          try clear c82b0
          try clear c82b1
          try clear c82b2
          try clear c84
          try clear c85
          try clear c86
          try clear c88
          try clear c89
          try clear c91
          try clear c95
          try clear c96
          try clear c97
          try clear c99
          try clear c100
          try clear c102
          try clear c106
          try clear c107
          try clear c108
          try clear c110
          try clear c111
          try clear c113
          try clear c117
          try clear c119
          try clear c120
          try clear c124
          try clear c124b0
          try clear c124b1
          try clear c125
          try clear hcz101_0
          try clear hcz101_1
          try clear hcz101_2
          try clear hcz101_3
          try clear hcz103_0
          try clear hcz103_1
          try clear hcz103_2
          try clear hcz104_0
          try clear hcz104_1
          try clear hcz104_2
          try clear hcz109_0
          try clear hcz109_1
          try clear hcz109_2
          try clear hcz109_3
          try clear hcz112_0
          try clear hcz112_1
          try clear hcz112_2
          try clear hcz112_3
          try clear hcz114_0
          try clear hcz114_1
          try clear hcz114_2
          try clear hcz115_0
          try clear hcz115_1
          try clear hcz115_2
          try clear hcz13_0
          try clear hcz13_1
          try clear hcz13_2
          try clear hcz18_0
          try clear hcz18_1
          try clear hcz18_2
          try clear hcz18_3
          try clear hcz24_0
          try clear hcz24_1
          try clear hcz24_2
          try clear hcz32_0
          try clear hcz32_1
          try clear hcz32_2
          try clear hcz32_3
          try clear hcz35_0
          try clear hcz35_1
          try clear hcz35_2
          try clear hcz35_3
          try clear hcz41_0
          try clear hcz41_1
          try clear hcz41_2
          try clear hcz41_3
          try clear hcz44_0
          try clear hcz44_1
          try clear hcz44_2
          try clear hcz44_3
          try clear hcz46_0
          try clear hcz46_1
          try clear hcz46_2
          try clear hcz47_0
          try clear hcz47_1
          try clear hcz47_2
          try clear hcz53_0
          try clear hcz53_1
          try clear hcz53_2
          try clear hcz53_3
          try clear hcz56_0
          try clear hcz56_1
          try clear hcz56_2
          try clear hcz56_3
          try clear hcz58_0
          try clear hcz58_1
          try clear hcz58_2
          try clear hcz59_0
          try clear hcz59_1
          try clear hcz59_2
          try clear hcz64_0
          try clear hcz64_1
          try clear hcz64_2
          try clear hcz64_3
          try clear hcz67_0
          try clear hcz67_1
          try clear hcz67_2
          try clear hcz67_3
          try clear hcz69_0
          try clear hcz69_1
          try clear hcz69_2
          try clear hcz70_0
          try clear hcz70_1
          try clear hcz70_2
          try clear hcz75_0
          try clear hcz75_1
          try clear hcz75_2
          try clear hcz75_3
          try clear hcz78_0
          try clear hcz78_1
          try clear hcz78_2
          try clear hcz78_3
          try clear hcz80_0
          try clear hcz80_1
          try clear hcz80_2
          try clear hcz81_0
          try clear hcz81_1
          try clear hcz81_2
          try clear hcz87_0
          try clear hcz87_1
          try clear hcz87_2
          try clear hcz87_3
          try clear hcz90_0
          try clear hcz90_1
          try clear hcz90_2
          try clear hcz90_3
          try clear hcz92_0
          try clear hcz92_1
          try clear hcz92_2
          try clear hcz93_0
          try clear hcz93_1
          try clear hcz93_2
          try clear hcz98_0
          try clear hcz98_1
          try clear hcz98_2
          try clear hcz98_3
          try clear hcz9_0
          try clear hcz9_1
          try clear hcz9_2
          try clear hcz9_3
          try clear hfz101_0
          try clear hfz101_1
          try clear hfz101_2
          try clear hfz101_3
          try clear hfz103_0
          try clear hfz103_1
          try clear hfz103_2
          try clear hfz104_0
          try clear hfz104_1
          try clear hfz104_2
          try clear hfz109_0
          try clear hfz109_1
          try clear hfz109_2
          try clear hfz109_3
          try clear hfz112_0
          try clear hfz112_1
          try clear hfz112_2
          try clear hfz112_3
          try clear hfz114_0
          try clear hfz114_1
          try clear hfz114_2
          try clear hfz115_0
          try clear hfz115_1
          try clear hfz115_2
          try clear hfz13_0
          try clear hfz13_1
          try clear hfz13_2
          try clear hfz18_0
          try clear hfz18_1
          try clear hfz18_2
          try clear hfz18_3
          try clear hfz24_0
          try clear hfz24_1
          try clear hfz24_2
          try clear hfz32_0
          try clear hfz32_1
          try clear hfz32_2
          try clear hfz32_3
          try clear hfz35_0
          try clear hfz35_1
          try clear hfz35_2
          try clear hfz35_3
          try clear hfz41_0
          try clear hfz41_1
          try clear hfz41_2
          try clear hfz41_3
          try clear hfz44_0
          try clear hfz44_1
          try clear hfz44_2
          try clear hfz44_3
          try clear hfz46_0
          try clear hfz46_1
          try clear hfz46_2
          try clear hfz47_0
          try clear hfz47_1
          try clear hfz47_2
          try clear hfz53_0
          try clear hfz53_1
          try clear hfz53_2
          try clear hfz53_3
          try clear hfz56_0
          try clear hfz56_1
          try clear hfz56_2
          try clear hfz56_3
          try clear hfz58_0
          try clear hfz58_1
          try clear hfz58_2
          try clear hfz59_0
          try clear hfz59_1
          try clear hfz59_2
          try clear hfz64_0
          try clear hfz64_1
          try clear hfz64_2
          try clear hfz64_3
          try clear hfz67_0
          try clear hfz67_1
          try clear hfz67_2
          try clear hfz67_3
          try clear hfz69_0
          try clear hfz69_1
          try clear hfz69_2
          try clear hfz70_0
          try clear hfz70_1
          try clear hfz70_2
          try clear hfz75_0
          try clear hfz75_1
          try clear hfz75_2
          try clear hfz75_3
          try clear hfz78_0
          try clear hfz78_1
          try clear hfz78_2
          try clear hfz78_3
          try clear hfz80_0
          try clear hfz80_1
          try clear hfz80_2
          try clear hfz81_0
          try clear hfz81_1
          try clear hfz81_2
          try clear hfz87_0
          try clear hfz87_1
          try clear hfz87_2
          try clear hfz87_3
          try clear hfz90_0
          try clear hfz90_1
          try clear hfz90_2
          try clear hfz90_3
          try clear hfz92_0
          try clear hfz92_1
          try clear hfz92_2
          try clear hfz93_0
          try clear hfz93_1
          try clear hfz93_2
          try clear hfz98_0
          try clear hfz98_1
          try clear hfz98_2
          try clear hfz98_3
          try clear hfz9_0
          try clear hfz9_1
          try clear hfz9_2
          try clear hfz9_3
          try clear p2
          try clear q2
          try clear q26
          try clear q261
          try clear q262
          try clear q263
          obtain ⟨kq, x70_117, rfl, HA, HJ117, BK243, BK248, BK254, BK259, HB⟩ := hcut
          cases kq with
          | zero => exact absurd HA.out (by simp [shutterlaw05_AttrGets.j1])
          | succ kj117 =>
            have H := HA.out
            clear HA
            simp only [shutterlaw05_AttrGets.j1] at H
            by_cases c131 : x70_117 = true
            · subst c131
              have H1 : (some false) = some r := by rw [if_pos rfl] at H; exact H
              clear H
              have H := H1
              clear H1
              obtain rfl := Option.some.inj H
              go_wp2
              go_ret
              exact ⟨by first | rfl | (simp [errW_none, errW_some] <;> rfl) | (simp [*, errW_none, errW_some] <;> rfl), by repeat (first | (with_reducible first | exact HB.out | apply below_alloc | apply pw_below_drewN | apply below_drew1 | refine below_set ?_ GE243.out | refine below_set ?_ GE248.out | refine below_set ?_ GE254.out | refine below_set ?_ GE259.out) | exact HB.out)⟩
            · replace c131 := Bool.eq_false_iff.mpr c131
              subst c131
              have H1 : ((attr_Char.f a0).bind fun t267 => ((shutterref05_Char.f a0).bind fun t268 => (if (t267 == t268) = true then ((attr_Aid.f kj117 a0).bind fun t269 => ((shutterref05_Aid.f a0).bind fun t270 => (if (t269 == t270) = true then ((attr_Bare.f kj117 a0).bind fun t271 => ((shutterref05_Bare.f a0).bind fun t272 => (some (t271 == t272)))) else (some false)))) else (some false)))) = some r := by rw [if_neg (show ¬ (false = true) by decide)] at H; exact H
              clear H
              have H := H1
              clear H1
              replace H := Option.bind_eq_some_iff.mp H
              obtain ⟨t267, A1320, H⟩ := H
              replace H : ((shutterref05_Char.f a0).bind fun t268 => (if (t267 == t268) = true then ((attr_Aid.f kj117 a0).bind fun t269 => ((shutterref05_Aid.f a0).bind fun t270 => (if (t269 == t270) = true then ((attr_Bare.f kj117 a0).bind fun t271 => ((shutterref05_Bare.f a0).bind fun t272 => (some (t271 == t272)))) else (some false)))) else (some false))) = some r := H
              have A132 := Aside0.mk A1320
              clear A1320
              replace H := Option.bind_eq_some_iff.mp H
              obtain ⟨t268, A1330, H⟩ := H
              replace H : (if (t267 == t268) = true then ((attr_Aid.f kj117 a0).bind fun t269 => ((shutterref05_Aid.f a0).bind fun t270 => (if (t269 == t270) = true then ((attr_Bare.f kj117 a0).bind fun t271 => ((shutterref05_Bare.f a0).bind fun t272 => (some (t271 == t272)))) else (some false)))) else (some false)) = some r := H
              have A133 := Aside0.mk A1330
              clear A1330
              by_cases c134 : (t267 == t268) = true
              · rw [if_pos c134] at H
                have c134b0 : (t267 == t268) = true := c134
                (try (have c134b1 : decide (t267 = t268) = true := by simpa using c134))
                (try (have c134b2 : (t267 == t268) = true := by simpa using c134))
                clear c134
                replace H := Option.bind_eq_some_iff.mp H
                obtain ⟨t269, A1350, H⟩ := H
                replace H : ((shutterref05_Aid.f a0).bind fun t270 => (if (t269 == t270) = true then ((attr_Bare.f kj117 a0).bind fun t271 => ((shutterref05_Bare.f a0).bind fun t272 => (some (t271 == t272)))) else (some false))) = some r := H
                have A135 := Aside0.mk A1350
                clear A1350
                replace H := Option.bind_eq_some_iff.mp H
                obtain ⟨t270, A1360, H⟩ := H
                replace H : (if (t269 == t270) = true then ((attr_Bare.f kj117 a0).bind fun t271 => ((shutterref05_Bare.f a0).bind fun t272 => (some (t271 == t272)))) else (some false)) = some r := H
                have A136 := Aside0.mk A1360
                clear A1360
                by_cases c137 : (t269 == t270) = true
                · rw [if_pos c137] at H
                  have c137b0 : (t269 == t270) = true := c137
                  (try (have c137b1 : decide (t269 = t270) = true := by simpa using c137))
                  (try (have c137b2 : (t269 == t270) = true := by simpa using c137))
                  clear c137
                  replace H := Option.bind_eq_some_iff.mp H
                  obtain ⟨t271, A1380, H⟩ := H
                  replace H : ((shutterref05_Bare.f a0).bind fun t272 => (some (t271 == t272))) = some r := H
                  have A138 := Aside0.mk A1380
                  clear A1380
                  replace H := Option.bind_eq_some_iff.mp H
                  obtain ⟨t272, A1390, H⟩ := H
                  replace H : (some (t271 == t272)) = some r := H
                  have A139 := Aside0.mk A1390
                  clear A1390
                  obtain rfl := Option.some.inj H
                  go_wp2_with (first | ((with_reducible refine gate_callee (f := 25) rfl ?_); refine goesL_ (some 72) rfl rfl Tryd.func25 (by kernel_rfl) rfl #[.int .u8 a0] rfl (by (try simp only [List.map_toArray, List.map_cons, List.map_nil]); first | done | rfl | (simp only [List.length_drop, List.length_take]; rfl)) ?_; (with_reducible refine (attr_Char.calls a0 t267 _ A132.out).mono ?_); rintro e w' ⟨rfl, ⟨nd, rfl⟩⟩; refine ⟨_, rfl, ?_⟩) | ((with_reducible refine gate_callee (f := 26) rfl ?_); refine goesL_ (some 74) rfl rfl Tryd.func26 (by kernel_rfl) rfl #[.int .u8 a0] rfl (by (try simp only [List.map_toArray, List.map_cons, List.map_nil]); first | done | rfl | (simp only [List.length_drop, List.length_take]; rfl)) ?_; (with_reducible refine (shutterref05_Char.calls a0 t268 _ A133.out).mono ?_); rintro e w' ⟨rfl, ⟨nd, rfl⟩⟩; refine ⟨_, rfl, ?_⟩) | (go_at_call 27; (with_reducible refine (attr_Aid.calls kj117 a0 t269 _ A135.out).mono ?_); rintro e w' ⟨rfl, ⟨nd, rfl⟩⟩) | (go_at_call 28; (with_reducible refine (shutterref05_Aid.calls a0 t270 _ A136.out).mono ?_); rintro e w' ⟨rfl, ⟨nd, rfl⟩⟩) | (go_at_call 29; (with_reducible refine (attr_Bare.calls kj117 a0 t271 _ A138.out).mono ?_); rintro e w' ⟨rfl, ⟨nd, rfl⟩⟩) | (go_at_call 30; (with_reducible refine (shutterref05_Bare.calls a0 t272 _ A139.out).mono ?_); rintro e w' ⟨rfl, ⟨nd, rfl⟩⟩))
                  go_ret
                  exact ⟨by first | rfl | (simp [errW_none, errW_some] <;> rfl) | (simp [*, errW_none, errW_some] <;> rfl), by repeat (first | (with_reducible first | exact HB.out | apply below_alloc | apply pw_below_drewN | apply below_drew1 | refine below_set ?_ GE243.out | refine below_set ?_ GE248.out | refine below_set ?_ GE254.out | refine below_set ?_ GE259.out) | exact HB.out)⟩
                · rw [if_neg c137] at H
                  have c137b0 : (t269 == t270) = false := by simpa using c137
                  (try (have c137b1 : decide (t269 = t270) = false := by simpa using c137))
                  (try (have c137b2 : (t269 == t270) = false := by simpa using c137))
                  (try (have c137b3 : ¬ (t269 = t270) := by simpa using c137))
                  clear c137
                  obtain rfl := Option.some.inj H
                  go_wp2_with (first | ((with_reducible refine gate_callee (f := 25) rfl ?_); refine goesL_ (some 72) rfl rfl Tryd.func25 (by kernel_rfl) rfl #[.int .u8 a0] rfl (by (try simp only [List.map_toArray, List.map_cons, List.map_nil]); first | done | rfl | (simp only [List.length_drop, List.length_take]; rfl)) ?_; (with_reducible refine (attr_Char.calls a0 t267 _ A132.out).mono ?_); rintro e w' ⟨rfl, ⟨nd, rfl⟩⟩; refine ⟨_, rfl, ?_⟩) | ((with_reducible refine gate_callee (f := 26) rfl ?_); refine goesL_ (some 74) rfl rfl Tryd.func26 (by kernel_rfl) rfl #[.int .u8 a0] rfl (by (try simp only [List.map_toArray, List.map_cons, List.map_nil]); first | done | rfl | (simp only [List.length_drop, List.length_take]; rfl)) ?_; (with_reducible refine (shutterref05_Char.calls a0 t268 _ A133.out).mono ?_); rintro e w' ⟨rfl, ⟨nd, rfl⟩⟩; refine ⟨_, rfl, ?_⟩) | (go_at_call 27; (with_reducible refine (attr_Aid.calls kj117 a0 t269 _ A135.out).mono ?_); rintro e w' ⟨rfl, ⟨nd, rfl⟩⟩) | (go_at_call 28; (with_reducible refine (shutterref05_Aid.calls a0 t270 _ A136.out).mono ?_); rintro e w' ⟨rfl, ⟨nd, rfl⟩⟩))
                  go_ret
                  exact ⟨by first | rfl | (simp [errW_none, errW_some] <;> rfl) | (simp [*, errW_none, errW_some] <;> rfl), by repeat (first | (with_reducible first | exact HB.out | apply below_alloc | apply pw_below_drewN | apply below_drew1 | refine below_set ?_ GE243.out | refine below_set ?_ GE248.out | refine below_set ?_ GE254.out | refine below_set ?_ GE259.out) | exact HB.out)⟩
              · rw [if_neg c134] at H
                have c134b0 : (t267 == t268) = false := by simpa using c134
                (try (have c134b1 : decide (t267 = t268) = false := by simpa using c134))
                (try (have c134b2 : (t267 == t268) = false := by simpa using c134))
                (try (have c134b3 : ¬ (t267 = t268) := by simpa using c134))
                clear c134
                obtain rfl := Option.some.inj H
                go_wp2_with (first | ((with_reducible refine gate_callee (f := 25) rfl ?_); refine goesL_ (some 72) rfl rfl Tryd.func25 (by kernel_rfl) rfl #[.int .u8 a0] rfl (by (try simp only [List.map_toArray, List.map_cons, List.map_nil]); first | done | rfl | (simp only [List.length_drop, List.length_take]; rfl)) ?_; (with_reducible refine (attr_Char.calls a0 t267 _ A132.out).mono ?_); rintro e w' ⟨rfl, ⟨nd, rfl⟩⟩; refine ⟨_, rfl, ?_⟩) | ((with_reducible refine gate_callee (f := 26) rfl ?_); refine goesL_ (some 74) rfl rfl Tryd.func26 (by kernel_rfl) rfl #[.int .u8 a0] rfl (by (try simp only [List.map_toArray, List.map_cons, List.map_nil]); first | done | rfl | (simp only [List.length_drop, List.length_take]; rfl)) ?_; (with_reducible refine (shutterref05_Char.calls a0 t268 _ A133.out).mono ?_); rintro e w' ⟨rfl, ⟨nd, rfl⟩⟩; refine ⟨_, rfl, ?_⟩))
                go_ret
                exact ⟨by first | rfl | (simp [errW_none, errW_some] <;> rfl) | (simp [*, errW_none, errW_some] <;> rfl), by repeat (first | (with_reducible first | exact HB.out | apply below_alloc | apply pw_below_drewN | apply below_drew1 | refine below_set ?_ GE243.out | refine below_set ?_ GE248.out | refine below_set ?_ GE254.out | refine below_set ?_ GE259.out) | exact HB.out)⟩

/-- THE ONE PURE STATEMENT of shutterlaw05_AttrGets: yours. -/
def shutterlaw05_AttrGets.Pure : Prop := ∀ (a0 : Int), (Lit.int .u8 a0).wf = true → ∃ k, shutterlaw05_AttrGets.f k a0 = some true
theorem shutterlaw05_AttrGets.walk (P : shutterlaw05_AttrGets.Pure) (a0 : Int) (w : World) (hGl : Aside0 (Code.Gl w)) (w0 : (Lit.int .u8 a0).wf = true) :
    Calls Tryd.prog 8 #[.int .u8 a0] w fun e w' => e = .returned (.bool true) ∧ Below w.heap.size w w' := by
  obtain ⟨k, h⟩ := P a0 w0
  refine (shutterlaw05_AttrGets.calls k a0 true w hGl ⟨rfl⟩ h).mono ?_
  rintro e w' ⟨rfl, hd⟩
  exact ⟨rfl, hd⟩

end Go.Proofs.YtphdefenonncaaaDoor.YSix

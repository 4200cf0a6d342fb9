/- Proved: the given row of the law AttrSix holds: what an attribute's byte says lies in its six lowest bits; conditions: none. -/
import Derived.Test.YtphdefenonncaaaLift
import Derived.Test.YtphdefenonncaaaPurAttrSix
namespace Go.Proofs.Ytphdefenonncaaa.attrSix
open Go.ChangeShapes Go.WideShapes Go.ChangeAt Go.RowKit Go.Joins
set_option linter.unusedVariables false
theorem own : ownKnob Try.prog.godebug = none := by kernel_rfl
theorem laidOut : laidOutB Try.prog = true := by kernel_rfl
theorem cells25 : Try.prog.cellsOf 25 = 4 := by kernel_rfl
set_option maxRecDepth 100000 in
theorem lifted (os : Os) (started : os.Started) (H : Type) (enc : TypeId × Value → H) :
    ReturnsInHanded {} Try.checked os 4 .any (Rows.attrSixSpec.pre6 enc Try.prog Try.f4 Rows.attrSixRow.domain false) (Rows.attrSixSpec.post enc Try.prog Try.f4 false true false false) := by
  refine returnsInHanded_of_change_sized (C := Try.checked) own started (by kernel_rfl) Try.func4
    (ChangeSpec.witness6 (enc := enc) (C := Try.checked) false ⟨#[], #[.agg #[.bool false, .bool false, .int .i64 0, .bool false]], []⟩ 8 (by kernel_rfl) (by kernel_rfl) (by kernel_rfl) (by kernel_rfl)) ?_
  intro W base args ds gs before hval0 hW hcnd hsz0 _
  have hval : ∀ (j : Nat) t v, Try.f4.params[j]? = some t → args[j]? = some v → Value.okWide Try.prog W .any base t v := hval0
  have hW' := hW
  have hlt : ∀ x ∈ before, x.block < W.heap.size := fun x hx => hW.lt x hx
  obtain ⟨p, q, hA0, hV, rfl, hfz, hnd⟩ := hW
  have hA : DataW.TrodAll enc Try.prog W 0 (fun _ => true) true Try.f4.params.toList args.toList ds p := hA0
  rw [Try.params4] at hA hval
  have hA1 := hA
  obtain ⟨v0, vs0, d0, ds0, p0, q0, hargs, rfl, rfl, h0, r0⟩ := trodAll_cons hA
  obtain ⟨rfl, rfl, rfl⟩ := trodAll_nil r0
  obtain rfl : args = #[v0] := by cases args; simp_all
  obtain ⟨rfl, rfl⟩ := trodVars_none hV
  obtain ⟨c0, c1, c2, c3, y0, y1, y2, y3, m, rfl, rfl, rfl, hy0, hy1, hy2, hy3⟩ := open_agg4 Try.underlying25 (by kernel_rfl) cells25 (hval 0 25 v0 rfl rfl) h0
  obtain ⟨b0, e0, rfl⟩ := DataW.trod_bool Try.underlying4 hy0
  obtain ⟨b1, e1, rfl⟩ := DataW.trod_bool Try.underlying4 hy1
  obtain ⟨n2, e2, rfl, w2⟩ := DataW.trod_int Try.underlying3 hy2
  obtain ⟨b3, e3, rfl⟩ := DataW.trod_bool Try.underlying4 hy3
  simp only [List.cons.injEq, and_true] at e0 e1 e2 e3
  subst e0 e1 e2 e3
  clear hA0 hval0 hsz0
  refine (QAttrSix.shutterlaw05_AttrSix.calls 20 b0 b1 n2 b3 true W (PurSix.all b0 b1 b3 n2)).mono fun e W' ⟨he, bel⟩ => ?_
  subst he
  exact ⟨_, rfl, _, _, _, [], _, [], hW', trodAll_mk1 (shut_bool Try.underlying4 _), Lift.trodAll_below laidOut bel _ (by kernel_rfl) _ _ _ hA1 (fun x hx => hlt x (List.mem_append.2 (.inl hx))), rfl, bel.frame _, fun h => by cases h⟩
theorem over : Rows.attrSixRow.holds Try.pinned (OpenSpec.ofChange Rows.attrSixSpec) :=
  OpenClaim.holds_of_wide 4 Try.f4 rfl rfl rfl rfl rfl rfl rfl ⟨rfl, rfl, rfl, rfl, rfl⟩ rfl rfl rfl rfl rfl (by kernel_rfl) Try.func4 (by kernel_rfl)
    (of_decide_eq_true (by kernel_rfl)) (by unfold Func.isWrapper; first | (rw [if_pos (by decide +kernel)]; kernel_rfl) | (rw [if_neg (by decide +kernel)]; exact ⟨rfl, rfl⟩))
    (fun os started H enc _ => lifted os started H enc)
end Go.Proofs.Ytphdefenonncaaa.attrSix
namespace Go.Proofs.Ytphdefenonncaaa
theorem attrSix_holds : Rows.AttrSixSaid := attrSix.over
#print axioms attrSix_holds
end Go.Proofs.Ytphdefenonncaaa

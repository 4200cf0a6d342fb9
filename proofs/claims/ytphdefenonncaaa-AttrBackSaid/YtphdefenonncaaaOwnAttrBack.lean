/- Proved: the given row of the law AttrBack holds: what is written is read as it was, what is read is written as it stood; conditions: none. -/
import Derived.Test.YtphdefenonncaaaLift
import Derived.Test.YtphdefenonncaaaPurAttrBack
namespace Go.Proofs.Ytphdefenonncaaa.attrBack
open Go.ChangeShapes Go.WideShapes Go.ChangeAt Go.RowKit Go.Joins
set_option linter.unusedVariables false
theorem own : ownKnob Try.prog.godebug = none := by kernel_rfl
theorem laidOut : laidOutB Try.prog = true := by kernel_rfl
theorem cells25 : Try.prog.cellsOf 25 = 4 := by kernel_rfl
theorem cells32 : Try.prog.cellsOf 32 = 3 := by kernel_rfl
set_option maxRecDepth 100000 in
theorem lifted (os : Os) (started : os.Started) (H : Type) (enc : TypeId × Value → H) :
    ReturnsInHanded {} Try.checked os 5 .any (Rows.attrBackSpec.pre6 enc Try.prog Try.f5 Rows.attrBackRow.domain false) (Rows.attrBackSpec.post enc Try.prog Try.f5 false true false false) := by
  refine returnsInHanded_of_change_sized (C := Try.checked) own started (by kernel_rfl) Try.func5
    (ChangeSpec.witness6 (enc := enc) (C := Try.checked) false ⟨#[], #[.agg #[.bool false, .bool false, .int .i64 0, .bool false], .agg #[.bool false, .bool false, .bool false], .int .u8 0], []⟩ 8 (by kernel_rfl) (by kernel_rfl) (by kernel_rfl) (by kernel_rfl)) ?_
  intro W base args ds gs before hval0 hW hcnd hsz0 _
  have hval : ∀ (j : Nat) t v, Try.f5.params[j]? = some t → args[j]? = some v → Value.okWide Try.prog W .any base t v := hval0
  have hW' := hW
  have hlt : ∀ x ∈ before, x.block < W.heap.size := fun x hx => hW.lt x hx
  obtain ⟨p, q, hA0, hV, rfl, hfz, hnd⟩ := hW
  have hA : DataW.TrodAll enc Try.prog W 0 (fun _ => true) true Try.f5.params.toList args.toList ds p := hA0
  rw [Try.params5] at hA hval
  have hA1 := hA
  obtain ⟨v0, vs0, d0, ds0, p0, q0, hargs, rfl, rfl, h0, r0⟩ := trodAll_cons hA
  obtain ⟨v1, vs1, d1, ds1, p1, q1, rfl, rfl, rfl, h1, r1⟩ := trodAll_cons r0
  obtain ⟨v2, vs2, d2, ds2, p2, q2, rfl, rfl, rfl, h2, r2⟩ := trodAll_cons r1
  obtain ⟨rfl, rfl, rfl⟩ := trodAll_nil r2
  obtain rfl : args = #[v0, v1, v2] := by cases args; simp_all
  obtain ⟨rfl, rfl⟩ := trodVars_none hV
  obtain ⟨c0, c1, c2, c3, y0, y1, y2, y3, m, rfl, rfl, rfl, hy0, hy1, hy2, hy3⟩ := open_agg4 Try.underlying25 (by kernel_rfl) cells25 (hval 0 25 v0 rfl rfl) h0
  obtain ⟨b0, e0, rfl⟩ := DataW.trod_bool Try.underlying4 hy0
  obtain ⟨b1, e1, rfl⟩ := DataW.trod_bool Try.underlying4 hy1
  obtain ⟨n2, e2, rfl, w2⟩ := DataW.trod_int Try.underlying3 hy2
  obtain ⟨b3, e3, rfl⟩ := DataW.trod_bool Try.underlying4 hy3
  simp only [List.cons.injEq, and_true] at e0 e1 e2 e3
  subst e0 e1 e2 e3
  obtain ⟨g0, g1, g2, z0, z1, z2, m1, rfl, rfl, rfl, hz0, hz1, hz2⟩ := open_agg3 Try.underlying32 (by kernel_rfl) cells32 (hval 1 32 v1 rfl rfl) h1
  obtain ⟨x0, f0, rfl⟩ := DataW.trod_bool Try.underlying4 hz0
  obtain ⟨x1, f1, rfl⟩ := DataW.trod_bool Try.underlying4 hz1
  obtain ⟨x2, f2, rfl⟩ := DataW.trod_bool Try.underlying4 hz2
  simp only [List.cons.injEq, and_true] at f0 f1 f2
  subst f0 f1 f2
  obtain ⟨c, rfl, rfl, rfl, wc⟩ := open_int Try.underlying5 (hval 2 5 v2 rfl rfl) h2
  have bc : 0 ≤ c ∧ c ≤ 255 := by simp [Lit.wf, IntKind.min, IntKind.max, IntKind.signed, IntKind.bits] at wc; omega
  clear hA0 hval0 hsz0
  refine (QAttrBack.shutterlaw05_AttrBack.calls 20 b0 b1 n2 b3 x0 x1 x2 c true W (PurBack.all b0 b1 b3 n2 x0 x1 x2 c bc.1 bc.2)).mono fun e W' ⟨he, bel⟩ => ?_
  subst he
  exact ⟨_, rfl, _, _, _, [], _, [], hW', trodAll_mk1 (shut_bool Try.underlying4 _), Lift.trodAll_below laidOut bel _ (by kernel_rfl) _ _ _ hA1 (fun x hx => hlt x (List.mem_append.2 (.inl hx))), rfl, bel.frame _, fun h => by cases h⟩
theorem over : Rows.attrBackRow.holds Try.pinned (OpenSpec.ofChange Rows.attrBackSpec) :=
  OpenClaim.holds_of_wide 5 Try.f5 rfl rfl rfl rfl rfl rfl rfl ⟨rfl, rfl, rfl, rfl, rfl⟩ rfl rfl rfl rfl rfl (by kernel_rfl) Try.func5 (by kernel_rfl)
    (of_decide_eq_true (by kernel_rfl)) (by unfold Func.isWrapper; first | (rw [if_pos (by decide +kernel)]; kernel_rfl) | (rw [if_neg (by decide +kernel)]; exact ⟨rfl, rfl⟩))
    (fun os started H enc _ => lifted os started H enc)
end Go.Proofs.Ytphdefenonncaaa.attrBack
namespace Go.Proofs.Ytphdefenonncaaa
theorem attrBack_holds : Rows.AttrBackSaid := attrBack.over
#print axioms attrBack_holds
end Go.Proofs.Ytphdefenonncaaa

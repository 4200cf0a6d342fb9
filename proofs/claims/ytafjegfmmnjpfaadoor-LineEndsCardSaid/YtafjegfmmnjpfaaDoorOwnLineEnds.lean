/- Proved: the given card of the law LineEnds holds: if from some time on packs come, all messages come, and nothing waits; conditions: none. -/
import Derived.Test.YtafjegfmmnjpfaaDoorLift
import Derived.Test.YtafjegfmmnjpfaaDoorLEnds
import Derived.Test.YtafjegfmmnjpfaaDoorCards
import Derived.Test.YtafjegfmmnjpfaaDoorTie
import Derived.ChangeVars
import Derived.JoinedOf
import Derived.RowKitTokens
import Derived.LaidLaws
import Derived.LaidHandle
import Derived.Stop.Joined
import Derived.SevenTiedAt
import Derived.ShutString
namespace Go.Proofs.YtafjegfmmnjpfaaDoor.lineEnds
open Go.ChangeShapes Go.WideShapes Go.ChangeAt Go.RowKit Go.Joins Go.Proofs.YtafjegfmmnjpfaaDoor.LineT
open Go.ChangeMaps (open_string shut_string)
set_option linter.unusedVariables false
theorem own : ownKnob Tryd.prog.godebug = none := by kernel_rfl
theorem laidOut : laidOutB Tryd.prog = true := by kernel_rfl
theorem et : Tryd.prog.globalNamed "errors.errorType" = some 0 := by kernel_rfl
theorem rt : (Tryd.prog.cutTypes.find? (·.1 == "internal/reflectlite.rtype")).map (·.2) = some 103 := by kernel_rfl
theorem oneRow : ((List.range 145).filter fun t => Tryd.prog.rowNamed t [101, 114, 114, 111, 114]) = [30] := by kernel_rfl
theorem size : Tryd.prog.types.size = 145 := by kernel_rfl
theorem gl_of_laid {W : World} (h : laidMetH Tryd.prog Rows.lineEndsRow.laid W) : Code.Gl W := by
  have h' : laidMet Tryd.prog [] W ∧ handlesMet Tryd.prog Rows.lineEndsRow.laid W := h
  obtain ⟨name, u, ty, e1, e2, e3, e4, e5⟩ := h'.2 _ (List.mem_singleton.2 rfl)
  have en : name = [101, 114, 114, 111, 114] := (Option.some.inj e1).symm
  subst en
  obtain rfl := Option.some.inj (rt.symm.trans e2)
  have hm : ty ∈ (List.range 145).filter fun t => Tryd.prog.rowNamed t [101, 114, 114, 111, 114] := List.mem_filter.2 ⟨List.mem_range.2 (by rw [← size]; exact e3), e4⟩
  rw [oneRow] at hm
  obtain rfl := List.mem_singleton.1 hm
  have hh : typeHandle Tryd.prog 30 = .pointer (some ⟨1, 30, none⟩) := by kernel_rfl
  rw [hh] at e5
  unfold Code.Gl
  simpa using World.var?_cell et e5 0
noncomputable def laidWorld (os : Os) : World :=
  let w0 := World.holding Tryd.prog os ⟨#[], #[], []⟩
  { w0 with heap := w0.heap.modify 0 fun
      | .cells _ t frozen => .cells #[.iface 103 (.agg #[.pointer (some ⟨1, 30, none⟩)])] t frozen
      | o => o }
theorem laidWorld_met (os : Os) (args : Array Value) : laidMetH Tryd.prog Rows.lineEndsRow.laid ((laidWorld os).forCall (fun _ _ => 0) ⟨#[], args, []⟩).memory :=
  laidMetH_of_parts (laidMet_nil _ _) (by kernel_rfl)
set_option maxRecDepth 100000 in
theorem lifted (os : Os) (started : os.Started) (H : Type) (enc : TypeId × Value → H) :
    ReturnsInHanded {} Tryd.checked os 7 .any (fun w args => (Rows.lineEndsSpec.pre enc Tryd.prog Tryd.f7 [] false w args ∧ laidMetH Tryd.prog Rows.lineEndsRow.laid w) ∧ sizedMet enc Tryd.prog Tryd.f7 (OpenSpec.ofChange Rows.lineEndsSpec) false w args)
      (Rows.lineEndsSpec.post enc Tryd.prog Tryd.f7 false true false false) := by
  refine returnsInHanded_of_change_and (C := Tryd.checked) (X := fun w _ => laidMetH Tryd.prog Rows.lineEndsRow.laid w) (fun _ _ _ hh h => h.of_heap hh) own started (by kernel_rfl) Tryd.func7
    (ChangeSpec.witness_at (enc := enc) (C := Tryd.checked) (os := os) (X := fun w _ => laidMetH Tryd.prog Rows.lineEndsRow.laid w) false (laidWorld os) #[.slice none 0 0, .slice none 0 0, .int .u8 0] 8 rfl (by kernel_rfl) (by kernel_rfl) (by kernel_rfl) (by kernel_rfl) (by kernel_rfl) (laidWorld_met os _)) ?_
  intro W base args ds gs before hval0 hW hcnd hsz0 hL _
  have hG := gl_of_laid hL
  have hsz : (DataW.weightsEach Tryd.prog (Tryd.f7.params.toList ++ Rows.lineEndsSpec.plain.varTypes Tryd.prog) (ds ++ gs)).all (· ≤ reachBytes) = true := hsz0
  have hval : ∀ (j : Nat) t v, Tryd.f7.params[j]? = some t → args[j]? = some v → Value.okWide Tryd.prog W .any base t v := hval0
  have hW' := hW
  have hlt : ∀ x ∈ before, x.block < W.heap.size := fun x hx => hW.lt x hx
  obtain ⟨p, q, hA0, hV, rfl, hfz, hnd⟩ := hW
  have hA : DataW.TrodAll enc Tryd.prog W 0 (fun _ => true) true Tryd.f7.params.toList args.toList ds p := hA0
  rw [Tryd.params7] at hA hval hsz
  have hA1 := hA
  obtain ⟨v0, vs0, d0, ds0, p0, q0, hargs, rfl, rfl, h0, r0⟩ := trodAll_cons hA
  obtain ⟨v1, vs1, d1, ds1, p1, q1, rfl, rfl, rfl, h1, r1⟩ := trodAll_cons r0
  obtain ⟨v2, vs2, d2, ds2, p2, q2, rfl, rfl, rfl, h2, r2⟩ := trodAll_cons r1
  obtain ⟨rfl, rfl, rfl⟩ := trodAll_nil r2
  obtain rfl : args = #[v0, v1, v2] := by cases args; simp_all
  obtain ⟨rfl, rfl⟩ := trodVars_none hV
  obtain ⟨lost, rfl, rfl, rfl, wlost⟩ := open_int Tryd.underlying5 (hval 2 5 v2 rfl rfl) h2
  clear hA0 hval0 hsz0
  obtain ⟨A, n, cap, l, rfl, hn, hle, hT, hl, _⟩ := LineT.texts_open (hval 0 22 v0 rfl rfl) h0
  obtain ⟨A2, n2, cap2, l2, rfl, hn2, hle2, hT2, hl2, _⟩ := LineT.texts_open (hval 1 22 v1 rfl rfl) h1
  have ry := wlost
  simp [Lit.wf, IntKind.min, IntKind.max, IntKind.signed, IntKind.bits] at ry
  refine (LineT.ends_law A A2 n n2 cap cap2 l l2 lost W hG hn hn2 hT hT2 hl hl2 ry.1 ry.2 hle hle2).mono fun e W' ⟨he, bel⟩ => ?_
  subst he
  exact ⟨_, rfl, _, _, _, [], _, [], hW', trodAll_mk1 (shut_bool Tryd.underlying4 _), Lift.trodAll_below laidOut bel _ (by kernel_rfl) _ _ _ hA1 (fun x hx => hlt x (List.mem_append.2 (.inl hx))), rfl, bel.frame _, fun h => by cases h⟩
theorem over : Rows.lineEndsRow.holds Tryd.pinned (OpenSpec.ofChange Rows.lineEndsSpec) :=
  OpenClaim.holds_of_wide 7 Tryd.f7 rfl rfl rfl rfl rfl rfl rfl ⟨rfl, rfl, rfl, rfl, rfl⟩ rfl rfl rfl rfl rfl (by kernel_rfl) Tryd.func7 (by kernel_rfl)
    (of_decide_eq_true (by kernel_rfl)) (by unfold Func.isWrapper; rw [if_neg (of_decide_eq_false (by kernel_rfl))]; exact ⟨rfl, rfl⟩)
    (fun os started H enc _ => lifted os started H enc)
theorem card_holds : Rows.LineEndsCardSaid :=
  Claim7.holds_tied_plain_at .later [] [.handle] true (true, "84077bfbb490f8b8933f86a37cfec62ab2988dec77806733c71f0c22aace4014") true
    over (fun _ h => by cases h) (by kernel_rfl) (fun _ h => by cases h) lineEnds_row_tie rfl ⟨rfl, rfl⟩ (by kernel_rfl) rfl
    (fun f fn hf hfn => by
      obtain rfl : f = 7 := Option.some.inj ((show Tryd.prog.funcNamed "shutter/shutterlaw23.LineEnds" = some 7 by kernel_rfl).symm.trans hf) |>.symm
      obtain rfl : fn = Tryd.f7 := (Option.some.inj (Tryd.func7.symm.trans hfn)).symm
      exact ⟨by kernel_rfl, fun j t ht => by
        rw [Tryd.params7] at ht
        have h3 : t = 5 ∨ t = 22 := by
          rcases j with _ | j
          · simp at ht; simp [← ht]
          rcases j with _ | j
          · simp at ht; simp [← ht]
          rcases j with _ | j
          · simp at ht; simp [← ht]
          · simp at ht
        rcases h3 with rfl | rfl
        · exact (show Tryd.prog.wantsStandIn 5 = false by kernel_rfl)
        · exact (show Tryd.prog.wantsStandIn 22 = false by kernel_rfl)
        ⟩)
    (by kernel_rfl)
end Go.Proofs.YtafjegfmmnjpfaaDoor.lineEnds
namespace Go.Proofs.YtafjegfmmnjpfaaDoor
theorem lineEnds_holds : Rows.LineEndsCardSaid := lineEnds.card_holds
#print axioms lineEnds_holds
end Go.Proofs.YtafjegfmmnjpfaaDoor

/- Proved: '==' of sums that are one; conditions: the theorems' own premises. -/
import Derived.Test.YtlniejfbkcgneaaHOf
import Derived.Laws.StructEq
namespace Go.Proofs.Ytlniejfbkcgneaa.HashT
open Go.RowKit Go.Proofs.Ytlniejfbkcgneaa.YHash Go.Proofs.YtlniejfbkcgneaaW.PrintWords Go.Proofs.YtlniejfbkcgneaaW.PrintLast Go.Proofs.YtlniejfbkcgneaaW.PrintMore
set_option linter.unusedVariables false
set_option linter.unusedSimpArgs false
theorem eq_u8 (d : Nat) (a b : Int) (w : World) : (Op.equalIn (d + 1) 5 (.int .u8 a) (.int .u8 b)).run Try.prog w = .ok (a == b) w := by
  simp only [Op.equalIn, Sem.run_bind, run_underlying Try.underlying5, Result.andThen_ok]
  simp
theorem part_u8 (xs : List Int) (i : Nat) (hi : i < xs.length) (w : World) : (part 5 (⟨nums .u8 xs⟩ : Array Value) (i * 1)).run Try.prog w = .ok (.int .u8 (rd xs (i : Int))) w := by
  have h : (⟨nums .u8 xs⟩ : Array Value)[i]? = some (.int .u8 (rd xs (i : Int))) := by
    rw [List.getElem?_toArray]
    unfold nums rd
    rw [List.getElem?_map, List.getElem?_eq_getElem hi, Int.toNat_natCast, List.getD_eq_getElem?_getD, List.getElem?_eq_getElem hi]; rfl
  rw [Nat.mul_one]
  go_simp
theorem eq_loop (d : Nat) (X : List Int) : ∀ (l : List Nat), (∀ i ∈ l, i < X.length) → ∀ w : World, (forIn l ((none, ()) : Option Bool × Unit) (fun i __s => do
            let __do_lift ← part 5 (⟨nums .u8 X⟩ : Array Value) (i * 1)
            let __do_lift_1 ← part 5 (⟨nums .u8 X⟩ : Array Value) (i * 1)
            let __do_lift ← Op.equalIn (d + 1) 5 __do_lift __do_lift_1
            if (!__do_lift) = true then pure (ForInStep.done (some false, ())) else pure (ForInStep.yield (none, ()))) : Sem (Option Bool × Unit)).run Try.prog w = .ok (none, ()) w
  | [], _, w => by simp
  | i :: l, h, w => by
    rw [List.forIn_cons]
    simp only [Sem.run_bind, part_u8 X i (h i (by simp)), Result.andThen_ok, eq_u8, beq_self_eq_true, Bool.not_true, Bool.false_eq_true, if_false, Sem.run_pure]
    exact eq_loop d X l (fun j hj => h j (by simp [hj])) w
theorem eq_array (X : List Int) (hX : X.length = 32) (w : World) : (Op.equalIn 10000 25 (.agg ⟨nums .u8 X⟩) (.agg ⟨nums .u8 X⟩)).run Try.prog w = .ok true w := by
  show (Op.equalIn (9998 + 1 + 1) 25 (.agg ⟨nums .u8 X⟩) (.agg ⟨nums .u8 X⟩)).run Try.prog w = .ok true w
  obtain ⟨i0, hi, hzz⟩ := Option.map_eq_some_iff.1 info5
  simp only [Prod.mk.injEq] at hzz
  have hsz : ∀ w, (sizeOf 5).run Try.prog w = .ok 1 w := fun w => by simp [sizeOf, typeInfo, hi, hzz.2.1]
  generalize 9998 = d
  rw [Op.equalIn]
  simp only [Sem.run_bind, run_underlying Try.underlying25, Result.andThen_ok, hsz]
  rw [Std.Legacy.Range.forIn_eq_forIn_range', eq_loop d X _ (fun i hi => by
    have := List.mem_range'_1.1 hi
    simp [Std.Legacy.Range.size] at this
    omega) w]
  simp
end Go.Proofs.Ytlniejfbkcgneaa.HashT

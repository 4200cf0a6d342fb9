-- Own text, made by this session out of the translation by wip/tools/xprint.sh: Lean functions with the answers of Go functions, and their walks.
import Derived.Test.YtabghncbdohciaaDoorYGridx0
namespace Go.Proofs.YtabghncbdohciaaDoor.YGrid
open Go.RowKit Go.Proofs.YtabghncbdohciaaDoorW.PrintWords Go.Proofs.YtabghncbdohciaaDoorW.PrintLast Go.Proofs.YtabghncbdohciaaDoorW.PrintMore
attribute [local go_sem] max2_int min2_int max_two min_two max_three min_three max_four min_four   -- for this text's walks alone
set_option linter.unusedVariables false
set_option linter.unusedSimpArgs false

/-! ### shutterref10_Sized: function 7 -/
def shutterref10_Sized.f (a0 : Int) (a1 : Int) : Option (Bool) := if a0 ≥ 1 then (if a1 ≥ 1 then (if a0 ≤ 16383 then (if a1 ≤ 16383 then (some (decide ((wrap64 (a0 * a1)) ≤ 16383))) else (some false)) else (some false)) else (some false)) else (some false)
set_option maxHeartbeats 8000000 in
set_option maxRecDepth 100000 in
theorem shutterref10_Sized.calls (a0 : Int) (a1 : Int) (r : Bool) (w : World) (h : shutterref10_Sized.f a0 a1 = some r) :
    Calls Tryd.prog 7 #[.int .i64 a0, .int .i64 a1] w fun e w' => e = .returned (.bool r) ∧ Drawn0 w w' := by
  have H : (if a0 ≥ 1 then (if a1 ≥ 1 then (if a0 ≤ 16383 then (if a1 ≤ 16383 then (some (decide ((wrap64 (a0 * a1)) ≤ 16383))) else (some false)) else (some false)) else (some false)) else (some false)) = some r := h
  clear h
  by_cases c3 : a0 ≥ 1
  · rw [if_pos c3] at H
    have c3b0 : decide (1 ≤ a0) = true := decide_eq_true c3
    clear c3
    by_cases c4 : a1 ≥ 1
    · rw [if_pos c4] at H
      have c4b0 : decide (1 ≤ a1) = true := decide_eq_true c4
      clear c4
      by_cases c5 : a0 ≤ 16383
      · rw [if_pos c5] at H
        have c5b0 : decide (a0 ≤ 16383) = true := decide_eq_true c5
        clear c5
        by_cases c6 : a1 ≤ 16383
        · rw [if_pos c6] at H
          have c6b0 : decide (a1 ≤ 16383) = true := decide_eq_true c6
          clear c6
          obtain rfl := Option.some.inj H
          go_enter Tryd.func7, Tryd.ntmps7
          go_wp2
          go_ret
          exact ⟨by first | rfl | (simp; done) | (simp [IntKind.wrap_u8, i64_w]; done) | (simp only [IntKind.wrap_u8, IntKind.wrap_i64, i64_w]; done) | (simp [*]; done), by repeat (first | exact Drawn0.refl _ | apply Drawn0.step)⟩
        · rw [if_neg c6] at H
          have c6b0 : decide (a1 ≤ 16383) = false := decide_eq_false c6
          clear c6
          obtain rfl := Option.some.inj H
          go_enter Tryd.func7, Tryd.ntmps7
          go_wp2
          go_ret
          exact ⟨by first | rfl | (simp; done) | (simp [IntKind.wrap_u8, i64_w]; done) | (simp only [IntKind.wrap_u8, IntKind.wrap_i64, i64_w]; done) | (simp [*]; done), by repeat (first | exact Drawn0.refl _ | apply Drawn0.step)⟩
      · rw [if_neg c5] at H
        have c5b0 : decide (a0 ≤ 16383) = false := decide_eq_false c5
        clear c5
        obtain rfl := Option.some.inj H
        go_enter Tryd.func7, Tryd.ntmps7
        go_wp2
        go_ret
        exact ⟨by first | rfl | (simp; done) | (simp [IntKind.wrap_u8, i64_w]; done) | (simp only [IntKind.wrap_u8, IntKind.wrap_i64, i64_w]; done) | (simp [*]; done), by repeat (first | exact Drawn0.refl _ | apply Drawn0.step)⟩
    · rw [if_neg c4] at H
      have c4b0 : decide (1 ≤ a1) = false := decide_eq_false c4
      clear c4
      obtain rfl := Option.some.inj H
      go_enter Tryd.func7, Tryd.ntmps7
      go_wp2
      go_ret
      exact ⟨by first | rfl | (simp; done) | (simp [IntKind.wrap_u8, i64_w]; done) | (simp only [IntKind.wrap_u8, IntKind.wrap_i64, i64_w]; done) | (simp [*]; done), by repeat (first | exact Drawn0.refl _ | apply Drawn0.step)⟩
  · rw [if_neg c3] at H
    have c3b0 : decide (1 ≤ a0) = false := decide_eq_false c3
    clear c3
    obtain rfl := Option.some.inj H
    go_enter Tryd.func7, Tryd.ntmps7
    go_wp2
    go_ret
    exact ⟨by first | rfl | (simp; done) | (simp [IntKind.wrap_u8, i64_w]; done) | (simp only [IntKind.wrap_u8, IntKind.wrap_i64, i64_w]; done) | (simp [*]; done), by repeat (first | exact Drawn0.refl _ | apply Drawn0.step)⟩

-- NOT PRINTED: function 28 (reflectlite_ValueOf)

-- NOT PRINTED: function 29 (reflectlite_Value_Type)

-- NOT PRINTED: function 30 (reflectlite_Value_IsNil)

-- NOT PRINTED: function 35 (reflectlite_TypeOf)

-- NOT PRINTED: function 36 (reflectlite_Value_Elem)

-- NOT PRINTED: function 37 (reflectlite_Value_Set)

-- NOT PRINTED: function 31 (errors_as)

-- NOT PRINTED: function 20 (errors_As)

/-! ### api_Code: function 8 -/
def api_Code.f (a0 : Option Int) : Option (Int) := some (a0.getD 0)
theorem api_Code.calls (a0 : Option Int) (r : Int) (w : World) (hGl : Aside0 (Code.Gl w)) (h : api_Code.f a0 = some r) :
    Calls Tryd.prog 8 #[errW a0] w fun e w' => e = .returned (.int .i64 r) ∧ Below w.heap.size w w' := by
  obtain rfl := Option.some.inj h
  cases a0 with
  | none => exact Code.code_nil w
  | some c => exact Code.code_some c w hGl.out

end Go.Proofs.YtabghncbdohciaaDoor.YGrid

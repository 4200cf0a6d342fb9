/- Proved: for every attribute, Protected, Numeric and Modified each turn one of the six lowest bits of its byte (AttrSix), as a statement about numbers alone; conditions: none. -/
import Derived.Test.YtphdefenonncaaaQAttrSixx5
namespace Go.Proofs.Ytphdefenonncaaa.PurSix
open Go.RowKit Go.Proofs.Ytphdefenonncaaa.QAttrSix Go.Proofs.YtphdefenonncaaaW.PrintWords Go.Proofs.YtphdefenonncaaaW.PrintLast

theorem few : ∀ (p n m : Bool) (s : Fin 4), shutterlaw05_AttrSix.f 20 p n ((s.val : Nat) : Int) m = some true := by decide +kernel

theorem awake : shutterlaw05_awake.f 18 = some true := by decide +kernel
theorem awake' : shutterlaw05_awake.f 20 = some true := by decide +kernel

theorem put_none (k : Nat) (p n m : Bool) (s : Int) (h : s < 0 ∨ 3 < s) : attr_Put.f (k + 1) p n s m = some (0, some 1) := by
  unfold attr_Put.f
  by_cases h0 : s < 0
  · rw [if_pos h0]; rfl
  · have h3 : s > 3 := by omega
    rw [if_neg h0, decide_eq_true h3]; rfl

theorem all (p n m : Bool) (s : Int) : shutterlaw05_AttrSix.f 20 p n s m = some true := by
  by_cases h : s < 0 ∨ 3 < s
  · unfold shutterlaw05_AttrSix.f
    rw [put_none 19 p n m s h, awake']
    simp only [Option.bind_some, if_true, Option.isNone_some, Bool.false_eq_true, if_false]
    rw [shutterlaw05_AttrSix.j0]
    simp only [if_true]
    have : shutterlaw05_awake.f 19 = some true := by decide +kernel
    rw [this]; rfl
  · obtain ⟨k, rfl⟩ := Int.eq_ofNat_of_zero_le (show 0 ≤ s by omega)
    exact few p n m ⟨k, by omega⟩

end Go.Proofs.Ytphdefenonncaaa.PurSix

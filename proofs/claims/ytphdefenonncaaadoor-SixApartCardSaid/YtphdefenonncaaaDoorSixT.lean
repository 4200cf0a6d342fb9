/- Proved: the printed functions of the layers six and attr answer as small tables say (for each number from 0 to 63, each byte); conditions: the theorems' own premises. -/
import Derived.Test.YtphdefenonncaaaDoorYSixx
namespace Go.Proofs.YtphdefenonncaaaDoor.SixT
open Go.RowKit Go.Proofs.YtphdefenonncaaaDoor.YSix Go.Proofs.YtphdefenonncaaaDoorW.PrintWords Go.Proofs.YtphdefenonncaaaDoorW.PrintLast

/-- The graphic bytes. -/
def tabN : Nat → Nat := fun n => if n = 0 then 64 else if n = 48 then 240 else if n = 33 then 97 else
  if n % 16 = 0 then (n / 16 + 4) * 16 else if n % 16 < 10 then (n / 16 + 12) * 16 + n % 16 else (n / 16 + 4) * 16 + n % 16
def tab (n : Nat) : Int := (tabN n : Int)
theorem at_fin : ∀ n : Fin 64, six_at.f ((n.val : Nat) : Int) = some (tab n.val) := by decide +kernel
theorem at_tab (n : Nat) (h : n < 64) : six_at.f (n : Int) = some (tab n) := at_fin ⟨n, h⟩
theorem low_fin : ∀ n : Fin 256, six_Low.f ((n.val : Nat) : Int) = some (((n.val % 64 : Nat)) : Int) := by decide +kernel
theorem low_tab (n : Nat) (h : n < 256) : six_Low.f (n : Int) = some ((n % 64 : Nat) : Int) := low_fin ⟨n, h⟩
theorem tab_low : ∀ n : Fin 64, tabN n.val % 64 = n.val ∧ tabN n.val < 256 := by decide +kernel
theorem tabN_lt (n : Nat) (h : n < 64) : tabN n < 256 := (tab_low ⟨n, h⟩).2
theorem tabN_mod (n : Nat) (h : n < 64) : tabN n % 64 = n := (tab_low ⟨n, h⟩).1

theorem put_tab (n : Nat) (h : n < 64) : six_Put.f (n : Int) = some (tab n, none) := by
  unfold six_Put.f
  rw [if_neg (by omega), if_neg (by omega), at_tab n h]; rfl
theorem put_out (n : Int) (h : n < 0 ∨ 63 < n) : six_Put.f n = some (0, some 1) := by
  unfold six_Put.f
  by_cases h0 : n < 0
  · rw [if_pos h0]
  · rw [if_neg h0, if_pos (by omega)]
theorem get_aux (x : Option Int) (n : Nat) (c : Int) (hx : x = some ((n : Nat) : Int)) (f : Int → Option Int) (hf : f ((n : Nat) : Int) = some (tab n)) :
    (x.bind fun t => (f t).bind fun u => if u = c then some (t, (none : Option Int)) else some (0, some 3)) = if tab n = c then some (((n : Nat) : Int), none) else some (0, some 3) := by
  rw [hx, Option.bind_some, hf, Option.bind_some]
theorem get_tab (c : Nat) (h : c < 256) : six_Get.f (c : Int) = if tab (c % 64) = (c : Int) then some (((c % 64 : Nat) : Int), none) else some (0, some 3) := by
  unfold six_Get.f
  exact get_aux _ (c % 64) c (low_tab c h) six_at.f (at_tab (c % 64) (Nat.mod_lt _ (by decide)))

end Go.Proofs.YtphdefenonncaaaDoor.SixT

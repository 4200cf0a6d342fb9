/- Proved: api.Code answers 0 at nil and an Errno's number at an Errno, and turns nothing that was there; conditions: where the error is not nil, errors.errorType holds the handle of the type error. -/
import Derived.Test.YtafjegfmmnjpfaaDoorAs
import Derived.Below
import Derived.Lib.Hide
namespace Go.Proofs.YtafjegfmmnjpfaaDoor.Code
open Go.RowKit Go.Extern.Stop Go.Stop Go.Extern Go.Proofs.YtafjegfmmnjpfaaDoor.As
set_option linter.unusedVariables false

/-- The library's variable holds the handle of the type error. -/
def Gl (w : World) : Prop := w.cell? ⟨0, 0, none⟩ = some (.iface 103 (.agg #[.pointer (some ⟨1, 30, none⟩)]))
theorem Gl.lt {w : World} (h : Gl w) : 0 < w.heap.size := by
  rcases Nat.eq_zero_or_pos w.heap.size with h0 | h1
  · simp [Gl, World.cell?, h0] at h
  · exact h1
theorem Gl.below {w w' : World} {B : Nat} (h : Gl w) (hb : Below B w w') (hB : 0 < B) : Gl w' := (hb.cell (p := ⟨0, 0, none⟩) hB).trans h
theorem Gl.alloc {w : World} (h : Gl w) (o : Obj) : Gl (w.alloc o) := (World.cell?_alloc_lt w o ⟨0, 0, none⟩ h.lt).trans h

/-- An error of the program's own kind. -/
def errV : Option Int → Value
  | none => .nilIface
  | some c => .iface 67 (.int .i64 c)

set_option maxHeartbeats 1000000 in
theorem code_nil (w : World) : Calls Tryd.prog 20 #[.nilIface] w fun e w' => e = .returned (.int .i64 0) ∧ Below w.heap.size w w' := by
  go_enter Tryd.func20, Tryd.ntmps20
  go_wp2_with fail
  go_ret
  exact ⟨rfl, (Below.refl _ _).alloc (Nat.le_refl _) _⟩

set_option maxHeartbeats 1000000 in
theorem code_some (n : Int) (w : World) (hg : Gl w) : Calls Tryd.prog 20 #[.iface 67 (.int .i64 n)] w fun e w' => e = .returned (.int .i64 n) ∧ Below w.heap.size w w' := by
  have hg1 : (w.alloc (.cells #[.int .i64 0] 67)).cell? ⟨0, 0, none⟩ = some (.iface 103 (.agg #[.pointer (some ⟨1, 30, none⟩)])) := hg.alloc _
  have H := Lib.hid hg1
  clear hg1 hg
  go_enter Tryd.func20, Tryd.ntmps20
  go_wp2_with (go_at_call 35; refine (as_hit n ⟨w.heap.size, 0, none⟩ (.int .i64 0) _ H.out (by simp) (by simp)).mono ?_; rintro e w' ⟨rfl, rfl⟩)
  go_ret
  refine ⟨rfl, ?_⟩
  exact (((((Below.refl _ _).alloc (Nat.le_refl _) _).alloc (by simp) _).alloc (by simp; omega) _).alloc (by simp; omega) _).alloc (by simp; omega) _

theorem code_calls (x : Option Int) (w : World) (hg : Gl w) : Calls Tryd.prog 20 #[errV x] w fun e w' => e = .returned (.int .i64 (x.getD 0)) ∧ Below w.heap.size w w' := by
  cases x with
  | none => exact code_nil w
  | some c => exact code_some c w hg
end Go.Proofs.YtafjegfmmnjpfaaDoor.Code

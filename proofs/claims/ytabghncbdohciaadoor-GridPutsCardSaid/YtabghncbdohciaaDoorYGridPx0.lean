-- Own text, made by this session out of the translation by wip/tools/xprint.sh: Lean functions with the answers of Go functions, and their walks.
import Derived.Test.YtabghncbdohciaaDoorProg
import Derived.Below
import Derived.Deep.Draws
import Derived.Deep.AppendLies
import Derived.Maps.AppendAt
import Derived.OwnWalk
import Derived.Laws.BytesArg
import Derived.Laws.MakeOwn
import Derived.Laws.OwnMore
import Derived.Deep.OwnRows
import Derived.Tactics
import Derived.Lib.ConvBytes
import Derived.Laws.Slices
import Derived.WalkKit
import Derived.KernelRfl
import Derived.RowKit3
import Derived.Deep.LoopGhost
import Derived.Deep.QuietTactic
import Derived.BigQuiet
import Derived.WideLaws
import Derived.Deep.DeepCutAuto
import Derived.Deep.CutBlock
import Derived.Deep.RegionHeld3
import Derived.Laws.Rows
import Derived.Lib.AppendStr
import Derived.ArgAppend
import Derived.Laws.IdiomCopy
import Derived.OrdersHeld
import Derived.Laws.BitsLemmas
import Derived.RowKit
import Derived.Test.YtabghncbdohciaaDoorCode
import Derived.WalkSpells
import Derived.Lib.SliceRun
import Derived.Test.YtabghncbdohciaaDoorWWords
import Derived.Test.YtabghncbdohciaaDoorWLast
import Derived.Test.YtabghncbdohciaaDoorWTab
import Derived.Test.YtabghncbdohciaaDoorWQPut
import Derived.Test.YtabghncbdohciaaDoorWApart
import Derived.Test.YtabghncbdohciaaDoorWArr
import Derived.Test.YtabghncbdohciaaDoorWZeros
import Derived.Test.YtabghncbdohciaaDoorWFoot
import Derived.Test.YtabghncbdohciaaDoorWKept
import Derived.Test.YtabghncbdohciaaDoorWShare
import Derived.Test.YtabghncbdohciaaDoorWN
import Derived.Test.YtabghncbdohciaaDoorWEqStruct
import Derived.Test.YtabghncbdohciaaDoorWRepsOne
import Derived.Test.YtabghncbdohciaaDoorWGuard
import Derived.Test.YtabghncbdohciaaDoorWNEv
import Derived.Test.YtabghncbdohciaaDoorWMore
namespace Go.Proofs.YtabghncbdohciaaDoor.YGridP
open Go.RowKit Go.Proofs.YtabghncbdohciaaDoorW.PrintWords Go.Proofs.YtabghncbdohciaaDoorW.PrintLast Go.Proofs.YtabghncbdohciaaDoorW.PrintMore
attribute [local go_sem] max2_int min2_int max_two min_two max_three min_three max_four min_four   -- for this text's walks alone
set_option linter.unusedVariables false
set_option linter.unusedSimpArgs false



def errW : Option Int → Value
  | none => .nilIface
  | some c => .iface 42 (.int .i64 c)
theorem errW_none : errW none = .nilIface := rfl
theorem errW_some (c : Int) : errW (some c) = .iface 42 (.int .i64 c) := rfl

theorem info3 : (Tryd.prog.info? 3).map (fun i => (i.zero, i.size, i.bytes)) = some (some (.int .i64 0), 1, 8) := by kernel_rfl
theorem info36 : (Tryd.prog.info? 36).map (fun i => (i.zero, i.size, i.bytes)) = some (some (.agg #[(.bool false), (.bool false), (.bool false), (.int .i64 0), (.bool false), (.int .u8 0)]), 6, 40) := by kernel_rfl
theorem info84 : (Tryd.prog.info? 84).map (fun i => (i.zero, i.size, i.bytes)) = some (some (.agg #[(.bool false), (.int .i64 0)]), 2, 16) := by kernel_rfl
-- the values' own types
/-! #### struct type 34 -/
structure S34 where
  f0 : Bool
  f1 : Bool
  f2 : Int
  f3 : Bool
def z34 : S34 := ⟨false, false, (0 : Int), false⟩
def k34 : Kd S34 := Kd.iso (Kd.pair Kd.bool (Kd.pair Kd.bool (Kd.pair (Kd.int .i64) Kd.bool))) (fun x : S34 => (x.f0, x.f1, x.f2, x.f3))
theorem k34_heap : Kd.Heap k34 := Kd.heap_iso _ (Kd.heap_pair Kd.heap_bool (Kd.heap_pair Kd.heap_bool (Kd.heap_pair (Kd.heap_int .i64) Kd.heap_bool)))
theorem k34_open {w : World} {x : S34} {cs : List Value} (h : k34.K w x cs) : cs = [.bool x.f0, .bool x.f1, .int .i64 x.f2, .bool x.f3] := by
  obtain ⟨_, _, rfl, rfl, ⟨_, _, rfl, rfl, ⟨_, _, rfl, rfl, rfl⟩⟩⟩ := h
  exact rfl
theorem k34_openM {w : World} {base : Nat} {ok : Nat → Prop} {x : S34} {cs : List Value} (h : k34.M w base ok x cs) : cs = [.bool x.f0, .bool x.f1, .int .i64 x.f2, .bool x.f3] := by
  obtain ⟨_, _, rfl, rfl, ⟨_, _, rfl, rfl, ⟨_, _, rfl, rfl, rfl⟩⟩⟩ := h
  exact rfl
theorem k34_mk (w : World) (x : S34)  : k34.K w x [.bool x.f0, .bool x.f1, .int .i64 x.f2, .bool x.f3] := ⟨[.bool x.f0], [.bool x.f1, .int .i64 x.f2, .bool x.f3], rfl, rfl, ⟨[.bool x.f1], [.int .i64 x.f2, .bool x.f3], rfl, rfl, ⟨[.int .i64 x.f2], [.bool x.f3], rfl, rfl, rfl⟩⟩⟩
theorem k34_mkM (w : World) (base : Nat) (ok : Nat → Prop) (x : S34)  : k34.M w base ok x [.bool x.f0, .bool x.f1, .int .i64 x.f2, .bool x.f3] := ⟨[.bool x.f0], [.bool x.f1, .int .i64 x.f2, .bool x.f3], rfl, rfl, ⟨[.bool x.f1], [.int .i64 x.f2, .bool x.f3], rfl, rfl, ⟨[.int .i64 x.f2], [.bool x.f3], rfl, rfl, rfl⟩⟩⟩
theorem k34_mkF (W : World) (ok : Nat → Prop) (x : S34) : Kd.FK k34 W ok x [.bool x.f0, .bool x.f1, .int .i64 x.f2, .bool x.f3] := fun W2 _ => k34_mk W2 x
def rd_T34 (xs : List S34) (i : Int) : S34 := xs.getD i.toNat z34
theorem at_T34 {w : World} {A : Option Addr} {n : Nat} {xs : List S34} (h : Kd.C k34 w A n xs) (i : Int) (h0 : 0 ≤ i) (h1 : i < n) : ∃ ad , A = some ad ∧ w.cell? (ad.add (i.toNat * 4)) = some (.bool (rd_T34 xs i).f0) ∧ w.cell? ⟨(ad.add (i.toNat * 4)).block, (ad.add (i.toNat * 4)).off + 1, none⟩ = some (.bool (rd_T34 xs i).f1) ∧ w.cell? ⟨(ad.add (i.toNat * 4)).block, (ad.add (i.toNat * 4)).off + 2, none⟩ = some (.int .i64 (rd_T34 xs i).f2) ∧ w.cell? ⟨(ad.add (i.toNat * 4)).block, (ad.add (i.toNat * 4)).off + 3, none⟩ = some (.bool (rd_T34 xs i).f3) := by
  obtain ⟨ad, c, e, _, hK, hc0⟩ := Kd.C_get h z34 i h0 h1
  have hc : ∀ j u, c[j]? = some u → w.cell? (ad.add (i.toNat * 4 + j)) = some u := hc0
  obtain rfl := k34_open hK
  exact ⟨ad, e, hc 0 _ rfl, by rw [← add_field _ _ 1 (by omega)]; exact hc 1 _ rfl, by rw [← add_field _ _ 2 (by omega)]; exact hc 2 _ rfl, by rw [← add_field _ _ 3 (by omega)]; exact hc 3 _ rfl⟩

/-! #### struct type 36 -/
structure S36 where
  f0 : Bool
  f1 : S34
  f2 : Int
def z36 : S36 := ⟨false, z34, (0 : Int)⟩
def k36 : Kd S36 := Kd.iso (Kd.pair Kd.bool (Kd.pair k34 (Kd.int .u8))) (fun x : S36 => (x.f0, x.f1, x.f2))
theorem k36_heap : Kd.Heap k36 := Kd.heap_iso _ (Kd.heap_pair Kd.heap_bool (Kd.heap_pair k34_heap (Kd.heap_int .u8)))
theorem k36_open {w : World} {x : S36} {cs : List Value} (h : k36.K w x cs) : cs = [.bool x.f0, .bool x.f1.f0, .bool x.f1.f1, .int .i64 x.f1.f2, .bool x.f1.f3, .int .u8 x.f2] := by
  obtain ⟨_, _, rfl, rfl, ⟨_, _, rfl, s1, rfl⟩⟩ := h
  obtain rfl := k34_open s1
  exact rfl
theorem k36_openM {w : World} {base : Nat} {ok : Nat → Prop} {x : S36} {cs : List Value} (h : k36.M w base ok x cs) : cs = [.bool x.f0, .bool x.f1.f0, .bool x.f1.f1, .int .i64 x.f1.f2, .bool x.f1.f3, .int .u8 x.f2] := by
  obtain ⟨_, _, rfl, rfl, ⟨_, _, rfl, s1, rfl⟩⟩ := h
  obtain rfl := k34_openM s1
  exact rfl
theorem k36_mk (w : World) (x : S36)  : k36.K w x [.bool x.f0, .bool x.f1.f0, .bool x.f1.f1, .int .i64 x.f1.f2, .bool x.f1.f3, .int .u8 x.f2] := ⟨[.bool x.f0], [.bool x.f1.f0, .bool x.f1.f1, .int .i64 x.f1.f2, .bool x.f1.f3, .int .u8 x.f2], rfl, rfl, ⟨[.bool x.f1.f0, .bool x.f1.f1, .int .i64 x.f1.f2, .bool x.f1.f3], [.int .u8 x.f2], rfl, (k34_mk w x.f1 ), rfl⟩⟩
theorem k36_mkM (w : World) (base : Nat) (ok : Nat → Prop) (x : S36)  : k36.M w base ok x [.bool x.f0, .bool x.f1.f0, .bool x.f1.f1, .int .i64 x.f1.f2, .bool x.f1.f3, .int .u8 x.f2] := ⟨[.bool x.f0], [.bool x.f1.f0, .bool x.f1.f1, .int .i64 x.f1.f2, .bool x.f1.f3, .int .u8 x.f2], rfl, rfl, ⟨[.bool x.f1.f0, .bool x.f1.f1, .int .i64 x.f1.f2, .bool x.f1.f3], [.int .u8 x.f2], rfl, (k34_mkM w base ok x.f1 ), rfl⟩⟩
theorem k36_mkF (W : World) (ok : Nat → Prop) (x : S36) : Kd.FK k36 W ok x [.bool x.f0, .bool x.f1.f0, .bool x.f1.f1, .int .i64 x.f1.f2, .bool x.f1.f3, .int .u8 x.f2] := fun W2 _ => k36_mk W2 x
def rd_T36 (xs : List S36) (i : Int) : S36 := xs.getD i.toNat z36
theorem at_T36 {w : World} {A : Option Addr} {n : Nat} {xs : List S36} (h : Kd.C k36 w A n xs) (i : Int) (h0 : 0 ≤ i) (h1 : i < n) : ∃ ad , A = some ad ∧ w.cell? (ad.add (i.toNat * 6)) = some (.bool (rd_T36 xs i).f0) ∧ w.cell? ⟨(ad.add (i.toNat * 6)).block, (ad.add (i.toNat * 6)).off + 1, none⟩ = some (.bool (rd_T36 xs i).f1.f0) ∧ w.cell? ⟨(ad.add (i.toNat * 6)).block, (ad.add (i.toNat * 6)).off + 2, none⟩ = some (.bool (rd_T36 xs i).f1.f1) ∧ w.cell? ⟨(ad.add (i.toNat * 6)).block, (ad.add (i.toNat * 6)).off + 3, none⟩ = some (.int .i64 (rd_T36 xs i).f1.f2) ∧ w.cell? ⟨(ad.add (i.toNat * 6)).block, (ad.add (i.toNat * 6)).off + 4, none⟩ = some (.bool (rd_T36 xs i).f1.f3) ∧ w.cell? ⟨(ad.add (i.toNat * 6)).block, (ad.add (i.toNat * 6)).off + 5, none⟩ = some (.int .u8 (rd_T36 xs i).f2) := by
  obtain ⟨ad, c, e, _, hK, hc0⟩ := Kd.C_get h z36 i h0 h1
  have hc : ∀ j u, c[j]? = some u → w.cell? (ad.add (i.toNat * 6 + j)) = some u := hc0
  obtain rfl := k36_open hK
  exact ⟨ad, e, hc 0 _ rfl, by rw [← add_field _ _ 1 (by omega)]; exact hc 1 _ rfl, by rw [← add_field _ _ 2 (by omega)]; exact hc 2 _ rfl, by rw [← add_field _ _ 3 (by omega)]; exact hc 3 _ rfl, by rw [← add_field _ _ 4 (by omega)]; exact hc 4 _ rfl, by rw [← add_field _ _ 5 (by omega)]; exact hc 5 _ rfl⟩

/-! #### struct type 84 -/
structure S84 where
  f0 : Bool
  f1 : Int
def z84 : S84 := ⟨false, (0 : Int)⟩
def k84 : Kd S84 := Kd.iso (Kd.pair Kd.bool (Kd.int .i64)) (fun x : S84 => (x.f0, x.f1))
theorem k84_heap : Kd.Heap k84 := Kd.heap_iso _ (Kd.heap_pair Kd.heap_bool (Kd.heap_int .i64))
theorem k84_open {w : World} {x : S84} {cs : List Value} (h : k84.K w x cs) : cs = [.bool x.f0, .int .i64 x.f1] := by
  obtain ⟨_, _, rfl, rfl, rfl⟩ := h
  exact rfl
theorem k84_openM {w : World} {base : Nat} {ok : Nat → Prop} {x : S84} {cs : List Value} (h : k84.M w base ok x cs) : cs = [.bool x.f0, .int .i64 x.f1] := by
  obtain ⟨_, _, rfl, rfl, rfl⟩ := h
  exact rfl
theorem k84_mk (w : World) (x : S84)  : k84.K w x [.bool x.f0, .int .i64 x.f1] := ⟨[.bool x.f0], [.int .i64 x.f1], rfl, rfl, rfl⟩
theorem k84_mkM (w : World) (base : Nat) (ok : Nat → Prop) (x : S84)  : k84.M w base ok x [.bool x.f0, .int .i64 x.f1] := ⟨[.bool x.f0], [.int .i64 x.f1], rfl, rfl, rfl⟩
theorem k84_mkF (W : World) (ok : Nat → Prop) (x : S84) : Kd.FK k84 W ok x [.bool x.f0, .int .i64 x.f1] := fun W2 _ => k84_mk W2 x
def rd_T84 (xs : List S84) (i : Int) : S84 := xs.getD i.toNat z84
theorem at_T84 {w : World} {A : Option Addr} {n : Nat} {xs : List S84} (h : Kd.C k84 w A n xs) (i : Int) (h0 : 0 ≤ i) (h1 : i < n) : ∃ ad , A = some ad ∧ w.cell? (ad.add (i.toNat * 2)) = some (.bool (rd_T84 xs i).f0) ∧ w.cell? ⟨(ad.add (i.toNat * 2)).block, (ad.add (i.toNat * 2)).off + 1, none⟩ = some (.int .i64 (rd_T84 xs i).f1) := by
  obtain ⟨ad, c, e, _, hK, hc0⟩ := Kd.C_get h z84 i h0 h1
  have hc : ∀ j u, c[j]? = some u → w.cell? (ad.add (i.toNat * 2 + j)) = some u := hc0
  obtain rfl := k84_open hK
  exact ⟨ad, e, hc 0 _ rfl, by rw [← add_field _ _ 1 (by omega)]; exact hc 1 _ rfl⟩

end Go.Proofs.YtabghncbdohciaaDoor.YGridP

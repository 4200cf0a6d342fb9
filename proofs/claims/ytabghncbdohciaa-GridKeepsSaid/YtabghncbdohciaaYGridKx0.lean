-- Own text, made by this session out of the translation by wip/tools/xprint.sh: Lean functions with the answers of Go functions, and their walks.
import Derived.Test.YtabghncbdohciaaProg
import Derived.Below
import Derived.Deep.Draws
import Derived.Deep.AppendLies
import Derived.Maps.AppendAt
import Derived.OwnWalk
import Derived.Laws.BytesArg
import Derived.Laws.MakeOwn
import Derived.Laws.OwnMore
import Derived.Deep.OwnRows
import Derived.Tactics
import Derived.Lib.ConvBytes
import Derived.Laws.Slices
import Derived.WalkKit
import Derived.KernelRfl
import Derived.RowKit3
import Derived.Deep.LoopGhost
import Derived.Deep.QuietTactic
import Derived.BigQuiet
import Derived.WideLaws
import Derived.Deep.DeepCutAuto
import Derived.Deep.CutBlock
import Derived.Deep.RegionHeld3
import Derived.Laws.Rows
import Derived.Lib.AppendStr
import Derived.ArgAppend
import Derived.Laws.IdiomCopy
import Derived.OrdersHeld
import Derived.Laws.BitsLemmas
import Derived.RowKit
import Derived.WalkSpells
import Derived.Lib.SliceRun
import Derived.Test.YtabghncbdohciaaWWords
import Derived.Test.YtabghncbdohciaaWLast
import Derived.Test.YtabghncbdohciaaWTab
import Derived.Test.YtabghncbdohciaaWFour
import Derived.Test.YtabghncbdohciaaWQPut
import Derived.Test.YtabghncbdohciaaWApart
import Derived.Test.YtabghncbdohciaaWArr
import Derived.Test.YtabghncbdohciaaWZeros
import Derived.Test.YtabghncbdohciaaWFoot
import Derived.Test.YtabghncbdohciaaWKept
import Derived.Test.YtabghncbdohciaaWShare
import Derived.Test.YtabghncbdohciaaWN
import Derived.Test.YtabghncbdohciaaWFootNe
import Derived.Test.YtabghncbdohciaaWAt
import Derived.Test.YtabghncbdohciaaWEqStruct
import Derived.Test.YtabghncbdohciaaWRepsOne
import Derived.Test.YtabghncbdohciaaWInv
import Derived.Test.YtabghncbdohciaaWInvWords
import Derived.Test.YtabghncbdohciaaWGuard
import Derived.Test.YtabghncbdohciaaWNEv
import Derived.Test.YtabghncbdohciaaWMore
namespace Go.Proofs.Ytabghncbdohciaa.YGridK
open Go.RowKit Go.Proofs.YtabghncbdohciaaW.PrintWords Go.Proofs.YtabghncbdohciaaW.PrintLast Go.Proofs.YtabghncbdohciaaW.PrintMore
attribute [local go_sem] max2_int min2_int max_two min_two max_three min_three max_four min_four   -- for this text's walks alone
set_option linter.unusedVariables false
set_option linter.unusedSimpArgs false



def errW : Option Int → Value
  | none => .nilIface
  | some c => .iface 50 (.int .i64 c)
theorem errW_none : errW none = .nilIface := rfl
theorem errW_some (c : Int) : errW (some c) = .iface 50 (.int .i64 c) := rfl

theorem info3 : (Try.prog.info? 3).map (fun i => (i.zero, i.size, i.bytes)) = some (some (.int .i64 0), 1, 8) := by kernel_rfl
theorem info4 : (Try.prog.info? 4).map (fun i => (i.zero, i.size, i.bytes)) = some (some (.bool false), 1, 1) := by kernel_rfl
theorem info44 : (Try.prog.info? 44).map (fun i => (i.zero, i.size, i.bytes)) = some (some (.agg #[(.bool false), (.bool false), (.bool false), (.int .i64 0), (.bool false), (.int .u8 0)]), 6, 40) := by kernel_rfl
theorem info61 : (Try.prog.info? 61).map (fun i => (i.zero, i.size, i.bytes)) = some (some (.agg #[(.bool false), (.int .i64 0)]), 2, 16) := by kernel_rfl
-- the values' own types
/-! #### struct type 42 -/
structure S42 where
  f0 : Bool
  f1 : Bool
  f2 : Int
  f3 : Bool
def z42 : S42 := ⟨false, false, (0 : Int), false⟩
def k42 : Kd S42 := Kd.iso (Kd.pair Kd.bool (Kd.pair Kd.bool (Kd.pair (Kd.int .i64) Kd.bool))) (fun x : S42 => (x.f0, x.f1, x.f2, x.f3))
theorem k42_open {w : World} {x : S42} {cs : List Value} (h : k42.K w x cs) : cs = [.bool x.f0, .bool x.f1, .int .i64 x.f2, .bool x.f3] := by
  obtain ⟨_, _, rfl, rfl, ⟨_, _, rfl, rfl, ⟨_, _, rfl, rfl, rfl⟩⟩⟩ := h
  exact rfl
theorem k42_openM {w : World} {base : Nat} {ok : Nat → Prop} {x : S42} {cs : List Value} (h : k42.M w base ok x cs) : cs = [.bool x.f0, .bool x.f1, .int .i64 x.f2, .bool x.f3] := by
  obtain ⟨_, _, rfl, rfl, ⟨_, _, rfl, rfl, ⟨_, _, rfl, rfl, rfl⟩⟩⟩ := h
  exact rfl
theorem k42_mk (w : World) (x : S42)  : k42.K w x [.bool x.f0, .bool x.f1, .int .i64 x.f2, .bool x.f3] := ⟨[.bool x.f0], [.bool x.f1, .int .i64 x.f2, .bool x.f3], rfl, rfl, ⟨[.bool x.f1], [.int .i64 x.f2, .bool x.f3], rfl, rfl, ⟨[.int .i64 x.f2], [.bool x.f3], rfl, rfl, rfl⟩⟩⟩
theorem k42_mkM (w : World) (base : Nat) (ok : Nat → Prop) (x : S42)  : k42.M w base ok x [.bool x.f0, .bool x.f1, .int .i64 x.f2, .bool x.f3] := ⟨[.bool x.f0], [.bool x.f1, .int .i64 x.f2, .bool x.f3], rfl, rfl, ⟨[.bool x.f1], [.int .i64 x.f2, .bool x.f3], rfl, rfl, ⟨[.int .i64 x.f2], [.bool x.f3], rfl, rfl, rfl⟩⟩⟩
def rd_T42 (xs : List S42) (i : Int) : S42 := xs.getD i.toNat z42
theorem at_T42 {w : World} {A : Option Addr} {n : Nat} {xs : List S42} (h : Kd.C k42 w A n xs) (i : Int) (h0 : 0 ≤ i) (h1 : i < n) : ∃ ad , A = some ad ∧ w.cell? (ad.add (i.toNat * 4)) = some (.bool (rd_T42 xs i).f0) ∧ w.cell? ⟨(ad.add (i.toNat * 4)).block, (ad.add (i.toNat * 4)).off + 1, none⟩ = some (.bool (rd_T42 xs i).f1) ∧ w.cell? ⟨(ad.add (i.toNat * 4)).block, (ad.add (i.toNat * 4)).off + 2, none⟩ = some (.int .i64 (rd_T42 xs i).f2) ∧ w.cell? ⟨(ad.add (i.toNat * 4)).block, (ad.add (i.toNat * 4)).off + 3, none⟩ = some (.bool (rd_T42 xs i).f3) := by
  obtain ⟨ad, c, e, _, hK, hc0⟩ := Kd.C_get h z42 i h0 h1
  have hc : ∀ j u, c[j]? = some u → w.cell? (ad.add (i.toNat * 4 + j)) = some u := hc0
  obtain rfl := k42_open hK
  exact ⟨ad, e, hc 0 _ rfl, by rw [← add_field _ _ 1 (by omega)]; exact hc 1 _ rfl, by rw [← add_field _ _ 2 (by omega)]; exact hc 2 _ rfl, by rw [← add_field _ _ 3 (by omega)]; exact hc 3 _ rfl⟩

/-! #### struct type 44 -/
structure S44 where
  f0 : Bool
  f1 : S42
  f2 : Int
def z44 : S44 := ⟨false, z42, (0 : Int)⟩
def k44 : Kd S44 := Kd.iso (Kd.pair Kd.bool (Kd.pair k42 (Kd.int .u8))) (fun x : S44 => (x.f0, x.f1, x.f2))
theorem k44_open {w : World} {x : S44} {cs : List Value} (h : k44.K w x cs) : cs = [.bool x.f0, .bool x.f1.f0, .bool x.f1.f1, .int .i64 x.f1.f2, .bool x.f1.f3, .int .u8 x.f2] := by
  obtain ⟨_, _, rfl, rfl, ⟨_, _, rfl, s1, rfl⟩⟩ := h
  obtain rfl := k42_open s1
  exact rfl
theorem k44_openM {w : World} {base : Nat} {ok : Nat → Prop} {x : S44} {cs : List Value} (h : k44.M w base ok x cs) : cs = [.bool x.f0, .bool x.f1.f0, .bool x.f1.f1, .int .i64 x.f1.f2, .bool x.f1.f3, .int .u8 x.f2] := by
  obtain ⟨_, _, rfl, rfl, ⟨_, _, rfl, s1, rfl⟩⟩ := h
  obtain rfl := k42_openM s1
  exact rfl
theorem k44_mk (w : World) (x : S44)  : k44.K w x [.bool x.f0, .bool x.f1.f0, .bool x.f1.f1, .int .i64 x.f1.f2, .bool x.f1.f3, .int .u8 x.f2] := ⟨[.bool x.f0], [.bool x.f1.f0, .bool x.f1.f1, .int .i64 x.f1.f2, .bool x.f1.f3, .int .u8 x.f2], rfl, rfl, ⟨[.bool x.f1.f0, .bool x.f1.f1, .int .i64 x.f1.f2, .bool x.f1.f3], [.int .u8 x.f2], rfl, (k42_mk w x.f1 ), rfl⟩⟩
theorem k44_mkM (w : World) (base : Nat) (ok : Nat → Prop) (x : S44)  : k44.M w base ok x [.bool x.f0, .bool x.f1.f0, .bool x.f1.f1, .int .i64 x.f1.f2, .bool x.f1.f3, .int .u8 x.f2] := ⟨[.bool x.f0], [.bool x.f1.f0, .bool x.f1.f1, .int .i64 x.f1.f2, .bool x.f1.f3, .int .u8 x.f2], rfl, rfl, ⟨[.bool x.f1.f0, .bool x.f1.f1, .int .i64 x.f1.f2, .bool x.f1.f3], [.int .u8 x.f2], rfl, (k42_mkM w base ok x.f1 ), rfl⟩⟩
def rd_T44 (xs : List S44) (i : Int) : S44 := xs.getD i.toNat z44
theorem at_T44 {w : World} {A : Option Addr} {n : Nat} {xs : List S44} (h : Kd.C k44 w A n xs) (i : Int) (h0 : 0 ≤ i) (h1 : i < n) : ∃ ad , A = some ad ∧ w.cell? (ad.add (i.toNat * 6)) = some (.bool (rd_T44 xs i).f0) ∧ w.cell? ⟨(ad.add (i.toNat * 6)).block, (ad.add (i.toNat * 6)).off + 1, none⟩ = some (.bool (rd_T44 xs i).f1.f0) ∧ w.cell? ⟨(ad.add (i.toNat * 6)).block, (ad.add (i.toNat * 6)).off + 2, none⟩ = some (.bool (rd_T44 xs i).f1.f1) ∧ w.cell? ⟨(ad.add (i.toNat * 6)).block, (ad.add (i.toNat * 6)).off + 3, none⟩ = some (.int .i64 (rd_T44 xs i).f1.f2) ∧ w.cell? ⟨(ad.add (i.toNat * 6)).block, (ad.add (i.toNat * 6)).off + 4, none⟩ = some (.bool (rd_T44 xs i).f1.f3) ∧ w.cell? ⟨(ad.add (i.toNat * 6)).block, (ad.add (i.toNat * 6)).off + 5, none⟩ = some (.int .u8 (rd_T44 xs i).f2) := by
  obtain ⟨ad, c, e, _, hK, hc0⟩ := Kd.C_get h z44 i h0 h1
  have hc : ∀ j u, c[j]? = some u → w.cell? (ad.add (i.toNat * 6 + j)) = some u := hc0
  obtain rfl := k44_open hK
  exact ⟨ad, e, hc 0 _ rfl, by rw [← add_field _ _ 1 (by omega)]; exact hc 1 _ rfl, by rw [← add_field _ _ 2 (by omega)]; exact hc 2 _ rfl, by rw [← add_field _ _ 3 (by omega)]; exact hc 3 _ rfl, by rw [← add_field _ _ 4 (by omega)]; exact hc 4 _ rfl, by rw [← add_field _ _ 5 (by omega)]; exact hc 5 _ rfl⟩

/-! #### struct type 61 -/
structure S61 where
  f0 : Bool
  f1 : Int
def z61 : S61 := ⟨false, (0 : Int)⟩
def k61 : Kd S61 := Kd.iso (Kd.pair Kd.bool (Kd.int .i64)) (fun x : S61 => (x.f0, x.f1))
theorem k61_open {w : World} {x : S61} {cs : List Value} (h : k61.K w x cs) : cs = [.bool x.f0, .int .i64 x.f1] := by
  obtain ⟨_, _, rfl, rfl, rfl⟩ := h
  exact rfl
theorem k61_openM {w : World} {base : Nat} {ok : Nat → Prop} {x : S61} {cs : List Value} (h : k61.M w base ok x cs) : cs = [.bool x.f0, .int .i64 x.f1] := by
  obtain ⟨_, _, rfl, rfl, rfl⟩ := h
  exact rfl
theorem k61_mk (w : World) (x : S61)  : k61.K w x [.bool x.f0, .int .i64 x.f1] := ⟨[.bool x.f0], [.int .i64 x.f1], rfl, rfl, rfl⟩
theorem k61_mkM (w : World) (base : Nat) (ok : Nat → Prop) (x : S61)  : k61.M w base ok x [.bool x.f0, .int .i64 x.f1] := ⟨[.bool x.f0], [.int .i64 x.f1], rfl, rfl, rfl⟩
def rd_T61 (xs : List S61) (i : Int) : S61 := xs.getD i.toNat z61
theorem at_T61 {w : World} {A : Option Addr} {n : Nat} {xs : List S61} (h : Kd.C k61 w A n xs) (i : Int) (h0 : 0 ≤ i) (h1 : i < n) : ∃ ad , A = some ad ∧ w.cell? (ad.add (i.toNat * 2)) = some (.bool (rd_T61 xs i).f0) ∧ w.cell? ⟨(ad.add (i.toNat * 2)).block, (ad.add (i.toNat * 2)).off + 1, none⟩ = some (.int .i64 (rd_T61 xs i).f1) := by
  obtain ⟨ad, c, e, _, hK, hc0⟩ := Kd.C_get h z61 i h0 h1
  have hc : ∀ j u, c[j]? = some u → w.cell? (ad.add (i.toNat * 2 + j)) = some u := hc0
  obtain rfl := k61_open hK
  exact ⟨ad, e, hc 0 _ rfl, by rw [← add_field _ _ 1 (by omega)]; exact hc 1 _ rfl⟩

end Go.Proofs.Ytabghncbdohciaa.YGridK

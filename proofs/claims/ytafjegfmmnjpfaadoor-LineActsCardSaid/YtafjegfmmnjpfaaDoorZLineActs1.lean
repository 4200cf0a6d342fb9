/- Proved: words and contracts for the law LineActs, part 1; conditions: the theorems' own premises. -/
import Derived.Test.YtafjegfmmnjpfaaDoorZLineActs0
import Derived.WalkSpells
import Derived.Lib.SliceRun
import Derived.RangeFuncBox
import Derived.RangeFuncLeaves
import Derived.RangeFuncFrom
import Derived.RangeFuncWrites
import Derived.RangeFuncCalls
import Derived.RangeFuncBound
import Derived.Shelf.Abstract
import Derived.OwnWalkIn
import Derived.TacticsInMore
import Derived.LoopNIn
import Derived.LoopIn
import Derived.RegionIn
section
-- Own text, made by this session out of the translation by wip/tools/xprint.sh: Lean functions with the answers of Go functions, and their walks.
namespace Go.Proofs.YtafjegfmmnjpfaaDoor.YLine
open Go.RowKit Go.Proofs.YtafjegfmmnjpfaaDoorW.PrintWords Go.Proofs.YtafjegfmmnjpfaaDoorW.PrintLast Go.Proofs.YtafjegfmmnjpfaaDoorW.PrintMore
attribute [local go_sem] max2_int min2_int max_two min_two max_three min_three max_four min_four   -- for this text's walks alone
set_option linter.unusedVariables false
set_option linter.unusedSimpArgs false
def errW : Option Int → Value
  | none => .nilIface
  | some c => .iface 67 (.int .i64 c)
theorem errW_none : errW none = .nilIface := rfl
theorem errW_some (c : Int) : errW (some c) = .iface 67 (.int .i64 c) := rfl
theorem info5 : (Tryd.prog.info? 5).map (fun i => (i.zero, i.size, i.bytes)) = some (some (.int .u8 0), 1, 1) := by kernel_rfl
theorem info37 : (Tryd.prog.info? 37).map (fun i => (i.zero, i.size, i.bytes)) = some (some (.agg #[(.int .i64 0), (.int .i64 0), (.bool false), (.slice none 0 0)]), 4, 48) := by kernel_rfl
-- the values' own types
def rd_L1 (xs : List (List Int)) (i : Int) : (List Int) := xs.getD i.toNat ([] : List Int)
theorem at_L1 {w : World} {A : Option Addr} {n : Nat} {xs : List (List Int)} (h : Kd.C (Kd.slice 5 (Kd.int .u8)) w A n xs) (i : Int) (h0 : 0 ≤ i) (h1 : i < n) : ∃ ad A0 c0, A = some ad ∧ w.cell? (ad.add i.toNat) = some (.slice A0 (rd_L1 xs i).length c0) ∧ (rd_L1 xs i).length ≤ c0 ∧ (Kd.int .u8).C w A0 (rd_L1 xs i).length (rd_L1 xs i) := by
  obtain ⟨ad, c, e, _, hK, hc0⟩ := Kd.C_get h ([] : List Int) i h0 h1
  have hc : ∀ j u, c[j]? = some u → w.cell? (ad.add (i.toNat * 1 + j)) = some u := hc0
  obtain ⟨A0, c0, rfl, l0, g0⟩ := hK
  exact ⟨ad, A0, c0, e, by have hq := hc 0 _ rfl; rwa [Nat.mul_one, Nat.add_zero] at hq, l0, g0⟩
structure S37 where
  f0 : Int
  f1 : Int
  f2 : Bool
  f3 : (List Int)
def z37 : S37 := ⟨(0 : Int), (0 : Int), false, ([] : List Int)⟩
def k37 : Kd S37 := Kd.iso (Kd.pair (Kd.int .i64) (Kd.pair (Kd.int .i64) (Kd.pair Kd.bool (Kd.slice 5 (Kd.int .u8))))) (fun x : S37 => (x.f0, x.f1, x.f2, x.f3))
theorem k37_open {w : World} {x : S37} {cs : List Value} (h : k37.K w x cs) : ∃ A3 c3, cs = [.int .i64 x.f0, .int .i64 x.f1, .bool x.f2, .slice A3 x.f3.length c3] ∧ x.f3.length ≤ c3 ∧ (Kd.int .u8).C w A3 x.f3.length x.f3 := by
  obtain ⟨_, _, rfl, rfl, ⟨_, _, rfl, rfl, ⟨_, _, rfl, rfl, ⟨A3, c3, rfl, l3, g3⟩⟩⟩⟩ := h
  exact ⟨A3, c3, rfl, l3, g3⟩
theorem k37_openM {w : World} {base : Nat} {ok : Nat → Prop} {x : S37} {cs : List Value} (h : k37.M w base ok x cs) : ∃ v3, cs = [.int .i64 x.f0, .int .i64 x.f1, .bool x.f2, v3] ∧ (Kd.int .u8).R 5 w base ok v3 x.f3 := by
  obtain ⟨_, _, rfl, rfl, ⟨_, _, rfl, rfl, ⟨_, _, rfl, rfl, ⟨v3, rfl, g3⟩⟩⟩⟩ := h
  exact ⟨v3, rfl, g3⟩
theorem k37_mk (w : World) (x : S37) {A3 : Option Addr} {c3 : Nat} (l3 : x.f3.length ≤ c3) (g3 : (Kd.int .u8).C w A3 x.f3.length x.f3) : k37.K w x [.int .i64 x.f0, .int .i64 x.f1, .bool x.f2, .slice A3 x.f3.length c3] := ⟨[.int .i64 x.f0], [.int .i64 x.f1, .bool x.f2, .slice A3 x.f3.length c3], rfl, rfl, ⟨[.int .i64 x.f1], [.bool x.f2, .slice A3 x.f3.length c3], rfl, rfl, ⟨[.bool x.f2], [.slice A3 x.f3.length c3], rfl, rfl, ⟨A3, c3, rfl, l3, g3⟩⟩⟩⟩
theorem k37_mkM (w : World) (base : Nat) (ok : Nat → Prop) (x : S37) {v3 : Value} (g3 : (Kd.int .u8).R 5 w base ok v3 x.f3) : k37.M w base ok x [.int .i64 x.f0, .int .i64 x.f1, .bool x.f2, v3] := ⟨[.int .i64 x.f0], [.int .i64 x.f1, .bool x.f2, v3], rfl, rfl, ⟨[.int .i64 x.f1], [.bool x.f2, v3], rfl, rfl, ⟨[.bool x.f2], [v3], rfl, rfl, ⟨v3, rfl, g3⟩⟩⟩⟩
def rd_T37 (xs : List S37) (i : Int) : S37 := xs.getD i.toNat z37
theorem at_T37 {w : World} {A : Option Addr} {n : Nat} {xs : List S37} (h : Kd.C k37 w A n xs) (i : Int) (h0 : 0 ≤ i) (h1 : i < n) : ∃ ad A3 c3, A = some ad ∧ w.cell? (ad.add (i.toNat * 4)) = some (.int .i64 (rd_T37 xs i).f0) ∧ w.cell? ⟨(ad.add (i.toNat * 4)).block, (ad.add (i.toNat * 4)).off + 1, none⟩ = some (.int .i64 (rd_T37 xs i).f1) ∧ w.cell? ⟨(ad.add (i.toNat * 4)).block, (ad.add (i.toNat * 4)).off + 2, none⟩ = some (.bool (rd_T37 xs i).f2) ∧ w.cell? ⟨(ad.add (i.toNat * 4)).block, (ad.add (i.toNat * 4)).off + 3, none⟩ = some (.slice A3 (rd_T37 xs i).f3.length c3) ∧ (rd_T37 xs i).f3.length ≤ c3 ∧ (Kd.int .u8).C w A3 (rd_T37 xs i).f3.length (rd_T37 xs i).f3 := by
  obtain ⟨ad, c, e, _, hK, hc0⟩ := Kd.C_get h z37 i h0 h1
  have hc : ∀ j u, c[j]? = some u → w.cell? (ad.add (i.toNat * 4 + j)) = some u := hc0
  obtain ⟨A3, c3, rfl, l3, g3⟩ := k37_open hK
  exact ⟨ad, A3, c3, e, hc 0 _ rfl, by rw [← add_field _ _ 1 (by omega)]; exact hc 1 _ rfl, by rw [← add_field _ _ 2 (by omega)]; exact hc 2 _ rfl, by rw [← add_field _ _ 3 (by omega)]; exact hc 3 _ rfl, l3, g3⟩
end Go.Proofs.YtafjegfmmnjpfaaDoor.YLine
end
section
-- Own text, made by this session out of the translation by wip/tools/xprint.sh: Lean functions with the answers of Go functions, and their walks.
namespace Go.Proofs.YtafjegfmmnjpfaaDoor.YLine
open Go.RowKit Go.Proofs.YtafjegfmmnjpfaaDoorW.PrintWords Go.Proofs.YtafjegfmmnjpfaaDoorW.PrintLast Go.Proofs.YtafjegfmmnjpfaaDoorW.PrintMore
attribute [local go_sem] max2_int min2_int max_two min_two max_three min_three max_four min_four   -- for this text's walks alone
set_option linter.unusedVariables false
set_option linter.unusedSimpArgs false

-- NOT PRINTED: function 10 (line_New)
def slices_Clone_byte_byte.f (l0 : List Int) : Option (List Int) := (some (([] : List Int) : List Int)).bind fun y101 => (if y101.length + l0.length < 140737488355328 then (some (y101 ++ l0)) else (none))
set_option maxHeartbeats 8000000 in
set_option maxRecDepth 100000 in
theorem slices_Clone_byte_byte.calls_some (A0 : Option Addr) (c0 : Nat) (l0 : List Int) (r : List Int) (w : World) (hA : A0.isNone = false) (hr0 : Kd.C (Kd.int .u8) w A0 l0.length l0) (hc0 : l0.length ≤ c0) (h : slices_Clone_byte_byte.f l0 = some r) :
  Calls Tryd.prog 31 #[.slice A0 l0.length c0] w fun e w' => ∃ v0_ : Value, e = .returned (v0_) ∧ Kd.R (Kd.int .u8) 5 w' w.heap.size (fun _ => True) v0_ r ∧ Below w.heap.size w w' := by
 have HR0 := Aside0.mk hr0
 have HC0 := Aside0.mk hc0
 clear hr0 hc0
 have HB := Aside0.mk (Below.refl w.heap.size w)
 have H : ((some (([] : List Int) : List Int)).bind fun y101 => (if y101.length + l0.length < 140737488355328 then (some (y101 ++ l0)) else (none))) = some r := h
 clear h
 obtain ⟨y101, hy101⟩ : ∃ y_ : List Int, y_ = (([] : List Int)) := ⟨_, rfl⟩
 replace H : (if y101.length + l0.length < 140737488355328 then (some (y101 ++ l0)) else (none)) = some r := by first | (rw [hy101]; with_reducible exact H) | (have H2_ := (Option.bind_some _ _).symm.trans H; rw [hy101]; with_reducible exact H2_) | (have H2_ := (Option.bind_some _ _).symm.trans H; with_reducible exact H2_) | with_reducible exact H | (rw [hy101]; exact H) | exact H
 have Ny101 := Aside0.mk hy101
 clear hy101
 by_cases c2 : y101.length + l0.length < 140737488355328
 ·rw [if_pos c2] at H
  have LMc2 := Aside0.mk c2
  clear c2
  obtain ⟨y104, hy104⟩ : ∃ y_ : List Int, y_ = (y101 ++ l0) := ⟨_, rfl⟩
  replace H : (some y104) = some r := by first | (rw [hy104]; with_reducible exact H) | (have H2_ := (Option.bind_some _ _).symm.trans H; rw [hy104]; with_reducible exact H2_) | (have H2_ := (Option.bind_some _ _).symm.trans H; with_reducible exact H2_) | with_reducible exact H | (rw [hy104]; exact H) | exact H
  have Ny104 := Aside0.mk hy104
  clear hy104
  obtain rfl := Option.some.inj H
  have hq := fun (W : World) => Lib.run_eql_slice_nil (P := Tryd.prog) W 32 5 A0 l0.length c0 0 0 Tryd.underlying32
  go_enter Tryd.func31, Tryd.ntmps31
  go_wp2_with (first | ((with_reducible refine gate_dst (N := 5) rfl ?_); refine Kd.R_lit (Kd.int .u8) _ 5 ?hg (N := 5) ?hd (xs := ([] : List Int)) (inner := []) (ok := fun _ => True) (okp := fun _ => True) ?hr ?hp (fun _ hk => hk) trivial (Below.refl _ _) (Nat.le_refl _) (by simp) ?_; (case hd => rfl); (case hg => rfl); (case hr => first | (go_simp; done) | (go_simp; rfl)); (case hp => exact (Reps.none _ _)); intro v102 w3 ho4 hb hg_ hnew_; clear hg_ hnew_; (first | rw [← Ny101.out] at ho4 | (simp only [Int.reduceToNat] at ho4; rw [← Ny101.out] at ho4)); have n0_ := Aside0.mk (Kd.R_lower ho4 (below_size (by repeat (first | (with_reducible first | exact HB.out | apply below_alloc | apply pw_below_drewN | apply below_drew1) | exact HB.out)))); have n1_ := Aside0.mk (below_step (by repeat (first | (with_reducible first | exact HB.out | apply below_alloc | apply pw_below_drewN | apply below_drew1) | exact HB.out)) hb); clear HB; have HO103 := n0_; have HB := n1_; clear n0_ n1_; clear hb ho4) | ((with_reducible refine gate_builtin (b := .append) (xs := #[.tmp 5, .tmp 6]) rfl ?_); at_builtin; refine Kd.R_append_rows (Kd.int .u8) (w0 := w) w.heap.size rfl (.tmp 5) (.tmp 6) 32 5 (.int .u8 0) 1 rfl Tryd.underlying32 info5 rfl (by decide) (by omega) v102 y101 l0 _ _ _ (fun _ => True) (fun _ => False) rfl rfl ?aO ?aR (fun _ _ h => h) (fun _ h => h.elim) ?aF ?aB ?aS ?aL ?_; (case aR => repeat (first | exact (Kd.C_below HR0.out HB.out) | (with_reducible refine Kd.C_alloc ?_ _) | (with_reducible refine Kd.C_drewN ?_ _) | (with_reducible refine Kd.C_drew ?_))); (case aB => exact (by repeat (first | (with_reducible first | exact HB.out | apply below_alloc | apply pw_below_drewN | apply below_drew1) | exact HB.out))); (case aF => exact (fun _ _ => trivial)); (case aO => exact (by (with_reducible repeat (first | apply Kd.R_alloc | apply Kd.R_drewN | apply Kd.R_drew)); exact HO103.out)); (case aS => exact (below_size (by repeat (first | (with_reducible first | exact HB.out | apply below_alloc | apply pw_below_drewN | apply below_drew1) | exact HB.out)))); (case aL => have := LMc2.out; omega); intro v105 w5 ho hb hg hat; rw [← Ny104.out] at ho; have n0_ := Aside0.mk (hb); have n1_ := Aside0.mk (ho); clear HB; clear HO103; have HB := n0_; have HO106 := n1_; clear n0_ n1_; clear ho hb hg hat))
  go_ret
  exact ⟨_, by first | rfl | (simp [errW_none, errW_some] <;> rfl) | (simp [*, errW_none, errW_some] <;> rfl), by (with_reducible repeat (first | apply Kd.R_alloc | apply Kd.R_drewN | apply Kd.R_drew)); exact HO106.out, by repeat (first | (with_reducible first | exact HB.out | apply below_alloc | apply pw_below_drewN | apply below_drew1) | exact HB.out)⟩
 ·rw [if_neg c2] at H
  exact absurd H (by simp)
theorem slices_Clone_byte_byte.calls (A0 : Option Addr) (c0 : Nat) (l0 : List Int) (r : List Int) (w : World) (hr0 : Kd.C (Kd.int .u8) w A0 l0.length l0) (hc0 : l0.length ≤ c0) (h : slices_Clone_byte_byte.f l0 = some r) :
  Calls Tryd.prog 31 #[.slice A0 l0.length c0] w fun e w' => ∃ v0_ : Value, e = .returned (v0_) ∧ Kd.R (Kd.int .u8) 5 w' w.heap.size (fun _ => True) v0_ r ∧ Below w.heap.size w w' := by
 rcases hA : A0.isNone with _ | _
 ·exact slices_Clone_byte_byte.calls_some A0 c0 l0 r w hA hr0 hc0 h
 ·have e0 : A0 = none := by cases A0 with | none => rfl | some a => cases hA
  subst e0
  have e1 : l0 = [] := by
   rcases l0 with _ | ⟨x, xs⟩
   ·rfl
   ·obtain ⟨ad, hh, _⟩ := hr0.2.2 (by simp)
    cases hh
  subst e1
  have e2 : r = [] := by
   have h2 := h
   simp [slices_Clone_byte_byte.f] at h2
   first | exact h2 | exact h2.symm
  subst e2
  have hq := fun (W : World) (m c : Nat) => Lib.run_eql_slice_nil (P := Tryd.prog) W 32 5 none m c 0 0 Tryd.underlying32
  clear h hr0
  go_enter Tryd.func31, Tryd.ntmps31
  go_wp2
  go_ret
  exact ⟨_, rfl, Kd.R_nil _ _ _ _ _, Below.refl _ _⟩

-- NOT PRINTED: function 50 (slices_Chunk_byte_byte_1)

-- NOT PRINTED: function 38 (slices_Chunk_byte_byte)
section
open Go.Shelf
attribute [local go_sem] Oper.semAt_some
namespace Chunk
/-- What has come behind k rounds. -/
def upto (k : Nat) : List Nat := List.range k
/-- What a round must keep: the two variables that the iterator reads. -/
def Kp (Bs Bn : Nat) (W W' : World) : Prop := W'.heap[Bs]? = W.heap[Bs]? ∧ W'.heap[Bn]? = W.heap[Bn]?
def size (L j : Nat) : Nat := min 64 (L - 64 * j)
def part (ad : Addr) (L j : Nat) : Value := .slice (some (ad.add (64 * j))) (size L j) (size L j)
theorem size_int (L k : Nat) (h : 64 * k < L) : (if ((L - 64 * k : Nat) : Int) < 64 then ((L - 64 * k : Nat) : Int) else 64) = (size L k : Int) := by
  unfold size
  split <;> omega
set_option maxRecDepth 100000 in
set_option maxHeartbeats 4000000 in
theorem chunk1_in (F : Fence) (n : Nat) (h30 : F.fn 50) (hro : F.round = none) (hn : 1 ≤ n) (l Bs Bn L c : Nat) (ad : Addr) (hL : 0 < L) (hLc : L ≤ c) (hreach : L ≤ 140737488351232) (J Jx : List Nat → World → Prop) (hJ : ∀ s W, J s W → J s W.drew)
    (hY : ∀ pre x W, J pre W → pre.length < (L + 63) / 64 → YieldAt F (n - 1) Tryd.prog l #[part ad L x] W fun e W' =>
      (e = .returned (.bool true) ∧ J (pre ++ [x]) W' ∧ Kp Bs Bn W W') ∨ (e = .returned (.bool false) ∧ Jx (pre ++ [x]) W'))
    (W : World) (hBs : W.cell? ⟨Bs, 0, none⟩ = some (.slice (some ad) L c)) (hBn : W.cell? ⟨Bn, 0, none⟩ = some (.int .i64 64)) (h0 : J [] W) :
    CallsIn F n Tryd.prog 50 #[.func (.yield l) #[] #[], .pointer (some ⟨Bs, 0, none⟩), .pointer (some ⟨Bn, 0, none⟩)] W fun e W' => (∃ v, e = .returned v) ∧
      ((∃ ys, ys = List.range ((L + 63) / 64) ∧ J ys W') ∨ (∃ pre, True ∧ Jx pre W')) := by
  refine callsIn_of_wp Tryd.func50 rfl h30 ?_ hro
  simp only [Tryd.ntmps50, List.size_toArray, List.length_cons, List.length_nil, Nat.reduceAdd, Nat.reduceSub, Array.replicate_succ, Array.replicate_zero, List.push_toArray, List.append_toArray, List.nil_append, List.cons_append]
  gi_wp2
  gi_loopw [4, 5] (fun i _ wr => ∃ k : Nat, k ≤ (L + 63) / 64 ∧ i = .int .i64 (64 * (k : Int)) ∧ J (List.range k) wr ∧ Kp Bs Bn W wr)
    (fun i _ _ => 64 * L + 64 - (intOf i).toNat)
  case atStart => exact ⟨0, Nat.zero_le _, rfl, h0, rfl, rfl⟩
  case round =>
    obtain ⟨k, hk, rfl, hJs, hnx⟩ := hrel
    have hcs : wr.cell? ⟨Bs, 0, none⟩ = some (.slice (some ad) L c) := (World.cell?_of_block hnx.1).trans hBs
    have hcn : wr.cell? ⟨Bn, 0, none⟩ = some (.int .i64 64) := (World.cell?_of_block hnx.2).trans hBn
    by_cases hlt : 64 * k < L
    · have hd : decide (64 * (k : Int) < (L : Int)) = true := decide_eq_true (by omega)
      have f1 : 0 ≤ 64 * (k : Int) := by omega
      have f2 : 64 * (k : Int) ≤ (L : Int) := by omega
      have f3 := Aside0.mk (show ¬ c = 64 * k by omega)
      have hto := Lib.hid (show (64 * (k : Int)).toNat = 64 * k by omega)
      have hmin := Lib.hid (size_int L k hlt)
      have g0 : (0 : Int) ≤ (size L k : Int) := by omega
      have g1 : 64 * (k : Int) ≤ 64 * (k : Int) + (size L k : Int) := by omega
      have g2 : 64 * (k : Int) + (size L k : Int) ≤ (c : Int) := by unfold size; omega
      have g3 : 64 * (k : Int) + (size L k : Int) ≤ 140737488351232 := by unfold size; omega
      have g4 : 64 * (k : Int) ≤ (c : Int) := by omega
      have g5 : ¬ size L k = 0 := by unfold size; omega
      obtain ⟨fn, tmps, assign, body, hy, hR⟩ := hY _ k wr.drew (hJ _ _ hJs) (by rw [List.length_range]; omega)
      unfold part at hy
      gi_wp2
      gi_region
      all_goals (simp only [hto.out, if_neg f3.out, hmin.out])
      all_goals gi_wp2
      all_goals
        refine hR.mono ?_
        rintro e W3 (⟨rfl, hJ3, hk3⟩ | ⟨rfl, hJx3⟩)
        · have hcn3 : W3.cell? ⟨Bn, 0, none⟩ = some (.int .i64 64) := (World.cell?_of_block hk3.2).trans (by simpa using hcn)
          gi_wp2
          go_roundw
          case rel => exact ⟨k + 1, by omega, by go_num, by rw [List.range_succ]; exact hJ3, hk3.1.trans hnx.1, hk3.2.trans hnx.2⟩
          case measure => simp [intOf]; omega
        · gi_wp2
          refine bodyPost_ret (results_none rfl _ _ _) rfl ?_
          exact ⟨⟨_, rfl⟩, .inr ⟨_, trivial, hJx3⟩⟩
    · obtain rfl : k = (L + 63) / 64 := by omega
      have hd : decide (64 * (((L + 63) / 64 : Nat) : Int) < (L : Int)) = false := decide_eq_false (by omega)
      gi_wp2
      go_end0
      exact ⟨⟨_, rfl⟩, .inl ⟨_, rfl, hJs⟩⟩
section
variable {P : Program} {ops : Array Oper} {Q : Exit → Act → World → Prop} {md : Region.Mode}
/-- In a round of a loop, at the wide fence, an operation goes as1 everywhere. -/
theorem oper_in {l n : Nat} {o : Oper} {a : Act} {w : World} {K : Act → World → Prop} (hd : ∀ c, o.op ≠ .defer c) (h : o.wp P a w K Q) : o.wpIn (Fence.wide.inRound l) n P a w K Q := by
  refine ⟨fun f _ => trivial, ?_⟩
  rw [Fence.inRound_round, Oper.semAt_some l _ _ hd]
  unfold Oper.wp at h
  generalize (execOp a.eval o).run P w = r at *
  cases r with
  | ok x w' =>
    cases x with
    | enter f args =>
      refine ⟨(fun hh => absurd hh (by simp [Fence.inRound, Fence.wide])), CallsIn.inRound l (callsIn_wide.2 (Calls.mono h ?_))⟩
      intro e w2 he
      cases e <;> exact he
    | row r args => exact ⟨(fun hh => absurd hh (by simp [Fence.inRound, Fence.wide])), (fun c cs _ => let ⟨v, w', r, s⟩ := h c cs; ⟨v, w', r, stepsIn_wide.2 s⟩)⟩
    | _ => first | exact h | exact h.elim
  | halt x w' => cases x <;> simp only [Oper.upon, Oper.uponIn] at h ⊢ <;> exact h
theorem any_in {l n : Nat} (hd : ∀ (i : Nat) (o : Oper), ops[i]? = some o → ∀ c, o.op ≠ .defer c) (hQ : ¬ LetsOut Q) : ∀ (fuel : Nat) (listed : Array Bool) (a : Act) (w : World), wpAny P md ops Q fuel listed a w → wpAnyIn (Fence.wide.inRound l) n P md ops Q fuel listed a w
  | 0, _, _, _, h => h
  | fuel + 1, listed, a, w, h => by
    refine ⟨h.1, fun i hi => ?_⟩
    have h1 := h.2 i hi
    unfold wpOp at h1
    unfold wpOpIn
    cases ho : ops[i]? with
    | none => simp only [ho] at h1 ⊢; exact any_in hd hQ fuel _ _ _ h1
    | some o =>
      simp only [ho] at h1 ⊢
      split
      · rename_i hw
        rw [if_pos hw] at h1
        rcases h1 with h1 | h1
        · exact oper_in (hd i o ho) (Oper.wp_mono (fun a' w' => any_in hd hQ fuel _ a' w') h1)
        · exact absurd h1.2 hQ
      · rename_i hw
        rw [if_neg hw] at h1
        exact ⟨fun f _ => trivial, any_in hd hQ fuel _ _ _ h1⟩
end
set_option maxHeartbeats 1000000 in
theorem chunk_in (n : Nat) (A : Option Addr) (L c : Nat) (w : World) :
    CallsIn Fence.wide n Tryd.prog 38 #[.slice A L c, .int .i64 64] w fun e w' => e = .returned (.func (.func 50) #[] #[.pointer (some ⟨w.heap.size, 0, none⟩), .pointer (some ⟨w.heap.size + 1, 0, none⟩)]) ∧ w' = (w.alloc (.cells #[.slice A L c] 32)).alloc (.cells #[.int .i64 64] 3) := by
  refine callsIn_of_wp Tryd.func38 rfl trivial ?_ rfl
  simp only [Tryd.ntmps38, List.size_toArray, List.length_cons, List.length_nil, Nat.reduceAdd, Nat.reduceSub, Array.replicate_succ, Array.replicate_zero, List.push_toArray, List.append_toArray, List.nil_append, List.cons_append]
  gi_wp2
  go_ret
  exact ⟨rfl, rfl⟩
theorem chunk_stops (n : Nat) (hn : 1 ≤ n) (Bs Bn L c : Nat) (ad : Addr) (hL : 0 < L) (hLc : L ≤ c) (hreach : L ≤ 140737488351232) (w : World) (hb : Bs < w.heap.size) (hb2 : Bn < w.heap.size) (hBs : w.cell? ⟨Bs, 0, none⟩ = some (.slice (some ad) L c)) (hBn : w.cell? ⟨Bn, 0, none⟩ = some (.int .i64 64)) :
    SeqStopsK Fence.wide n Tryd.prog 50 #[.pointer (some ⟨Bs, 0, none⟩), .pointer (some ⟨Bn, 0, none⟩)] (fun j : Nat => #[part ad L j]) (Kp Bs Bn) (fun ys => ys = List.range ((L + 63) / 64)) (fun _ => True) ((L + 63) / 64) w := fun l J Jx W hW hJ _ hY h0 => by
  refine (chunk1_in Fence.wide n trivial rfl hn l Bs Bn L c ad hL hLc hreach J Jx (fun s W' h => hJ s W' W'.drew none h ⟨rfl, rfl, rfl, Nat.le_refl _, fun k hk _ => rfl⟩ (fun r e => by cases e)) hY W ((hW.cell (p := ⟨Bs, 0, none⟩) hb).trans hBs) ((hW.cell (p := ⟨Bn, 0, none⟩) hb2).trans hBn) h0).mono ?_
  rintro e W' ⟨he, ⟨ys, hy, hj⟩ | ⟨pre, _, hj⟩⟩
  · exact ⟨he, .inl ⟨ys, hy, hj⟩⟩
  · exact ⟨he, .inr ⟨pre, trivial, hj⟩⟩
theorem kp_t {Bs Bn : Nat} {A B C : World} (h : Kp Bs Bn A B) (k : Kp Bs Bn B C) : Kp Bs Bn A C := ⟨k.1.trans h.1, k.2.trans h.2⟩
theorem kp_b {Bs Bn : Nat} {w : World} (h1 : Bs < w.heap.size) (h2 : Bn < w.heap.size) (W : World) (l : Nat) (o o' : Obj) (hl : w.heap.size ≤ l) (h : W.heap[l]? = some o) (_ : o.isCells = false) (_ : o.isWalk = false) : Kp Bs Bn W (W.putObj l o') :=
  ⟨World.putObj_heap_other (by omega), World.putObj_heap_other (by omega)⟩
def chunk (l0 : List Int) (j : Nat) : List Int := (l0.drop (64 * j)).take 64
theorem chunk_length (l0 : List Int) (j : Nat) : (chunk l0 j).length = size l0.length j := by
  unfold chunk size; rw [List.length_take, List.length_drop]
def piece (l0 : List Int) (e : Nat × Nat) : S37 := ⟨0, (e.2 : Int) + 1, false, chunk l0 e.1⟩
def packs (l0 : List Int) (pre : List Nat) : List S37 := pre.zipIdx.map (piece l0)
/-- The pieces of a message that may be. -/
def cutL (l0 : List Int) : List S37 := (List.range ((l0.length + 63) / 64)).map fun (j : Nat) => (⟨0, (j : Int) + 1, decide (j + 1 = (l0.length + 63) / 64), chunk l0 j⟩ : S37)
theorem packs_length (l0 : List Int) (pre : List Nat) : (packs l0 pre).length = pre.length := by unfold packs; rw [List.length_map, List.length_zipIdx]
theorem packs_snoc (l0 : List Int) (pre : List Nat) (x : Nat) : packs l0 (pre ++ [x]) = packs l0 pre ++ [⟨0, ((packs l0 pre).length : Int) + 1, false, chunk l0 x⟩] := by
  rw [packs_length]; unfold packs; rw [List.zipIdx_append, List.map_append]; simp [piece]
theorem chunk_C {w : World} {ad : Addr} {l0 : List Int} (h : Kd.C (Kd.int .u8) w (some ad) l0.length l0) (j : Nat) : Kd.C (Kd.int .u8) w (some (ad.add (64 * j))) (chunk l0 j).length (chunk l0 j) := by
  obtain ⟨h1, h2, h3⟩ := h
  have hl := chunk_length l0 j
  have hle : size l0.length j ≤ l0.length := by unfold size; omega
  refine ⟨rfl, by omega, fun hp => ⟨_, rfl, fun i p hi => ?_⟩⟩
  have hpos : 0 < l0.length := by omega
  obtain ⟨ad', e, hc⟩ := h3 hpos
  cases e
  have hi2 : l0[64 * j + i]? = some p := by
    unfold chunk at hi
    rw [List.getElem?_take] at hi
    split at hi
    · rw [List.getElem?_drop] at hi; exact hi
    · cases hi
  obtain ⟨c, hcl, hr, hcc⟩ := hc _ _ hi2
  refine ⟨c, hcl, hr, fun t u hu => ?_⟩
  have := hcc t u hu
  rw [add_add]
  rw [show 64 * j + (i * (Kd.int .u8).sz + t) = (64 * j + i) * (Kd.int .u8).sz + t by show 64 * j + (i * 1 + t) = (64 * j + i) * 1 + t; omega]
  exact this
theorem keeps_below {W W' : World} (h : Below W.heap.size W W') : KeepsOthers W W' := ⟨h.size, fun k o hk _ => (h.block k (Array.getElem?_eq_some_iff.1 hk).1).trans hk⟩
theorem zipIdx_set {α : Type} (xs : List α) (i : Nat) (x : α) : xs.zipIdx.set i (x, i) = (xs.set i x).zipIdx := by
  apply List.ext_getElem?
  intro j
  rw [List.getElem?_set, List.getElem?_zipIdx, List.getElem?_zipIdx, List.getElem?_set, List.length_zipIdx]
  by_cases h : i = j
  · subst h
    by_cases h2 : i < xs.length
    · simp [h2]
    · simp [h2]
  · simp [h]
theorem cutL_eq (l0 : List Int) (n : Nat) (hn : n + 1 = (l0.length + 63) / 64) : (packs l0 (List.range (n + 1))).set n ⟨0, (n : Int) + 1, true, chunk l0 n⟩ = cutL l0 := by
  unfold cutL packs
  rw [← hn]
  apply List.ext_getElem?
  intro j
  by_cases hj : j < n + 1
  · by_cases h : n = j
    · subst h
      rw [List.getElem?_set_self (by simp), List.getElem?_map, List.getElem?_range hj]; simp
    · rw [List.getElem?_set_ne h, List.getElem?_map, List.getElem?_zipIdx, List.getElem?_map, List.getElem?_range hj]
      simp [piece]; omega
  · rw [List.getElem?_eq_none (by simp <;> omega), List.getElem?_eq_none (by simp <;> omega)]
def noDefer (ops : Array Oper) : Bool := ops.all fun o => match o.op with | .defer _ => false | _ => true
theorem noDefer_spec {ops : Array Oper} (h : noDefer ops = true) : ∀ (i : Nat) (o : Oper), ops[i]? = some o → ∀ c, o.op ≠ .defer c := by
  intro i o ho c hc
  have := Array.all_eq_true_iff_forall_mem.1 h o (Array.mem_of_getElem? ho)
  rw [hc] at this
  cases this
theorem clone_f {l : List Int} (h : l.length ≤ 8192) : slices_Clone_byte_byte.f l = some l := by
  unfold slices_Clone_byte_byte.f
  simp only [Option.bind_some, List.length_nil, List.nil_append]
  rw [if_pos (by omega)]
/-- What the loop's box and the row in it are. -/
def Inv (l0 : List Int) (w : World) (B base Y : Nat) (pre : List Nat) (W : World) : Prop :=
  (∃ v, Boxed W B 28 v ∧ Kd.S k37 37 W Y (fun _ => True) v (packs l0 pre)) ∧ Below base w W ∧ Y ≤ W.heap.size
theorem inv_own (l0 : List Int) (w : World) (B base Y Z : Nat) (hb : base ≤ w.heap.size) (hY : base ≤ Z) : OwnFrom Z (Inv l0 w B base Y) := by
  rintro pre X Z row ⟨⟨v, hv, hS⟩, hB, hZ⟩ hg hr
  refine ⟨⟨v, hv.kept hg (fun e => ?_), Kd.S_mono (Kd.S_step (Kd.S_bound hS) (fun k hk hlt => hg.block k hlt (fun e => ?_))) (fun _ _ => trivial)⟩, hB.grown hg (Nat.le_trans hb hB.size) (fun k e => Nat.le_trans hY (hr k e).1), Nat.le_trans hZ hg.size⟩
  · obtain ⟨_, o, ho, hc⟩ := hr B e.symm
    rw [show X.heap[B]? = _ from hv] at ho; cases ho; cases hc
  · obtain ⟨_, _, _, q, _, cells, hc⟩ := hk
    obtain ⟨_, o, ho, hn⟩ := hr k e.symm
    rw [hc] at ho; cases ho; cases hn
set_option maxRecDepth 100000 in
set_option maxHeartbeats 8000000 in
theorem cut_good (ad : Addr) (c : Nat) (l0 : List Int) (w : World) (hr0 : Kd.C (Kd.int .u8) w (some ad) l0.length l0) (hc0 : l0.length ≤ c) (h1 : 0 < l0.length) (h2 : l0.length ≤ 8192) :
    CallsIn Fence.wide 5 Tryd.prog 25 #[.slice (some ad) l0.length c] w fun e w' => ∃ v0_ : Value, e = .returned (.tuple #[v0_, .nilIface]) ∧ Kd.S k37 37 w' w.heap.size (fun _ => True) v0_ (cutL l0) ∧ Below w.heap.size w w' := by
  have k1 : ((l0.length : Int) == 0) = false := beq_eq_false_iff_ne.2 (by omega)
  have k2 : decide (8192 < (l0.length : Int)) = false := decide_eq_false (by omega)
  have H1 := Aside0.mk h1
  have H2 := Aside0.mk h2
  clear h1 h2
  refine callsIn_of_wp_marks Tryd.func25 rfl trivial ?_ rfl
  simp only [Tryd.ntmps25, List.size_toArray, List.length_cons, List.length_nil, Nat.reduceAdd, Nat.reduceSub, Array.replicate_succ, Array.replicate_zero, List.push_toArray, List.append_toArray, List.nil_append, List.cons_append]
  gi_wp2_with (refine ⟨trivial, ?_⟩; gi_at_call 38; refine (chunk_in _ _ _ _ _).mono ?_; rintro e w' ⟨rfl, rfl⟩)
  have hs : ((w.alloc (.cells #[.slice none 0 0] 28)).alloc (.cells #[.slice (some ad) l0.length c] 32)).cell? ⟨w.heap.size + 1, 0, none⟩ = some (.slice (some ad) l0.length c) := by
    have := (Boxed.new (w.alloc (.cells #[.slice none 0 0] 28)) 32 (.slice (some ad) l0.length c)).cell
    rwa [World.size_alloc] at this
  have hs2 : (((w.alloc (.cells #[.slice none 0 0] 28)).alloc (.cells #[.slice (some ad) l0.length c] 32)).alloc (.cells #[.int .i64 64] 3)).cell? ⟨w.heap.size + 1, 0, none⟩ = some (.slice (some ad) l0.length c) := by
    rw [World.cell?_alloc_lt _ _ _ (by simp)]; exact hs
  have hn : (((w.alloc (.cells #[.slice none 0 0] 28)).alloc (.cells #[.slice (some ad) l0.length c] 32)).alloc (.cells #[.int .i64 64] 3)).cell? ⟨w.heap.size + 1 + 1, 0, none⟩ = some (.int .i64 64) := by
    have := (Boxed.new ((w.alloc (.cells #[.slice none 0 0] 28)).alloc (.cells #[.slice (some ad) l0.length c] 32)) 3 (.int .i64 64)).cell
    rwa [World.size_alloc, World.size_alloc] at this
  have hstops := chunk_stops 4 (by omega) (w.heap.size + 1) (w.heap.size + 1 + 1) l0.length c ad H1.out hc0 (by have := H2.out; omega) (((w.alloc (.cells #[.slice none 0 0] 28)).alloc (.cells #[.slice (some ad) l0.length c] 32)).alloc (.cells #[.int .i64 64] 3)) (by simp <;> omega) (by simp) hs2 hn
  clear hs hs2 hn
  refine wpIn_rangeFunc_ownF rfl (by omega) (gf := 50) (lb := #[.pointer (some ⟨w.heap.size + 1, 0, none⟩), .pointer (some ⟨w.heap.size + 1 + 1, 0, none⟩)]) rfl trivial (enters_of Tryd.func50 (by kernel_rfl) rfl)
    hstops kp_t (kp_b (by simp <;> omega) (by simp)) (Below.refl _ _) (fun _ => rfl)
    (Inv l0 w w.heap.size w.heap.size (w.heap.size + 3)) (fun _ _ _ => False) (inv_own l0 w _ _ _ _ (Nat.le_refl _) (by simp <;> omega)) (fun _ _ _ _ _ hs _ _ => hs)
    ?start (fun x => { tmps := #[.slice (some ad) l0.length c, undef, .slice none 0 0, .nilIface, .pointer (some ⟨w.heap.size, 0, none⟩), part ad l0.length x, .bool false, .slice (some ad) l0.length c, .int .i64 l0.length, .bool false, undef, .bool false, .slice (some ad) l0.length c, .int .i64 l0.length, .bool false, undef, .slice (some ad) l0.length c, .func (.func 50) #[] #[.pointer (some ⟨w.heap.size + 1, 0, none⟩), .pointer (some ⟨w.heap.size + 1 + 1, 0, none⟩)], part ad l0.length x, undef, undef, undef, undef, undef, undef, undef, undef, undef, undef, undef, undef, undef, undef, undef, undef], defers := [] }) ?assign ?body ?done ?stop
  case start => exact ⟨⟨_, ((Boxed.new w 28 (.slice none 0 0)).alloc _).alloc _, Kd.S_nil _ _ _ _ _⟩, (((Below.refl _ _).alloc (Nat.le_refl _) _).alloc (by simp) _).alloc (by simp <;> omega) _, by simp⟩
  case assign =>
    intro l x W K hK
    gi_wp2
    exact hK
  case stop =>
    rintro D c pre W _ _ h _
    exact h.elim
  case body =>
    rintro l pre x W ⟨⟨v, hbx, hS⟩, hB, hZ⟩ hlen
    gi_wp2
    refine wpIn_region_any (by kernel_rfl) ?_
    refine any_in (noDefer_spec (by kernel_rfl)) (by rintro ⟨a, w, h⟩; exact h) _ _ _ _ ?_
    obtain ⟨Ao, co, rfl⟩ := Kd.S_slice hS
    have hlen' := packs_length l0 pre
    have hnl := Aside0.mk (show (packs l0 pre).length ≤ 128 by have := H2.out; omega)
    obtain ⟨xs, hxs⟩ : ∃ xs, packs l0 pre = xs := ⟨_, rfl⟩
    have hx0 : (0 : Int) ≤ (xs.length : Int) := by omega
    have hx1 : (xs.length : Int) ≤ 128 := by have := hnl.out; rw [hxs] at this; omega
    have hw1 := Aside0.mk (show wrap64 ((xs.length : Int) + 1) = (xs.length : Int) + 1 by unfold wrap64; omega)
    have hsn := Lib.hid (packs_snoc l0 pre x)
    rw [hxs] at hS hnl hsn hbx
    clear hlen hlen'
    refine wpAny_of_last (S := fun w' => w'.cell? ⟨w.heap.size, 0, none⟩ = some (.slice Ao xs.length co)) (ds := [9]) _ _ _ _ ?_
    change wpAnyLast _ .any _ _ _ _ 10 #[false, false, false, false, false, false, false, false, false, false] _ W.drew
    refine with_tabW (T := rtab .any (opsOf Tryd.f25 8)) (B := [0, 0, 2, 6, 0, 16, 62, 126, 255, 511]) (by kernel_rfl) (by kernel_rfl) (fun HT_ HW_ => ?_)
    have HBX : Aside0 (Boxed W.drew w.heap.size 28 (.slice Ao xs.length co)) := ⟨hbx⟩
    have HS := Aside0.mk (Kd.S_drew hS)
    have HB := Aside0.mk (hB.drew)
    have HKO := Aside0.mk (KeepsOthers.drew W)
    have HZ := Aside0.mk (show w.heap.size + 3 ≤ W.drew.heap.size from hZ)
    have HKP := Aside0.mk (show Kp (w.heap.size + 1) (w.heap.size + 1 + 1) W W.drew from ⟨rfl, rfl⟩)
    have hHeld : W.drew.cell? ⟨w.heap.size, 0, none⟩ = some (.slice Ao xs.length co) := HBX.out.cell
    have HC := Aside0.mk (chunk_C (Kd.C_below hr0 HB.out) x)
    have HSZ := Aside0.mk (chunk_length l0 x)
    have hpart : part ad l0.length x = .slice (some (ad.add (64 * x))) (chunk l0 x).length (chunk l0 x).length := by unfold part; rw [chunk_length]
    rw [hpart]
    clear hS hbx hB hpart hZ
    generalize W.drew = W1 at HBX HS HB HKO HZ HKP hHeld HC ⊢
    refine take_ (i := 0) (N := some 19) (v := ?_) (a' := ?_) #[true, false, false, false, false, false, false, false, false, false] rfl rfl (take_ofW HT_.out HW_.out (by kernel_rfl)) (fun _ _ _ h => h) (Or.inl ⟨by rfl, ?_⟩) hHeld ?_ ?_
    rotate_left
    · intro w' s0
      go_simp
      with_reducible rfl
    rotate_left
    · simp only [Act.put, List.setIfInBounds_toArray, List.set_cons_zero, List.set_cons_succ, i64_w, i32_w]
      rfl
    refine take_ (i := 1) (N := some 20) (v := ?_) (a' := ?_) #[true, true, false, false, false, false, false, false, false, false] rfl rfl (take_ofW HT_.out HW_.out (by kernel_rfl)) (fun _ _ _ h => h) (Or.inl ⟨by rfl, ?_⟩) hHeld ?_ ?_
    rotate_left
    · intro w' s0
      go_simp
      with_reducible rfl
    rotate_left
    · simp only [Act.put, List.setIfInBounds_toArray, List.set_cons_zero, List.set_cons_succ, i64_w, i32_w]
      rfl
    refine pure_ (i := 2) (N := some 21) (v := ?_) (a' := ?_) #[true, true, true, false, false, false, false, false, false, false] rfl rfl (any_of HT_.out (by kernel_rfl)) (fun _ _ _ h => h) (Or.inl ⟨by rfl, ?_⟩) ?_ ?_
    rotate_left
    · intro w'
      go_simp
      with_reducible rfl
    rotate_left
    · simp only [Act.put, List.setIfInBounds_toArray, List.set_cons_zero, List.set_cons_succ, i64_w, i32_w]
      rfl
    refine pure_ (i := 3) (N := some 22) (v := ?_) (a' := ?_) #[true, true, true, true, false, false, false, false, false, false] rfl rfl (any_of HT_.out (by kernel_rfl)) (fun _ _ _ h => h) (Or.inl ⟨by rfl, ?_⟩) ?_ ?_
    rotate_left
    · intro w'
      go_simp
      with_reducible rfl
    rotate_left
    · simp only [Act.put, List.setIfInBounds_toArray, List.set_cons_zero, List.set_cons_succ, i64_w, i32_w, hw1.out]
      rfl
    refine pure_ (i := 4) (N := some 23) (v := ?_) (a' := ?_) #[true, true, true, true, true, false, false, false, false, false] rfl rfl (any_of HT_.out (by kernel_rfl)) (fun _ _ _ h => h) (Or.inl ⟨by rfl, ?_⟩) ?_ ?_
    rotate_left
    · intro w'
      go_simp
      with_reducible rfl
    rotate_left
    · simp only [Act.put, List.setIfInBounds_toArray, List.set_cons_zero, List.set_cons_succ, i64_w, i32_w]
      rfl
    refine one_ (i := 5) (N := some 24) #[true, true, true, true, true, true, false, false, false, false] rfl rfl (one_of HT_.out (by kernel_rfl)) (by decide) (fun K hK => ?_)
    refine goes_ Tryd.func31 (by kernel_rfl) rfl #[.slice (some (ad.add (64 * x))) (chunk l0 x).length (chunk l0 x).length] (by rfl) rfl rfl (by (try simp only [List.map_toArray, List.map_cons, List.map_nil]); first | done | rfl) ?_
    refine (slices_Clone_byte_byte.calls _ _ (chunk l0 x) (chunk l0 x) _ HC.out (Nat.le_refl _) (clone_f (by have := HSZ.out; unfold size at this; omega))).mono ?_
    rintro e w6 ⟨v24, rfl, ho, hb⟩
    refine ⟨_, rfl, ?_⟩
    obtain ⟨A24, c24, rfl⟩ := Kd.R_slice ho
    have hnb : ∀ k, (Value.slice A24 (chunk l0 x).length c24).ownBlock = some k → W1.heap.size ≤ k := Kd.R_base ho
    have hbs := HB.out.size
    have n0 := Aside0.mk (Kd.S_elder' HS.out hnb hb)
    have n1 := Aside0.mk (Kd.R_tight rfl (Kd.R_lower ho HZ.out))
    have n2 : Aside0 (Boxed w6 w.heap.size 28 (.slice Ao xs.length co)) := ⟨(hb.block _ HBX.out.lt).trans HBX.out⟩
    have n3 := Aside0.mk (below_step HB.out hb)
    have n4 := Aside0.mk (HKO.out.trans (keeps_below hb))
    have n5 := Aside0.mk (kp_t HKP.out ⟨hb.block _ (by have := HZ.out; omega), hb.block _ (by have := HZ.out; omega)⟩)
    have n7 := Aside0.mk (Nat.le_trans HZ.out hb.size)
    have hlt := Kd.S_lt HS.out
    have n6 : Aside0 (∀ k, some k = (Value.slice A24 (chunk l0 x).length c24).ownBlock → True ∧ some k ≠ (Value.slice Ao xs.length co).ownBlock) := ⟨fun k hk => ⟨trivial, fun e => by have a1 := hnb k hk.symm; have a2 := hlt k e.symm; omega⟩⟩
    clear HS HBX HB HKO HKP HZ HC hnb hbs hlt ho hb
    refine hK.out _ _ n2.out.cell (fun hHeld => ?_)
    clear hK K
    refine norm_ (a' := ?_) ?_ ?_
    rotate_left
    · show Act.put _ (some 24) _ = _
      simp only [Act.put, List.setIfInBounds_toArray, List.set_cons_zero, List.set_cons_succ, i64_w, i32_w]
      rfl
    refine pure_ (i := 6) (N := some 25) (v := ?_) (a' := ?_) #[true, true, true, true, true, true, true, false, false, false] rfl rfl (any_of HT_.out (by kernel_rfl)) (fun _ _ _ h => h) (Or.inl ⟨by rfl, ?_⟩) ?_ ?_
    rotate_left
    · intro w'
      go_simp
      with_reducible rfl
    rotate_left
    · simp only [Act.put, List.setIfInBounds_toArray, List.set_cons_zero, List.set_cons_succ, i64_w, i32_w]
      rfl
    refine one_ (i := 7) (N := some 26) #[true, true, true, true, true, true, true, true, false, false] rfl rfl (one_of HT_.out (by kernel_rfl)) (by decide) (fun K hK => ?_)
    refine value_ (v := .slice (some ⟨w6.heap.size, 0, none⟩) 1 1) (w1 := w6.alloc (.cells #[.int .i64 0, .int .i64 ((xs.length : Int) + 1), .bool false, .slice A24 (chunk l0 x).length c24] 37)) rfl rfl ?run7 ?_
    case run7 =>
      first | (go_simp; done) | (go_simp; rfl)
    refine hK.out _ _ (by rw [World.cell?_alloc_lt _ _ _ n2.out.lt]; exact n2.out.cell) (fun hHeld => ?_)
    clear hK K
    refine norm_ (a' := ?_) ?_ ?_
    rotate_left
    · show Act.put _ (some 26) _ = _
      simp only [Act.put, List.setIfInBounds_toArray, List.set_cons_zero, List.set_cons_succ, i64_w, i32_w]
      rfl
    refine one_ (i := 8) (N := some 27) #[true, true, true, true, true, true, true, true, true, false] rfl rfl (one_of HT_.out (by kernel_rfl)) (by decide) (fun K hK => ?_)
    refine Kd.S_append_step k37 (w0 := w6) (w.heap.size + 3) rfl (.tmp 19) (.tmp 26) 28 37 (.agg #[.int .i64 0, .int .i64 0, .bool false, .slice none 0 0]) 48 rfl Tryd.underlying28 info37 rfl (by decide) (by omega) (.slice Ao xs.length co) xs ⟨0, (xs.length : Int) + 1, false, chunk l0 x⟩ [.int .i64 0, .int .i64 ((xs.length : Int) + 1), .bool false, .slice A24 (chunk l0 x).length c24] (fun _ => True) (fun k => some k = (Value.slice A24 (chunk l0 x).length c24).ownBlock) rfl rfl (k37_mkM _ _ _ _ n1.out) n6.out (fun _ _ => trivial) (Kd.S_mono n0.out (fun k hk => ⟨trivial, hk.2⟩)) (Below.refl _ _) n7.out (by have := hnl.out; omega) ?_
    intro v1 w8 hs8 hb8 hg8 hat8
    obtain ⟨A1, c1, rfl⟩ := Kd.S_slice hs8
    have hne : some w.heap.size ≠ (Value.slice Ao xs.length co).ownBlock := Kd.S_ne (Kd.S_drop n0.out) n2.out (by decide)
    have m0 : Aside0 (Boxed w8 w.heap.size 28 (.slice Ao xs.length co)) := ⟨n2.out.kept hg8 hne⟩
    have m1 := Aside0.mk (n4.out.trans (KeepsOthers.of_grownBy hg8 (fun j o e ho => by obtain ⟨cells, hc⟩ := Kd.S_typed n0.out j e; rw [hc] at ho; cases ho; rfl)))
    have m2 := Aside0.mk (kp_t n5.out ⟨hg8.block _ (by have := n7.out; omega) (fun e => by have := Kd.S_base n0.out _ e.symm; omega), hg8.block _ (by have := n7.out; omega) (fun e => by have := Kd.S_base n0.out _ e.symm; omega)⟩)
    have m3 := Aside0.mk (n3.out.grown hg8 n3.out.size (fun k e => by have := Kd.S_base n0.out k e; omega))
    refine hK.out _ _ m0.out.cell (fun hHeld => ?_)
    clear hK K
    refine norm_ (a' := ?_) ?_ ?_
    rotate_left
    · show Act.put _ (some 27) _ = _
      simp only [Act.put, List.setIfInBounds_toArray, List.set_cons_zero, List.set_cons_succ, i64_w, i32_w]
      rfl
    refine last_ (i := 9) (N := none) #[true, true, true, true, true, true, true, true, true, true] rfl rfl (one_of HT_.out (by kernel_rfl)) (by decide) (fun K hK => ?_)
    have hf9 := m0.out.frozen
    refine skip_ (w1 := w8.setCell ⟨w.heap.size, 0, none⟩ (.slice A1 (xs ++ [(⟨0, (xs.length : Int) + 1, false, chunk l0 x⟩ : S37)]).length c1)) rfl rfl (by go_simp) ?_
    refine hK.out _ _ ?_
    clear hK K
    refine done_ (done_of HT_.out (by kernel_rfl)) ?_
    refine ⟨m1.out.trans (KeepsOthers.setCell _ _ _), kp_t m2.out ⟨Below.heap_setCell _ _ _ _ (by show w.heap.size + 1 ≠ w.heap.size; omega), Below.heap_setCell _ _ _ _ (by show w.heap.size + 1 + 1 ≠ w.heap.size; omega)⟩, ⟨_, m0.out.set _, ?_⟩, m3.out.setCell (p := ⟨w.heap.size, 0, none⟩) (Nat.le_refl _) _, Nat.le_trans n7.out (Nat.le_trans hg8.size (KeepsOthers.setCell w8 ⟨w.heap.size, 0, none⟩ _).size)⟩
    rw [hsn.out]
    exact Kd.S_set hs8 m0.out (by decide) 0 _
  case done =>
    rintro D xs W hD rfl ⟨⟨v, hbx, hS⟩, hB, hZ⟩ hK
    have hlen' := packs_length l0 (List.range ((l0.length + 63) / 64))
    obtain ⟨n, hn⟩ : ∃ n, n + 1 = (l0.length + 63) / 64 := ⟨(l0.length + 63) / 64 - 1, by have := H1.out; omega⟩
    rw [← hn] at hS hlen'
    rw [List.length_range] at hlen'
    have hfin := Lib.hid (cutL_eq l0 n hn)
    obtain ⟨g, cap, rfl, hg1, hg2, cells, hgc⟩ := Kd.S_form hS (by omega)
    obtain ⟨f, hR⟩ := hS
    rw [hlen'] at hbx hR
    have hget : (packs l0 (List.range (n + 1))).zipIdx.getD (n : Int).toNat (z37, 0) = ((⟨0, (n : Int) + 1, false, chunk l0 n⟩ : S37), n) := by
      rw [Int.toNat_natCast, List.getD_eq_getElem?_getD, List.getElem?_zipIdx]
      unfold packs
      rw [List.getElem?_map, List.getElem?_zipIdx, List.getElem?_range (by omega)]
      simp [piece]
    obtain ⟨cs, hcl, hM, hcc, hcf⟩ := Kd.R_elem hR (z37, 0) (n : Int) (by omega) (by omega)
    rw [hget] at hM
    obtain ⟨v3, rfl, h3⟩ := k37_openM hM
    have hdg : D ≠ g := fun e => by rw [e, hgc] at hK; cases hK
    have hbg : w.heap.size ≠ g := fun e => by have := hbx; unfold Boxed at this; rw [e, hgc] at this; cases this
    have hcb := hbx.cell
    have HBX := Aside0.mk hbx
    have HR := Aside0.mk hR
    have HCC := Aside0.mk hcc
    have H3 := Aside0.mk h3
    have HFIN := hfin
    have HGET := Aside0.mk (packs_length l0 (List.range (n + 1)))
    have HN := Aside0.mk hn
    have hn2 : (n : Int) ≤ 200 := by have := H2.out; omega
    clear hfin hget hM hcc hcf h3 hR hbx hlen' hn
    rename_i hgo
    refine hgo _ _ (wpIn_wide.2 ?_)
    go_wp2_with ((with_reducible refine gate_store (t := 4) (p := 33) rfl ?_); refine Kd.R_store (Kd.tag f k37) (w0 := W) (w.heap.size + 3) rfl rfl 4 (.tmp 33) (.const (.bool true)) rfl 37 (g := g) (n := n + 1) (cap := cap) (n : Int) 2 (packs l0 (List.range (n + 1))).zipIdx ((⟨0, (n : Int) + 1, true, chunk l0 n⟩ : S37), n) (.bool true) [.bool true] [.int .i64 0, .int .i64 ((n : Int) + 1), .bool false, v3] (fun _ => True) (fun k => True ∧ k ≠ g) rfl ?hoff rfl rfl ?ht ?h1 HR.out (by omega) (by omega) hcl HCC.out (show 2 + 1 ≤ 4 by omega) (k37_mkM _ _ _ (⟨0, (n : Int) + 1, true, chunk l0 n⟩ : S37) H3.out) (fun _ h => h) (Below.refl _ _) ?_; (case hoff => rfl); (case ht => kernel_rfl); (case h1 => intro q hq; rw [List.mem_singleton.1 hq]; rfl); intro w1 hs1 hb1 hg1x; have hcb1 : w1.cell? ⟨w.heap.size, 0, none⟩ = some (.slice (some ⟨g, 0, none⟩) (n + 1) cap) := (World.cell?_of_block (hg1x.block _ HBX.out.lt (fun e => hbg (by injection e)))).trans hcb; have HS1 := Aside0.mk hs1; have HG1 := Aside0.mk hg1x; clear hs1 hg1x hb1)
    have hD1 : w1.heap[D]? = some (.deferred (some [])) := (HG1.out.block D (Array.getElem?_eq_some_iff.1 hK).1 (fun e => hdg (by injection e))).trans hK
    refine ⟨by simp, .inl ⟨_, _, rfl, run_takeDeferred hD1, ?_⟩⟩
    refine ⟨_, results_tmp2 rfl _ _ _, _, rfl, ?_, ?_⟩
    · have hs2 : Kd.S k37 37 w1 w.heap.size (fun _ => True) (.slice (some ⟨g, 0, none⟩) (n + 1) cap) (cutL l0) := by
        refine Kd.S_lower (base := w.heap.size + 3) ⟨f, ?_⟩ (by omega)
        have := HS1.out
        rw [Int.toNat_natCast, zipIdx_set, HFIN.out] at this
        exact this
      refine Kd.S_mono (Kd.S_step (Kd.S_bound hs2) (fun k hk hlt => World.putObj_heap_other (fun e => ?_))) (fun _ _ => trivial)
      obtain ⟨_, _, _, q, _, cells, hc⟩ := hk
      rw [e, hD1] at hc; cases hc
    · exact (hB.grown HG1.out hB.size (fun k e => by cases e; omega)).grown (grownBy_putObj' w1 D _) (Nat.le_trans hB.size HG1.out.size) (fun k e => by cases e; simp at hD; omega)
/-- What piece.Cut answers. -/
theorem cut_calls (A0 : Option Addr) (c0 : Nat) (l0 : List Int) (w : World) (hr0 : Kd.C (Kd.int .u8) w A0 l0.length l0) (hc0 : l0.length ≤ c0) (h1 : 0 < l0.length) (h2 : l0.length ≤ 8192) :
    Calls Tryd.prog 25 #[.slice A0 l0.length c0] w fun e w' => ∃ v0_ : Value, e = .returned (.tuple #[v0_, .nilIface]) ∧ Kd.S k37 37 w' w.heap.size (fun _ => True) v0_ (cutL l0) ∧ Below w.heap.size w w' := by
  obtain ⟨ad, rfl, _⟩ := hr0.2.2 h1
  exact callsIn_wide.1 (cut_good ad c0 l0 w hr0 hc0 h1 h2)
end Chunk
def piece_Cut.f (l0 : List Int) : Option (List S37 × Option Int) := if l0.length = 0 then some ([], some 2) else (if l0.length ≤ 8192 then some (Chunk.cutL l0, none) else some ([], some 6))
set_option maxHeartbeats 4000000 in
theorem piece_Cut.calls (A0 : Option Addr) (c0 : Nat) (l0 : List Int) (r1 : List S37) (r2 : Option Int) (w : World) (hr0 : Kd.C (Kd.int .u8) w A0 l0.length l0) (hc0 : l0.length ≤ c0) (h : piece_Cut.f l0 = some (r1, r2)) :
    Calls Tryd.prog 25 #[.slice A0 l0.length c0] w fun e w' => ∃ v0_ : Value, e = .returned (.tuple #[v0_, errW r2]) ∧ Kd.S k37 37 w' w.heap.size (fun _ => True) v0_ r1 ∧ Below w.heap.size w w' := by
  unfold piece_Cut.f at h
  by_cases h1 : l0.length = 0
  · rw [if_pos h1] at h
    simp only [Option.some.injEq, Prod.mk.injEq] at h
    obtain ⟨rfl, rfl⟩ := h
    clear hr0 hc0
    have k1 : ((l0.length : Int) == 0) = true := beq_iff_eq.2 (by omega)
    have e0 : l0.length = 0 := h1
    have hB := Aside0.mk (Below.refl w.heap.size w)
    rw [e0] at k1 ⊢
    clear h1 e0
    go_enter Tryd.func25, Tryd.ntmps25
    go_wp2
    go_ret2
    exact ⟨_, rfl, Kd.S_nil _ _ _ _ _, hB.out⟩
  · rw [if_neg h1] at h
    by_cases h2 : l0.length ≤ 8192
    · rw [if_pos h2] at h
      simp only [Option.some.injEq, Prod.mk.injEq] at h
      obtain ⟨rfl, rfl⟩ := h
      exact Chunk.cut_calls A0 c0 l0 w hr0 hc0 (by omega) h2
    · rw [if_neg h2] at h
      simp only [Option.some.injEq, Prod.mk.injEq] at h
      obtain ⟨rfl, rfl⟩ := h
      clear hr0 hc0
      have k1 : ((l0.length : Int) == 0) = false := beq_eq_false_iff_ne.2 (by omega)
      have k2 : decide (8192 < (l0.length : Int)) = true := decide_eq_true (by omega)
      have hB := Aside0.mk (Below.refl w.heap.size w)
      clear h1 h2
      go_enter Tryd.func25, Tryd.ntmps25
      go_wp2
      go_ret2
      exact ⟨_, rfl, Kd.S_nil _ _ _ _ _, hB.out⟩
end

-- NOT PRINTED: function 26 (line_Line_room)

-- NOT PRINTED: function 27 (line_Line_now)

-- NOT PRINTED: function 11 (line_Line_Send)

-- NOT PRINTED: function 28 (line_Line_told)

-- NOT PRINTED: function 12 (line_Line_Tick)
def piece_may.j0 : Nat → Int → Bool → Int → Int → Bool → List Int → Option (Bool)
 | 0, _, _, _, _, _, _ => none
 | k + 1, x3, x7, x108000, x108001, x108002, x108003 => if x7 = true then (some false) else (if x108001 = 0 then (if x108002 = true then (some false) else (some (x3 == 0))) else (if x3 = 64 then (some true) else (if x108002 = true then (if x3 ≥ 1 then (some (decide (x3 < 64))) else (some false)) else (some false))))
def piece_may.f (k : Nat) (a0_0 : Int) (a0_1 : Int) (a0_2 : Bool) (l0_3 : List Int) : Option (Bool) := if a0_0 < 0 then (piece_may.j0 k (l0_3.length : Int) true a0_0 a0_1 a0_2 l0_3) else (if a0_0 > 2147483647 then (piece_may.j0 k (l0_3.length : Int) true a0_0 a0_1 a0_2 l0_3) else (if a0_1 < 0 then (piece_may.j0 k (l0_3.length : Int) true a0_0 a0_1 a0_2 l0_3) else (piece_may.j0 k (l0_3.length : Int) (decide (a0_1 > 2147483647)) a0_0 a0_1 a0_2 l0_3)))
theorem piece_may.mono_l : ∀ k, (∀ y0 y1 y2 y3 y4 y5, LeO (piece_may.j0 k y0 y1 y2 y3 y4 y5) (piece_may.j0 (k + 1) y0 y1 y2 y3 y4 y5))
 | 0 => fun _ _ _ _ _ _ r h => by simp [piece_may.j0] at h
 | k + 1 => by
  have ih0 := piece_may.mono_l k
  ·intro y0 y1 y2 y3 y4 y5
   unfold piece_may.j0
   repeat' first
   | (with_reducible exact ih0 _ _ _ _ _ _)
   | (with_reducible exact LeO.refl _)
   | (with_reducible exact LeO.none _)
   | (with_reducible refine LeO.ite ?_ ?_)
   | (with_reducible refine LeO.bind ?_ (fun _ => ?_))
   | exact ih0 _ _ _ _ _ _
   | exact LeO.none _
   | refine LeO.ite ?_ ?_
   | refine LeO.bind ?_ (fun _ => ?_)
theorem piece_may.mono : ∀ a0 a1 a2 a3 k, LeO (piece_may.f k a0 a1 a2 a3) (piece_may.f (k + 1) a0 a1 a2 a3) := by
 intro a0 a1 a2 a3 k
 have ih0 := piece_may.mono_l k
 unfold piece_may.f
 repeat' first
   | (with_reducible exact ih0 _ _ _ _ _ _)
   | (with_reducible exact LeO.refl _)
   | (with_reducible exact LeO.none _)
   | (with_reducible refine LeO.ite ?_ ?_)
   | (with_reducible refine LeO.bind ?_ (fun _ => ?_))
   | exact ih0 _ _ _ _ _ _
   | exact LeO.none _
   | refine LeO.ite ?_ ?_
   | refine LeO.bind ?_ (fun _ => ?_)
set_option maxHeartbeats 8000000 in
set_option maxRecDepth 100000 in
theorem piece_may.calls (k : Nat) (a0_0 : Int) (a0_1 : Int) (a0_2 : Bool) (A0_3 : Option Addr) (c0_3 : Nat) (l0_3 : List Int) (r : Bool) (w : World) (hr0_3 : Kd.C (Kd.int .u8) w A0_3 l0_3.length l0_3) (hc0_3 : l0_3.length ≤ c0_3) (h : piece_may.f k a0_0 a0_1 a0_2 l0_3 = some r) :
  Calls Tryd.prog 39 #[.agg #[.int .i64 a0_0, .int .i64 a0_1, .bool a0_2, .slice A0_3 l0_3.length c0_3]] w fun e w' => e = .returned (.bool r) ∧ Below w.heap.size w w' := by
 have hu37 := Tryd.underlying37
 have HR0_3 := Aside0.mk hr0_3
 have HC0_3 := Aside0.mk hc0_3
 clear hr0_3 hc0_3
 have HB := Aside0.mk (Below.refl w.heap.size w)
 have H : (if a0_0 < 0 then (piece_may.j0 k (l0_3.length : Int) true a0_0 a0_1 a0_2 l0_3) else (if a0_0 > 2147483647 then (piece_may.j0 k (l0_3.length : Int) true a0_0 a0_1 a0_2 l0_3) else (if a0_1 < 0 then (piece_may.j0 k (l0_3.length : Int) true a0_0 a0_1 a0_2 l0_3) else (piece_may.j0 k (l0_3.length : Int) (decide (a0_1 > 2147483647)) a0_0 a0_1 a0_2 l0_3)))) = some r := h
 clear h
 have HC2 := Aside0.mk H
 clear H
 go_enter Tryd.func39, Tryd.ntmps39
 go_upto_region 2 with (first | ((with_reducible refine gate_dst (N := 1) rfl ?_); refine box_event ?hg (N := 1) ?hd (cs := #[.int .i64 a0_0, .int .i64 a0_1, .bool a0_2, .slice A0_3 l0_3.length c0_3]) (t := 37) ?hr ?_; (case hd => rfl); (case hg => rfl); (case hr => first | (go_simp; done) | (go_simp; rfl)); intro gb107 hg w3 hbox hb; have n0_ := Aside0.mk (below_step (by repeat (first | (with_reducible first | exact HB.out | apply below_alloc | apply pw_below_drewN | apply below_drew1) | exact HB.out)) hb); have n1_ := Aside0.mk (hbox); have n2_ := Aside0.mk ((by rw [hg]; exact (below_size (by repeat (first | (with_reducible first | exact HB.out | apply below_alloc | apply pw_below_drewN | apply below_drew1) | exact HB.out))) : w.heap.size ≤ gb107)); have n3_ := Aside0.mk ((by rw [hg]; exact (below_size (by repeat (first | (with_reducible first | exact HB.out | apply below_alloc | apply pw_below_drewN | apply below_drew1) | exact HB.out))) : w.heap.size ≤ gb107)); clear HB; have HB := n0_; have BK107 := n1_; have GW107 := n2_; have GE107 := n3_; clear n0_ n1_ n2_ n3_; clear hb hbox hg; have hcz4_0 : w3.cell? ⟨gb107, 0, none⟩ = some (.int .i64 a0_0) := (blk_cell BK107.out 0).trans rfl; have hcz4_1 : w3.cell? ⟨gb107, 1, none⟩ = some (.int .i64 a0_1) := (blk_cell BK107.out 1).trans rfl; have hcz4_2 : w3.cell? ⟨gb107, 2, none⟩ = some (.bool a0_2) := (blk_cell BK107.out 2).trans rfl; have hcz4_3 : w3.cell? ⟨gb107, 3, none⟩ = some (.slice A0_3 l0_3.length c0_3) := (blk_cell BK107.out 3).trans rfl; have hfz4_0 := blk_frozen BK107.out 0; have hfz4_1 := blk_frozen BK107.out 1; have hfz4_2 := blk_frozen BK107.out 2; have hfz4_3 := blk_frozen BK107.out 3))
 (try simp only [Act.put, List.setIfInBounds_toArray, List.set_cons_zero, List.set_cons_succ])
 go_cut [7] (fun v7 wc => ∃ (kq : Nat) (x7_1 : Bool), v7 = .bool x7_1 ∧ Aside0 (piece_may.j0 kq (l0_3.length : Int) x7_1 a0_0 a0_1 a0_2 l0_3 = some r) ∧ Aside0 (kq ≤ k) ∧ Aside0 (wc.heap[gb107]? = some (.cells #[.int .i64 a0_0, .int .i64 a0_1, .bool a0_2, (.slice A0_3 l0_3.length c0_3)] 37 (0, 0))) ∧ Aside0 (Below w.heap.size w wc))
 case first =>
  have H := HC2.out
  clear HC2
  by_cases c5 : a0_0 < 0
  ·rw [if_pos c5] at H
   have c5b0 : decide (a0_0 < 0) = true := decide_eq_true c5
   clear c5
   (first | rw [c5b0] | (simp only [i64_w, i32_w]; rw [c5b0]) | skip)
   have H' := Aside0.mk H
   clear H
   have hcz6_0 : w3.cell? ⟨gb107, 0, none⟩ = some (.int .i64 a0_0) := (blk_cell BK107.out 0).trans rfl
   have hcz6_1 : w3.cell? ⟨gb107, 1, none⟩ = some (.int .i64 a0_1) := (blk_cell BK107.out 1).trans rfl
   have hcz6_2 : w3.cell? ⟨gb107, 2, none⟩ = some (.bool a0_2) := (blk_cell BK107.out 2).trans rfl
   have hcz6_3 : w3.cell? ⟨gb107, 3, none⟩ = some (.slice A0_3 l0_3.length c0_3) := (blk_cell BK107.out 3).trans rfl
   have hfz6_0 := blk_frozen BK107.out 0
   have hfz6_1 := blk_frozen BK107.out 1
   have hfz6_2 := blk_frozen BK107.out 2
   have hfz6_3 := blk_frozen BK107.out 3
   go_wp2
   go_meet
   case rel => exact ⟨_, (true), (by first | rfl | (simp; done) | (simp [*]; done)), H', ⟨by first | omega | exact Nat.le_refl _⟩, ⟨by (with_reducible repeat (first | refine blk_drewN ?_ _ | refine blk_drew ?_ | refine blk_alloc ?_ _)); exact BK107.out⟩, ⟨by repeat (first | (with_reducible first | exact HB.out | apply below_alloc | apply pw_below_drewN | apply below_drew1 | refine below_set ?_ GE107.out) | exact HB.out)⟩⟩
  ·rw [if_neg c5] at H
   have c5b0 : decide (a0_0 < 0) = false := decide_eq_false c5
   clear c5
   (first | rw [c5b0] | (simp only [i64_w, i32_w]; rw [c5b0]) | skip)
   by_cases c7 : a0_0 > 2147483647
   ·rw [if_pos c7] at H
    have c7b0 : decide (2147483647 < a0_0) = true := decide_eq_true c7
    clear c7
    have H' := Aside0.mk H
    clear H
    have hcz8_0 : w3.cell? ⟨gb107, 0, none⟩ = some (.int .i64 a0_0) := (blk_cell BK107.out 0).trans rfl
    have hcz8_1 : w3.cell? ⟨gb107, 1, none⟩ = some (.int .i64 a0_1) := (blk_cell BK107.out 1).trans rfl
    have hcz8_2 : w3.cell? ⟨gb107, 2, none⟩ = some (.bool a0_2) := (blk_cell BK107.out 2).trans rfl
    have hcz8_3 : w3.cell? ⟨gb107, 3, none⟩ = some (.slice A0_3 l0_3.length c0_3) := (blk_cell BK107.out 3).trans rfl
    have hfz8_0 := blk_frozen BK107.out 0
    have hfz8_1 := blk_frozen BK107.out 1
    have hfz8_2 := blk_frozen BK107.out 2
    have hfz8_3 := blk_frozen BK107.out 3
    go_wp2
    go_meet
    case rel => exact ⟨_, (true), (by first | rfl | (simp; done) | (simp [*]; done)), H', ⟨by first | omega | exact Nat.le_refl _⟩, ⟨by (with_reducible repeat (first | refine blk_drewN ?_ _ | refine blk_drew ?_ | refine blk_alloc ?_ _)); exact BK107.out⟩, ⟨by repeat (first | (with_reducible first | exact HB.out | apply below_alloc | apply pw_below_drewN | apply below_drew1 | refine below_set ?_ GE107.out) | exact HB.out)⟩⟩
   ·rw [if_neg c7] at H
    have c7b0 : decide (2147483647 < a0_0) = false := decide_eq_false c7
    clear c7
    by_cases c9 : a0_1 < 0
    ·rw [if_pos c9] at H
     have c9b0 : decide (a0_1 < 0) = true := decide_eq_true c9
     clear c9
     have H' := Aside0.mk H
     clear H
     have hcz10_0 : w3.cell? ⟨gb107, 0, none⟩ = some (.int .i64 a0_0) := (blk_cell BK107.out 0).trans rfl
     have hcz10_1 : w3.cell? ⟨gb107, 1, none⟩ = some (.int .i64 a0_1) := (blk_cell BK107.out 1).trans rfl
     have hcz10_2 : w3.cell? ⟨gb107, 2, none⟩ = some (.bool a0_2) := (blk_cell BK107.out 2).trans rfl
     have hcz10_3 : w3.cell? ⟨gb107, 3, none⟩ = some (.slice A0_3 l0_3.length c0_3) := (blk_cell BK107.out 3).trans rfl
     have hfz10_0 := blk_frozen BK107.out 0
     have hfz10_1 := blk_frozen BK107.out 1
     have hfz10_2 := blk_frozen BK107.out 2
     have hfz10_3 := blk_frozen BK107.out 3
     go_wp2
     go_meet
     case rel => exact ⟨_, (true), (by first | rfl | (simp; done) | (simp [*]; done)), H', ⟨by first | omega | exact Nat.le_refl _⟩, ⟨by (with_reducible repeat (first | refine blk_drewN ?_ _ | refine blk_drew ?_ | refine blk_alloc ?_ _)); exact BK107.out⟩, ⟨by repeat (first | (with_reducible first | exact HB.out | apply below_alloc | apply pw_below_drewN | apply below_drew1 | refine below_set ?_ GE107.out) | exact HB.out)⟩⟩
    ·rw [if_neg c9] at H
     have c9b0 : decide (a0_1 < 0) = false := decide_eq_false c9
     clear c9
     have H' := Aside0.mk H
     clear H
     have hcz11_0 : w3.cell? ⟨gb107, 0, none⟩ = some (.int .i64 a0_0) := (blk_cell BK107.out 0).trans rfl
     have hcz11_1 : w3.cell? ⟨gb107, 1, none⟩ = some (.int .i64 a0_1) := (blk_cell BK107.out 1).trans rfl
     have hcz11_2 : w3.cell? ⟨gb107, 2, none⟩ = some (.bool a0_2) := (blk_cell BK107.out 2).trans rfl
     have hcz11_3 : w3.cell? ⟨gb107, 3, none⟩ = some (.slice A0_3 l0_3.length c0_3) := (blk_cell BK107.out 3).trans rfl
     have hfz11_0 := blk_frozen BK107.out 0
     have hfz11_1 := blk_frozen BK107.out 1
     have hfz11_2 := blk_frozen BK107.out 2
     have hfz11_3 := blk_frozen BK107.out 3
     go_wp2
     go_meet
     case rel => exact ⟨_, (decide (a0_1 > 2147483647)), (by first | rfl | (simp; done) | (simp [*]; done)), H', ⟨by first | omega | exact Nat.le_refl _⟩, ⟨by (with_reducible repeat (first | refine blk_drewN ?_ _ | refine blk_drew ?_ | refine blk_alloc ?_ _)); exact BK107.out⟩, ⟨by repeat (first | (with_reducible first | exact HB.out | apply below_alloc | apply pw_below_drewN | apply below_drew1 | refine below_set ?_ GE107.out) | exact HB.out)⟩⟩
 case rest =>
  clear HC2
  try clear p2
  try clear c3
  try clear c5
  try clear c5b0
  try clear c7
  try clear c7b0
  try clear c9
  try clear c9b0
  try clear hcz10_0
  try clear hcz10_1
  try clear hcz10_2
  try clear hcz10_3
  try clear hcz11_0
  try clear hcz11_1
  try clear hcz11_2
  try clear hcz11_3
  try clear hcz4_0
  try clear hcz4_1
  try clear hcz4_2
  try clear hcz4_3
  try clear hcz6_0
  try clear hcz6_1
  try clear hcz6_2
  try clear hcz6_3
  try clear hcz8_0
  try clear hcz8_1
  try clear hcz8_2
  try clear hcz8_3
  try clear hfz10_0
  try clear hfz10_1
  try clear hfz10_2
  try clear hfz10_3
  try clear hfz11_0
  try clear hfz11_1
  try clear hfz11_2
  try clear hfz11_3
  try clear hfz4_0
  try clear hfz4_1
  try clear hfz4_2
  try clear hfz4_3
  try clear hfz6_0
  try clear hfz6_1
  try clear hfz6_2
  try clear hfz6_3
  try clear hfz8_0
  try clear hfz8_1
  try clear hfz8_2
  try clear hfz8_3
  obtain ⟨kq, x7_1, rfl, HA, HJ1, BK107, HB⟩ := hcut
  cases kq with
  | zero => exact absurd HA.out (by simp [piece_may.j0])
  | succ kj1 =>
   have H := HA.out
   clear HA
   simp only [piece_may.j0] at H
   by_cases c12 : x7_1 = true
   ·subst c12
    have H1 : (some false) = some r := by rw [if_pos rfl] at H; exact H
    clear H
    have H := H1
    clear H1
    obtain rfl := Option.some.inj H
    go_wp2
    go_ret
    exact ⟨by first | rfl | (simp [errW_none, errW_some] <;> rfl) | (simp [*, errW_none, errW_some] <;> rfl), by repeat (first | (with_reducible first | exact HB.out | apply below_alloc | apply pw_below_drewN | apply below_drew1 | refine below_set ?_ GE107.out) | exact HB.out)⟩
   ·replace c12 := Bool.eq_false_iff.mpr c12
    subst c12
    have H1 : (if a0_1 = 0 then (if a0_2 = true then (some false) else (some ((l0_3.length : Int) == 0))) else (if (l0_3.length : Int) = 64 then (some true) else (if a0_2 = true then (if (l0_3.length : Int) ≥ 1 then (some (decide ((l0_3.length : Int) < 64))) else (some false)) else (some false)))) = some r := by rw [if_neg (show ¬ (false = true) by decide)] at H; exact H
    clear H
    have H := H1
    clear H1
    by_cases c13 : a0_1 = 0
    ·rw [if_pos c13] at H
     have c13b0 : (a0_1 == 0) = true := beq_iff_eq.mpr c13
     have c13b1 : (a0_1 != 0) = false := bne_eq_false_iff_eq.mpr c13
     clear c13
     by_cases c14 : a0_2 = true
     ·subst c14
      have H1 : (some false) = some r := by rw [if_pos rfl] at H; exact H
      clear H
      have H := H1
      clear H1
      obtain rfl := Option.some.inj H
      have hcz15_0 : wc.cell? ⟨gb107, 0, none⟩ = some (.int .i64 a0_0) := (blk_cell BK107.out 0).trans rfl
      have hcz15_1 : wc.cell? ⟨gb107, 1, none⟩ = some (.int .i64 a0_1) := (blk_cell BK107.out 1).trans rfl
      have hcz15_2 : wc.cell? ⟨gb107, 2, none⟩ = some (.bool true) := (blk_cell BK107.out 2).trans rfl
      have hcz15_3 : wc.cell? ⟨gb107, 3, none⟩ = some (.slice A0_3 l0_3.length c0_3) := (blk_cell BK107.out 3).trans rfl
      have hfz15_0 := blk_frozen BK107.out 0
      have hfz15_1 := blk_frozen BK107.out 1
      have hfz15_2 := blk_frozen BK107.out 2
      have hfz15_3 := blk_frozen BK107.out 3
      go_wp2
      go_ret
      exact ⟨by first | rfl | (simp [errW_none, errW_some] <;> rfl) | (simp [*, errW_none, errW_some] <;> rfl), by repeat (first | (with_reducible first | exact HB.out | apply below_alloc | apply pw_below_drewN | apply below_drew1 | refine below_set ?_ GE107.out) | exact HB.out)⟩
     ·replace c14 := Bool.eq_false_iff.mpr c14
      subst c14
      have H1 : (some ((l0_3.length : Int) == 0)) = some r := by rw [if_neg (show ¬ (false = true) by decide)] at H; exact H
      clear H
      have H := H1
      clear H1
      obtain rfl := Option.some.inj H
      have hcz16_0 : wc.cell? ⟨gb107, 0, none⟩ = some (.int .i64 a0_0) := (blk_cell BK107.out 0).trans rfl
      have hcz16_1 : wc.cell? ⟨gb107, 1, none⟩ = some (.int .i64 a0_1) := (blk_cell BK107.out 1).trans rfl
      have hcz16_2 : wc.cell? ⟨gb107, 2, none⟩ = some (.bool false) := (blk_cell BK107.out 2).trans rfl
      have hcz16_3 : wc.cell? ⟨gb107, 3, none⟩ = some (.slice A0_3 l0_3.length c0_3) := (blk_cell BK107.out 3).trans rfl
      have hfz16_0 := blk_frozen BK107.out 0
      have hfz16_1 := blk_frozen BK107.out 1
      have hfz16_2 := blk_frozen BK107.out 2
      have hfz16_3 := blk_frozen BK107.out 3
      go_wp2
      go_ret
      exact ⟨by first | rfl | (simp [errW_none, errW_some] <;> rfl) | (simp [*, errW_none, errW_some] <;> rfl), by repeat (first | (with_reducible first | exact HB.out | apply below_alloc | apply pw_below_drewN | apply below_drew1 | refine below_set ?_ GE107.out) | exact HB.out)⟩
    ·rw [if_neg c13] at H
     have c13b0 : (a0_1 == 0) = false := beq_eq_false_iff_ne.mpr c13
     have c13b1 : (a0_1 != 0) = true := bne_iff_ne.mpr c13
     by_cases c17 : (l0_3.length : Int) = 64
     ·rw [if_pos c17] at H
      have c17b0 : ((l0_3.length : Int) == 64) = true := beq_iff_eq.mpr c17
      have c17b1 : ((l0_3.length : Int) != 64) = false := bne_eq_false_iff_eq.mpr c17
      clear c17
      obtain rfl := Option.some.inj H
      have hcz18_0 : wc.cell? ⟨gb107, 0, none⟩ = some (.int .i64 a0_0) := (blk_cell BK107.out 0).trans rfl
      have hcz18_1 : wc.cell? ⟨gb107, 1, none⟩ = some (.int .i64 a0_1) := (blk_cell BK107.out 1).trans rfl
      have hcz18_2 : wc.cell? ⟨gb107, 2, none⟩ = some (.bool a0_2) := (blk_cell BK107.out 2).trans rfl
      have hcz18_3 : wc.cell? ⟨gb107, 3, none⟩ = some (.slice A0_3 l0_3.length c0_3) := (blk_cell BK107.out 3).trans rfl
      have hfz18_0 := blk_frozen BK107.out 0
      have hfz18_1 := blk_frozen BK107.out 1
      have hfz18_2 := blk_frozen BK107.out 2
      have hfz18_3 := blk_frozen BK107.out 3
      go_wp2
      go_ret
      exact ⟨by first | rfl | (simp [errW_none, errW_some] <;> rfl) | (simp [*, errW_none, errW_some] <;> rfl), by repeat (first | (with_reducible first | exact HB.out | apply below_alloc | apply pw_below_drewN | apply below_drew1 | refine below_set ?_ GE107.out) | exact HB.out)⟩
     ·rw [if_neg c17] at H
      have c17b0 : ((l0_3.length : Int) == 64) = false := beq_eq_false_iff_ne.mpr c17
      have c17b1 : ((l0_3.length : Int) != 64) = true := bne_iff_ne.mpr c17
      by_cases c19 : a0_2 = true
      ·subst c19
       have H1 : (if (l0_3.length : Int) ≥ 1 then (some (decide ((l0_3.length : Int) < 64))) else (some false)) = some r := by rw [if_pos rfl] at H; exact H
       clear H
       have H := H1
       clear H1
       by_cases c20 : (l0_3.length : Int) ≥ 1
       ·rw [if_pos c20] at H
        have c20b0 : decide (1 ≤ (l0_3.length : Int)) = true := decide_eq_true c20
        have c20b1 : decide (1 ≤ l0_3.length) = true := decide_eq_true (by omega)
        clear c20
        obtain rfl := Option.some.inj H
        have hcz21_0 : wc.cell? ⟨gb107, 0, none⟩ = some (.int .i64 a0_0) := (blk_cell BK107.out 0).trans rfl
        have hcz21_1 : wc.cell? ⟨gb107, 1, none⟩ = some (.int .i64 a0_1) := (blk_cell BK107.out 1).trans rfl
        have hcz21_2 : wc.cell? ⟨gb107, 2, none⟩ = some (.bool true) := (blk_cell BK107.out 2).trans rfl
        have hcz21_3 : wc.cell? ⟨gb107, 3, none⟩ = some (.slice A0_3 l0_3.length c0_3) := (blk_cell BK107.out 3).trans rfl
        have hfz21_0 := blk_frozen BK107.out 0
        have hfz21_1 := blk_frozen BK107.out 1
        have hfz21_2 := blk_frozen BK107.out 2
        have hfz21_3 := blk_frozen BK107.out 3
        go_wp2
        go_ret
        exact ⟨by first | rfl | (simp [errW_none, errW_some] <;> rfl) | (simp [*, errW_none, errW_some] <;> rfl), by repeat (first | (with_reducible first | exact HB.out | apply below_alloc | apply pw_below_drewN | apply below_drew1 | refine below_set ?_ GE107.out) | exact HB.out)⟩
       ·rw [if_neg c20] at H
        have c20b0 : decide (1 ≤ (l0_3.length : Int)) = false := decide_eq_false c20
        have c20b1 : decide (1 ≤ l0_3.length) = false := decide_eq_false (by omega)
        clear c20
        obtain rfl := Option.some.inj H
        have hcz22_0 : wc.cell? ⟨gb107, 0, none⟩ = some (.int .i64 a0_0) := (blk_cell BK107.out 0).trans rfl
        have hcz22_1 : wc.cell? ⟨gb107, 1, none⟩ = some (.int .i64 a0_1) := (blk_cell BK107.out 1).trans rfl
        have hcz22_2 : wc.cell? ⟨gb107, 2, none⟩ = some (.bool true) := (blk_cell BK107.out 2).trans rfl
        have hcz22_3 : wc.cell? ⟨gb107, 3, none⟩ = some (.slice A0_3 l0_3.length c0_3) := (blk_cell BK107.out 3).trans rfl
        have hfz22_0 := blk_frozen BK107.out 0
        have hfz22_1 := blk_frozen BK107.out 1
        have hfz22_2 := blk_frozen BK107.out 2
        have hfz22_3 := blk_frozen BK107.out 3
        go_wp2
        go_ret
        exact ⟨by first | rfl | (simp [errW_none, errW_some] <;> rfl) | (simp [*, errW_none, errW_some] <;> rfl), by repeat (first | (with_reducible first | exact HB.out | apply below_alloc | apply pw_below_drewN | apply below_drew1 | refine below_set ?_ GE107.out) | exact HB.out)⟩
      ·replace c19 := Bool.eq_false_iff.mpr c19
       subst c19
       have H1 : (some false) = some r := by rw [if_neg (show ¬ (false = true) by decide)] at H; exact H
       clear H
       have H := H1
       clear H1
       obtain rfl := Option.some.inj H
       have hcz23_0 : wc.cell? ⟨gb107, 0, none⟩ = some (.int .i64 a0_0) := (blk_cell BK107.out 0).trans rfl
       have hcz23_1 : wc.cell? ⟨gb107, 1, none⟩ = some (.int .i64 a0_1) := (blk_cell BK107.out 1).trans rfl
       have hcz23_2 : wc.cell? ⟨gb107, 2, none⟩ = some (.bool false) := (blk_cell BK107.out 2).trans rfl
       have hcz23_3 : wc.cell? ⟨gb107, 3, none⟩ = some (.slice A0_3 l0_3.length c0_3) := (blk_cell BK107.out 3).trans rfl
       have hfz23_0 := blk_frozen BK107.out 0
       have hfz23_1 := blk_frozen BK107.out 1
       have hfz23_2 := blk_frozen BK107.out 2
       have hfz23_3 := blk_frozen BK107.out 3
       go_wp2
       go_ret
       exact ⟨by first | rfl | (simp [errW_none, errW_some] <;> rfl) | (simp [*, errW_none, errW_some] <;> rfl), by repeat (first | (with_reducible first | exact HB.out | apply below_alloc | apply pw_below_drewN | apply below_drew1 | refine below_set ?_ GE107.out) | exact HB.out)⟩
/-- slices.Grow of nothing, by whatever number: an empty row of the call's own. -/
def slices_Grow_byte_byte.f (l0 : List Int) (a1 : Int) : Option (List Int) := if l0.length = 0 then (if 0 ≤ a1 then (if a1 < 140737488355328 then some [] else none) else none) else none
set_option maxHeartbeats 1000000 in
set_option maxRecDepth 100000 in
theorem slices_Grow_byte_byte.calls (A0 : Option Addr) (c0 : Nat) (l0 : List Int) (a1 : Int) (r : List Int) (w : World) (hr0 : Kd.C (Kd.int .u8) w A0 l0.length l0) (hc0 : l0.length ≤ c0) (h : slices_Grow_byte_byte.f l0 a1 = some r) (hA : A0 = none := by rfl) (hC : c0 = 0 := by rfl) :
    Calls Tryd.prog 51 #[.slice A0 l0.length c0, .int .i64 a1] w fun e w' => ∃ v0_ : Value, e = .returned (v0_) ∧ Kd.R (Kd.int .u8) 5 w' w.heap.size (fun _ => True) v0_ r ∧ Below w.heap.size w w' := by
  subst hA hC
  unfold slices_Grow_byte_byte.f at h
  by_cases h1 : l0.length = 0
  · rw [if_pos h1] at h
    by_cases h2 : 0 ≤ a1
    · rw [if_pos h2] at h
      by_cases h3 : a1 < 140737488355328
      · rw [if_pos h3] at h
        obtain rfl := Option.some.inj h
        obtain rfl : l0 = [] := List.eq_nil_of_length_eq_zero h1
        clear h h1 hr0 hc0
        have HB := Aside0.mk (Below.refl w.heap.size w)
        have k1 : decide (a1 < 0) = false := decide_eq_false (by omega)
        have kw : IntKind.i64.wrap (a1 - 0) = a1 := by rw [Int.sub_zero]; exact IntWalk.i64_in _ (by omega)
        have kw1 : IntKind.i64.wrap a1 = a1 := IntWalk.i64_in _ (by omega)
        have kw2 : wrap64 a1 = a1 := by unfold wrap64; omega
        by_cases h4 : a1 = 0
        · subst h4
          clear kw kw1 kw2 k1
          go_enter Tryd.func51, Tryd.ntmps51
          go_wp2
          go_ret
          exact ⟨_, rfl, Kd.R_nil _ _ _ _ _, HB.out⟩
        · have k2 : decide (0 < a1) = true := decide_eq_true (by omega)
          have k3 := Aside0.mk h2
          have k4 := Aside0.mk h3
          clear h4 h2 h3
          go_enter Tryd.func51, Tryd.ntmps51
          go_wp2_with ((with_reducible refine gate_builtin (b := .append) (xs := #[.tmp 20, .tmp 21]) rfl ?_); refine Kd.R_append_zeros (Kd.int .u8) (w0 := w) w.heap.size rfl (.tmp 20) (.tmp 21) 32 3 5 (.int .u8 0) 1 rfl Tryd.underlying32 Tryd.underlying3 info5 rfl (by decide) (by omega) (.slice none 0 0) [] 0 a1 (fun _ => True) rfl rfl ?zz (fun _ _ => trivial) (Kd.R_nil _ _ _ _ _) k3.out HB.out (Nat.le_refl _) ?zl ?_; (case zz => rfl); (case zl => have := k3.out; have := k4.out; simp; omega); intro v1 w1 ho hb hg hat; clear hg hat; obtain ⟨Ao, co, eo⟩ := Kd.R_slice ho; subst eo; have HO := Aside0.mk ho; have HB1 := Aside0.mk hb; clear ho hb)
          go_ret
          exact ⟨_, rfl, Kd.R_take HO.out (m := 0) (by simp), HB1.out⟩
      · rw [if_neg h3] at h; cases h
    · rw [if_neg h2] at h; cases h
  · rw [if_neg h1] at h; cases h
end Go.Proofs.YtafjegfmmnjpfaaDoor.YLine
end
section
-- Own text, made by this session out of the translation by wip/tools/xprint.sh: Lean functions with the answers of Go functions, and their walks.
namespace Go.Proofs.YtafjegfmmnjpfaaDoor.YLine
open Go.RowKit Go.Proofs.YtafjegfmmnjpfaaDoorW.PrintWords Go.Proofs.YtafjegfmmnjpfaaDoorW.PrintLast Go.Proofs.YtafjegfmmnjpfaaDoorW.PrintMore
attribute [local go_sem] max2_int min2_int max_two min_two max_three min_three max_four min_four   -- for this text's walks alone
set_option linter.unusedVariables false
set_option linter.unusedSimpArgs false
mutual
def slices_Concat_byte_byte.l0 : Nat → List (List Int) → Int → List (List Int) → Int → Int → Option (List Int)
 | 0, _, _, _, _, _ => none
 | k + 1, x0, x3, x9, x10, x11 => if x11 < x10 then (if 0 ≤ x11 then (if x11 < (x9.length : Int) then (if (wrap64 (x3 + ((rd_L1 x9 x11).length : Int))) < 0 then (none) else (slices_Concat_byte_byte.l0 k x0 (wrap64 (x3 + ((rd_L1 x9 x11).length : Int))) x9 x10 (wrap64 (x11 + 1)))) else (none)) else (none)) else ((slices_Grow_byte_byte.f ([] : List Int) x3).bind fun t109 => (slices_Concat_byte_byte.l1 k t109 x0 (x0.length : Int) 0))
def slices_Concat_byte_byte.l1 : Nat → List Int → List (List Int) → Int → Int → Option (List Int)
 | 0, _, _, _, _ => none
 | k + 1, x6, x25, x26, x27 => if x27 < x26 then (if 0 ≤ x27 then (if x27 < (x25.length : Int) then (if x6.length + (rd_L1 x25 x27).length < 140737488355328 then (slices_Concat_byte_byte.l1 k (x6 ++ (rd_L1 x25 x27)) x25 x26 (wrap64 (x27 + 1))) else (none)) else (none)) else (none)) else (some x6)
end
def slices_Concat_byte_byte.f (k : Nat) (l0 : List (List Int)) : Option (List Int) := slices_Concat_byte_byte.l0 k l0 0 l0 (l0.length : Int) 0
theorem slices_Concat_byte_byte.mono_l : ∀ k, (∀ y0 y1 y2 y3 y4, LeO (slices_Concat_byte_byte.l0 k y0 y1 y2 y3 y4) (slices_Concat_byte_byte.l0 (k + 1) y0 y1 y2 y3 y4)) ∧ (∀ y0 y1 y2 y3, LeO (slices_Concat_byte_byte.l1 k y0 y1 y2 y3) (slices_Concat_byte_byte.l1 (k + 1) y0 y1 y2 y3))
 | 0 => ⟨fun _ _ _ _ _ r h => by simp [slices_Concat_byte_byte.l0] at h, fun _ _ _ _ r h => by simp [slices_Concat_byte_byte.l1] at h⟩
 | k + 1 => by
  obtain ⟨ih0, ih1⟩ := slices_Concat_byte_byte.mono_l k
  refine ⟨?_, ?_⟩
  ·intro y0 y1 y2 y3 y4
   unfold slices_Concat_byte_byte.l0
   repeat' first
   | (with_reducible exact ih0 _ _ _ _ _)
   | (with_reducible exact ih1 _ _ _ _)
   | (with_reducible exact LeO.refl _)
   | (with_reducible exact LeO.none _)
   | (with_reducible refine LeO.ite ?_ ?_)
   | (with_reducible refine LeO.bind ?_ (fun _ => ?_))
   | exact ih0 _ _ _ _ _
   | exact ih1 _ _ _ _
   | exact LeO.none _
   | refine LeO.ite ?_ ?_
   | refine LeO.bind ?_ (fun _ => ?_)
  ·intro y0 y1 y2 y3
   unfold slices_Concat_byte_byte.l1
   repeat' first
   | (with_reducible exact ih0 _ _ _ _ _)
   | (with_reducible exact ih1 _ _ _ _)
   | (with_reducible exact LeO.refl _)
   | (with_reducible exact LeO.none _)
   | (with_reducible refine LeO.ite ?_ ?_)
   | (with_reducible refine LeO.bind ?_ (fun _ => ?_))
   | exact ih0 _ _ _ _ _
   | exact ih1 _ _ _ _
   | exact LeO.none _
   | refine LeO.ite ?_ ?_
   | refine LeO.bind ?_ (fun _ => ?_)
theorem slices_Concat_byte_byte.mono : ∀ a0 k, LeO (slices_Concat_byte_byte.f k a0) (slices_Concat_byte_byte.f (k + 1) a0) := by
 intro a0 k
 obtain ⟨ih0, ih1⟩ := slices_Concat_byte_byte.mono_l k
 unfold slices_Concat_byte_byte.f
 repeat' first
   | (with_reducible exact ih0 _ _ _ _ _)
   | (with_reducible exact ih1 _ _ _ _)
   | (with_reducible exact LeO.refl _)
   | (with_reducible exact LeO.none _)
   | (with_reducible refine LeO.ite ?_ ?_)
   | (with_reducible refine LeO.bind ?_ (fun _ => ?_))
   | exact ih0 _ _ _ _ _
   | exact ih1 _ _ _ _
   | exact LeO.none _
   | refine LeO.ite ?_ ?_
   | refine LeO.bind ?_ (fun _ => ?_)
set_option maxHeartbeats 8000000 in
set_option maxRecDepth 100000 in
theorem slices_Concat_byte_byte.calls (k : Nat) (A0 : Option Addr) (c0 : Nat) (l0 : List (List Int)) (r : List Int) (w : World) (hr0 : Kd.C (Kd.slice 5 (Kd.int .u8)) w A0 l0.length l0) (hc0 : l0.length ≤ c0) (h : slices_Concat_byte_byte.f k l0 = some r) :
  Calls Tryd.prog 40 #[.slice A0 l0.length c0] w fun e w' => ∃ v0_ : Value, e = .returned (v0_) ∧ Kd.R (Kd.int .u8) 5 w' w.heap.size (fun _ => True) v0_ r ∧ Below w.heap.size w w' := by
 have HR0 := Aside0.mk hr0
 have HC0 := Aside0.mk hc0
 clear hr0 hc0
 have HB := Aside0.mk (Below.refl w.heap.size w)
 have H : (slices_Concat_byte_byte.l0 k l0 0 l0 (l0.length : Int) 0) = some r := h
 clear h
 have H' := Aside0.mk H
 clear H
 go_enter Tryd.func40, Tryd.ntmps40
 go_wp2
 (try simp only [add_plain])
 go_loopg [3, 11] k (fun kq v3 v11 w' => ∃ (x3_1 : Int) (x11_1 : Int), v3 = .int .i64 x3_1 ∧ v11 = .int .i64 x11_1 ∧ Aside0 (slices_Concat_byte_byte.l0 kq l0 x3_1 l0 (l0.length : Int) x11_1 = some r) ∧ Aside0 (kq ≤ k) ∧ Aside0 (Below w.heap.size w w'))
 case atStart => exact ⟨(0), (0), (by first | rfl | (simp; done) | (simp [*]; done)), (by first | rfl | (simp; done) | (simp [*]; done)), H', ⟨Nat.le_refl _⟩, ⟨by repeat (first | (with_reducible first | exact HB.out | apply below_alloc | apply pw_below_drewN | apply below_drew1) | exact HB.out)⟩⟩
 case round =>
  clear H'
  obtain ⟨x3_1, x11_1, rfl, rfl, HA, HK1, HB⟩ := hrel
  cases gk with
  | zero => exact absurd HA.out (by simp [slices_Concat_byte_byte.l0])
  | succ k1 =>
   have H := HA.out
   clear HA
   simp only [slices_Concat_byte_byte.l0] at H
   by_cases c2 : x11_1 < (l0.length : Int)
   ·rw [if_pos c2] at H
    have c2b0 : decide (x11_1 < (l0.length : Int)) = true := decide_eq_true c2
    clear c2
    by_cases c3 : 0 ≤ x11_1
    ·rw [if_pos c3] at H
     have c3b0 : decide (0 ≤ x11_1) = true := decide_eq_true c3
     clear c3
     by_cases c4 : x11_1 < (l0.length : Int)
     ·rw [if_pos c4] at H
      have c4b0 : decide (x11_1 < (l0.length : Int)) = true := decide_eq_true c4
      clear c4
      by_cases c5 : (wrap64 (x3_1 + ((rd_L1 l0 x11_1).length : Int))) < 0
      ·rw [if_pos c5] at H
       have c5b0 : decide ((wrap64 (x3_1 + ((rd_L1 l0 x11_1).length : Int))) < 0) = true := decide_eq_true c5
       clear c5
       cases H
      ·rw [if_neg c5] at H
       have c5b0 : decide ((wrap64 (x3_1 + ((rd_L1 l0 x11_1).length : Int))) < 0) = false := decide_eq_false c5
       clear c5
       have H' := Aside0.mk H
       clear H
       have p108 : 0 ≤ (x11_1 : Int) := of_decide_eq_true (by first | (with_reducible assumption) | assumption)
       have q108 : x11_1 < (l0.length : Int) := of_decide_eq_true (by first | (with_reducible assumption) | assumption)
       obtain ⟨ad108, A108_0, c108_0, e108, hx108_0, hl108_0, hi108_0⟩ := at_L1 HR0.out x11_1 p108 q108
       cases e108
       replace hx108_0 := (HB.out.cell (World.block_lt_of_cell? w _ hx108_0)).trans hx108_0
       have HR108_0 := Aside0.mk hi108_0
       have HC108_0 := Aside0.mk hl108_0
       clear hi108_0 hl108_0
       replace p108 := eq_true p108
       replace q108 := eq_true q108
       go_wp2
       (try simp only [add_plain])
       go_roundg k1
       case measure => have := HK1.out; omega
       case rel => exact ⟨(wrap64 (x3_1 + ((rd_L1 l0 x11_1).length : Int))), (wrap64 (x11_1 + 1)), (by first | rfl | (simp; done) | (simp [*]; done)), (by first | rfl | (simp; done) | (simp [*]; done)), H', ⟨by have := HK1.out; omega⟩, ⟨by repeat (first | (with_reducible first | exact HB.out | apply below_alloc | apply pw_below_drewN | apply below_drew1) | exact HB.out)⟩⟩
     ·rw [if_neg c4] at H
      exact absurd H (by simp)
    ·rw [if_neg c3] at H
     exact absurd H (by simp)
   ·rw [if_neg c2] at H
    have c2b0 : decide (x11_1 < (l0.length : Int)) = false := decide_eq_false c2
    clear c2
    replace H := Option.bind_eq_some_iff.mp H
    obtain ⟨t109, A60, H⟩ := H
    replace H : (slices_Concat_byte_byte.l1 k1 t109 l0 (l0.length : Int) 0) = some r := H
    have A6 := Aside0.mk A60
    clear A60
    have H' := Aside0.mk H
    clear H
    go_wp2_with (first | ((with_reducible refine gate_callee (f := 51) rfl ?_); refine goesL_ (some 24) rfl rfl Tryd.func51 (by kernel_rfl) rfl #[.slice none 0 0, .int .i64 x3_1] rfl (by (try simp only [List.map_toArray, List.map_cons, List.map_nil]); first | done | rfl | (simp only [List.length_drop, List.length_take]; rfl)) ?_; (refine (slices_Grow_byte_byte.calls _ _ ([] : List Int) x3_1 t109 _ ?side1 ?side2 A6.out).mono ?_); (case side1 => exact Kd.C_nil _ _); (case side2 => exact Nat.le_refl _); rintro e w7 ⟨v110, rfl, ho0, hb⟩; refine ⟨_, rfl, ?_⟩; have n0_ := Aside0.mk (Kd.R_lower ho0 (below_size (by repeat (first | (with_reducible first | exact HB.out | apply below_alloc | apply pw_below_drewN | apply below_drew1) | exact HB.out)))); have n1_ := Aside0.mk (below_step (by repeat (first | (with_reducible first | exact HB.out | apply below_alloc | apply pw_below_drewN | apply below_drew1) | exact HB.out)) hb); clear HB; have HO111 := n0_; have HB := n1_; clear n0_ n1_; (try clear hb); (try clear hb2); (try clear hk); (try clear hi); (try clear ho0)))
    (try simp only [add_plain])
    go_loopg [6, 27] k1 (fun kq v6 v27 w' => ∃ (x6_2 : List Int) (x27_2 : Int), v27 = .int .i64 x27_2 ∧ Aside0 (slices_Concat_byte_byte.l1 kq x6_2 l0 (l0.length : Int) x27_2 = some r) ∧ Aside0 (kq ≤ k1) ∧ Aside0 (Kd.R (Kd.int .u8) 5 w' w.heap.size (fun _ => True) v6 x6_2) ∧ Aside0 (Below w.heap.size w w'))
    case atStart => exact ⟨(t109), (0), (by first | rfl | (simp; done) | (simp [*]; done)), H', ⟨Nat.le_refl _⟩, ⟨by (with_reducible repeat (first | apply Kd.R_alloc | apply Kd.R_drewN | apply Kd.R_drew)); exact HO111.out⟩, ⟨by repeat (first | (with_reducible first | exact HB.out | apply below_alloc | apply pw_below_drewN | apply below_drew1) | exact HB.out)⟩⟩
    case round =>
     clear H'
     try clear c1
     try clear p1
     try clear q1
     try clear hx1
     try clear c2
     try clear c2b0
     try clear p2
     try clear c3
     try clear c3b0
     try clear c4
     try clear c4b0
     try clear c5
     try clear c5b0
     try clear p6
     try clear hx108_0
     try clear p108
     try clear q108
     obtain ⟨x6_2, x27_2, rfl, HA, HK2, HO_6, HB⟩ := hrel
     cases gk with
     | zero => exact absurd HA.out (by simp [slices_Concat_byte_byte.l1])
     | succ k2 =>
      have H := HA.out
      clear HA
      simp only [slices_Concat_byte_byte.l1] at H
      by_cases c8 : x27_2 < (l0.length : Int)
      ·rw [if_pos c8] at H
       have c8b0 : decide (x27_2 < (l0.length : Int)) = true := decide_eq_true c8
       clear c8
       by_cases c9 : 0 ≤ x27_2
       ·rw [if_pos c9] at H
        have c9b0 : decide (0 ≤ x27_2) = true := decide_eq_true c9
        clear c9
        by_cases c10 : x27_2 < (l0.length : Int)
        ·rw [if_pos c10] at H
         have c10b0 : decide (x27_2 < (l0.length : Int)) = true := decide_eq_true c10
         clear c10
         by_cases c11 : x6_2.length + (rd_L1 l0 x27_2).length < 140737488355328
         ·rw [if_pos c11] at H
          have LMc11 := Aside0.mk c11
          clear c11
          obtain ⟨y113, hy113⟩ : ∃ y_ : List Int, y_ = (x6_2 ++ (rd_L1 l0 x27_2)) := ⟨_, rfl⟩
          replace H : (slices_Concat_byte_byte.l1 k2 y113 l0 (l0.length : Int) (wrap64 (x27_2 + 1))) = some r := by first | (rw [hy113]; with_reducible exact H) | (have H2_ := (Option.bind_some _ _).symm.trans H; rw [hy113]; with_reducible exact H2_) | (have H2_ := (Option.bind_some _ _).symm.trans H; with_reducible exact H2_) | with_reducible exact H | (rw [hy113]; exact H) | exact H
          have Ny113 := Aside0.mk hy113
          clear hy113
          have H' := Aside0.mk H
          clear H
          have p112 : 0 ≤ (x27_2 : Int) := of_decide_eq_true (by first | (with_reducible assumption) | assumption)
          have q112 : x27_2 < (l0.length : Int) := of_decide_eq_true (by first | (with_reducible assumption) | assumption)
          obtain ⟨ad112, A112_0, c112_0, e112, hx112_0, hl112_0, hi112_0⟩ := at_L1 HR0.out x27_2 p112 q112
          cases e112
          replace hx112_0 := (HB.out.cell (World.block_lt_of_cell? w _ hx112_0)).trans hx112_0
          have HR112_0 := Aside0.mk hi112_0
          have HC112_0 := Aside0.mk hl112_0
          clear hi112_0 hl112_0
          replace p112 := eq_true p112
          replace q112 := eq_true q112
          go_wp2_with (first | ((with_reducible refine gate_builtin (b := .append) (xs := #[.tmp 31, .tmp 32]) rfl ?_); at_builtin; refine Kd.R_append_rows (Kd.int .u8) (w0 := w) w.heap.size rfl (.tmp 31) (.tmp 32) 32 5 (.int .u8 0) 1 rfl Tryd.underlying32 info5 rfl (by decide) (by omega) u6 x6_2 (rd_L1 l0 x27_2) _ _ _ (fun _ => True) (fun _ => False) rfl rfl ?aO ?aR (fun _ _ h => h) (fun _ h => h.elim) ?aF ?aB ?aS ?aL ?_; (case aR => repeat (first | exact (Kd.C_below HR112_0.out HB.out) | (with_reducible refine Kd.C_alloc ?_ _) | (with_reducible refine Kd.C_drewN ?_ _) | (with_reducible refine Kd.C_drew ?_))); (case aB => exact (by repeat (first | (with_reducible first | exact HB.out | apply below_alloc | apply pw_below_drewN | apply below_drew1) | exact HB.out))); (case aF => exact (fun _ _ => trivial)); (case aO => exact (by (with_reducible repeat (first | apply Kd.R_alloc | apply Kd.R_drewN | apply Kd.R_drew)); exact HO_6.out)); (case aS => exact (below_size (by repeat (first | (with_reducible first | exact HB.out | apply below_alloc | apply pw_below_drewN | apply below_drew1) | exact HB.out)))); (case aL => have := LMc11.out; omega); intro v114 w12 ho hb hg hat; rw [← Ny113.out] at ho; have n0_ := Aside0.mk (hb); have n1_ := Aside0.mk (ho); clear HB; clear HO_6; have HB := n0_; have HO115 := n1_; clear n0_ n1_; clear ho hb hg hat))
          (try simp only [add_plain])
          go_roundg k2
          case measure => have := HK1.out; have := HK2.out; omega
          case rel => exact ⟨(y113), (wrap64 (x27_2 + 1)), (by first | rfl | (simp; done) | (simp [*]; done)), H', ⟨by have := HK1.out; have := HK2.out; omega⟩, ⟨by (with_reducible repeat (first | apply Kd.R_alloc | apply Kd.R_drewN | apply Kd.R_drew)); exact HO115.out⟩, ⟨by repeat (first | (with_reducible first | exact HB.out | apply below_alloc | apply pw_below_drewN | apply below_drew1) | exact HB.out)⟩⟩
         ·rw [if_neg c11] at H
          exact absurd H (by simp)
        ·rw [if_neg c10] at H
         exact absurd H (by simp)
       ·rw [if_neg c9] at H
        exact absurd H (by simp)
      ·rw [if_neg c8] at H
       have c8b0 : decide (x27_2 < (l0.length : Int)) = false := decide_eq_false c8
       clear c8
       obtain rfl := Option.some.inj H
       go_wp2
       go_ret
       exact ⟨_, by first | rfl | (simp [errW_none, errW_some] <;> rfl) | (simp [*, errW_none, errW_some] <;> rfl), by (with_reducible repeat (first | apply Kd.R_alloc | apply Kd.R_drewN | apply Kd.R_drew)); exact HO_6.out, by repeat (first | (with_reducible first | exact HB.out | apply below_alloc | apply pw_below_drewN | apply below_drew1) | exact HB.out)⟩
def piece_number.f (a0 : Int) : Option (List Int) := some (([(a0 / 16777216) % 256, (a0 / 65536) % 256, (a0 / 256) % 256, (a0) % 256] : List Int))
set_option maxHeartbeats 8000000 in
set_option maxRecDepth 100000 in
theorem piece_number.calls (a0 : Int) (r : List Int) (w : World) (h : piece_number.f a0 = some r) :
  Calls Tryd.prog 41 #[.int .i64 a0] w fun e w' => ∃ v0_ : Value, e = .returned (v0_) ∧ Kd.R (Kd.int .u8) 5 w' w.heap.size (fun _ => True) v0_ r ∧ Below w.heap.size w w' := by
 have HB := Aside0.mk (Below.refl w.heap.size w)
 have H : (some (([(a0 / 16777216) % 256, (a0 / 65536) % 256, (a0 / 256) % 256, (a0) % 256] : List Int))) = some r := h
 clear h
 obtain ⟨y116, hy116⟩ : ∃ y_ : List Int, y_ = (([(a0 / 16777216) % 256, (a0 / 65536) % 256, (a0 / 256) % 256, (a0) % 256] : List Int)) := ⟨_, rfl⟩
 replace H : (some y116) = some r := by first | (rw [hy116]; with_reducible exact H) | (have H2_ := (Option.bind_some _ _).symm.trans H; rw [hy116]; with_reducible exact H2_) | (have H2_ := (Option.bind_some _ _).symm.trans H; with_reducible exact H2_) | with_reducible exact H | (rw [hy116]; exact H) | exact H
 have Ny116 := Aside0.mk hy116
 clear hy116
 obtain rfl := Option.some.inj H
 go_enter Tryd.func41, Tryd.ntmps41
 go_wp2_with (first | ((with_reducible refine gate_dst (N := 14) rfl ?_); refine Kd.R_lit (Kd.int .u8) _ 5 ?hg (N := 14) ?hd (xs := ([(a0 / 16777216) % 256, (a0 / 65536) % 256, (a0 / 256) % 256, (a0) % 256] : List Int)) (inner := [.int .u8 ((a0 / 16777216) % 256), .int .u8 ((a0 / 65536) % 256), .int .u8 ((a0 / 256) % 256), .int .u8 ((a0) % 256)]) (ok := fun _ => True) (okp := fun _ => True) ?hr ?hp (fun _ hk => hk) trivial (Below.refl _ _) (Nat.le_refl _) (by simp) ?_; (case hd => rfl); (case hg => rfl); (case hr => first | (go_simp; done) | (go_simp; rfl)); (case hp => exact (Reps.one (show Kd.M (Kd.int .u8) _ _ _ ((a0 / 16777216) % 256) [.int .u8 ((a0 / 16777216) % 256)] from rfl) (Reps.one (show Kd.M (Kd.int .u8) _ _ _ ((a0 / 65536) % 256) [.int .u8 ((a0 / 65536) % 256)] from rfl) (Reps.one (show Kd.M (Kd.int .u8) _ _ _ ((a0 / 256) % 256) [.int .u8 ((a0 / 256) % 256)] from rfl) (Reps.one (show Kd.M (Kd.int .u8) _ _ _ ((a0) % 256) [.int .u8 ((a0) % 256)] from rfl) (Reps.none _ _)))))); intro v117 w2 ho3 hb hg_ hnew_; clear hg_ hnew_; (first | rw [← Ny116.out] at ho3 | (simp only [Int.reduceToNat] at ho3; rw [← Ny116.out] at ho3)); have n0_ := Aside0.mk (Kd.R_lower ho3 (below_size (by repeat (first | (with_reducible first | exact HB.out | apply below_alloc | apply pw_below_drewN | apply below_drew1) | exact HB.out)))); have n1_ := Aside0.mk (below_step (by repeat (first | (with_reducible first | exact HB.out | apply below_alloc | apply pw_below_drewN | apply below_drew1) | exact HB.out)) hb); clear HB; have HO118 := n0_; have HB := n1_; clear n0_ n1_; clear hb ho3))
 go_ret
 exact ⟨_, by first | rfl | (simp [errW_none, errW_some] <;> rfl) | (simp [*, errW_none, errW_some] <;> rfl), by (with_reducible repeat (first | apply Kd.R_alloc | apply Kd.R_drewN | apply Kd.R_drew)); exact HO118.out, by repeat (first | (with_reducible first | exact HB.out | apply below_alloc | apply pw_below_drewN | apply below_drew1) | exact HB.out)⟩
end Go.Proofs.YtafjegfmmnjpfaaDoor.YLine
end
section
-- Own text, made by this session out of the translation by wip/tools/xprint.sh: Lean functions with the answers of Go functions, and their walks.
namespace Go.Proofs.YtafjegfmmnjpfaaDoor.YLine
open Go.RowKit Go.Proofs.YtafjegfmmnjpfaaDoorW.PrintWords Go.Proofs.YtafjegfmmnjpfaaDoorW.PrintLast Go.Proofs.YtafjegfmmnjpfaaDoorW.PrintMore
attribute [local go_sem] max2_int min2_int max_two min_two max_three min_three max_four min_four   -- for this text's walks alone
set_option linter.unusedVariables false
set_option linter.unusedSimpArgs false
def piece_Write.f (k : Nat) (a0_0 : Int) (a0_1 : Int) (a0_2 : Bool) (l0_3 : List Int) : Option (List Int × Option Int) := (piece_may.f k a0_0 a0_1 a0_2 l0_3).bind fun t120 => (if t120 = true then (if a0_2 = true then ((piece_number.f a0_0).bind fun t121 => ((piece_number.f a0_1).bind fun t124 => ((slices_Concat_byte_byte.f k (([t121, t124, (([1] : List Int)), l0_3] : List (List Int)))).bind fun t133 => (some (t133, none))))) else ((piece_number.f a0_0).bind fun t136 => ((piece_number.f a0_1).bind fun t139 => ((slices_Concat_byte_byte.f k (([t136, t139, (([0] : List Int)), l0_3] : List (List Int)))).bind fun t148 => (some (t148, none)))))) else (some (([] : List Int), some 1)))
theorem piece_Write.mono : ∀ a0 a1 a2 a3 k, LeO (piece_Write.f k a0 a1 a2 a3) (piece_Write.f (k + 1) a0 a1 a2 a3) := by
 intro a0 a1 a2 a3 k
 unfold piece_Write.f
 repeat' first
   | (with_reducible exact piece_may.mono _ _ _ _ _)
   | (with_reducible exact slices_Concat_byte_byte.mono _ _)
   | (with_reducible exact LeO.refl _)
   | (with_reducible exact LeO.none _)
   | (with_reducible refine LeO.ite ?_ ?_)
   | (with_reducible refine LeO.bind ?_ (fun _ => ?_))
   | exact piece_may.mono _ _ _ _ _
   | exact slices_Concat_byte_byte.mono _ _
   | exact LeO.none _
   | refine LeO.ite ?_ ?_
   | refine LeO.bind ?_ (fun _ => ?_)
def piece_Write.T6 : Bool × List (List Nat × List Nat) := (true, [([], []), ([0], [0]), ([1], [1]), ([], []), ([3], [3]), ([4, 2], [4]), ([], []), ([6], [6]), ([], []), ([8], [8]), ([2, 5, 7, 9], [2, 5, 7, 9]), ([10, 5], [10]), ([11, 11, 0, 1, 2, 3, 4, 5, 6, 7, 8, 9, 10, 11], [11]), ([12, 0, 1, 2, 3, 4, 5, 6, 7, 8, 9, 10, 11, 12], [])])
def piece_Write.B6 : List Nat := [0, 1, 3, 0, 8, 31, 0, 64, 0, 256, 1023, 2047, 4095, 8191]
theorem piece_Write.tab6 : rtab .any (opsOf Tryd.f29 6) = piece_Write.T6 := by kernel_rfl
theorem piece_Write.bits6 : waitsOk piece_Write.T6.2 piece_Write.B6 = true := by kernel_rfl
set_option maxHeartbeats 8000000 in
set_option maxRecDepth 100000 in
theorem piece_Write.calls (k : Nat) (a0_0 : Int) (a0_1 : Int) (a0_2 : Bool) (P0_3_ : Nat → Prop) (A0_3 : Option Addr) (c0_3 : Nat) (l0_3 : List Int) (r1 : List Int) (r2 : Option Int) (w : World) (hs0_3 : Kd.V (Kd.int .u8) 5 w w.heap.size (fun k_ => P0_3_ k_) (.slice A0_3 l0_3.length c0_3) l0_3) (h : piece_Write.f k a0_0 a0_1 a0_2 l0_3 = some (r1, r2)) :
  Calls Tryd.prog 29 #[.agg #[.int .i64 a0_0, .int .i64 a0_1, .bool a0_2, .slice A0_3 l0_3.length c0_3]] w fun e w' => ∃ v0_ : Value, e = .returned (.tuple #[v0_, errW r2]) ∧ Kd.R (Kd.int .u8) 5 w' w.heap.size (fun k_ => (w.heap.size ≤ k_)) v0_ r1 ∧ Below w.heap.size w w' := by
 have hu37 := Tryd.underlying37
 have hu30 := Tryd.underlying30
 have hu67 := Tryd.underlying67
 have HO0_3 := Aside0.mk (show Kd.V (Kd.int .u8) 5 w w.heap.size (fun k_ => (P0_3_ k_ ∨ w.heap.size ≤ k_)) (.slice A0_3 l0_3.length c0_3) l0_3 from Kd.V_mono hs0_3 (fun k_ hk => by (repeat' (with_reducible apply And.intro)) <;> first | exact trivial | exact hk | exact hk.1 | exact hk.2 | exact hk.1.1 | exact hk.1.2 | exact hk.2.1 | exact hk.2.2 | exact hk.1.1.1 | exact hk.1.1.2 | exact hk.1.2.1 | exact hk.1.2.2 | exact hk.2.1.1 | exact hk.2.1.2 | exact hk.2.2.1 | exact hk.2.2.2 | exact hk.1.1.1.1 | exact hk.1.1.1.2 | exact hk.1.1.2.1 | exact hk.1.1.2.2 | exact hk.1.2.1.1 | exact hk.1.2.1.2 | exact hk.1.2.2.1 | exact hk.1.2.2.2 | exact hk.2.1.1.1 | exact hk.2.1.1.2 | exact hk.2.1.2.1 | exact hk.2.1.2.2 | exact hk.2.2.1.1 | exact hk.2.2.1.2 | exact hk.2.2.2.1 | exact hk.2.2.2.2 | exact hk.1.1.1.1.1 | exact hk.1.1.1.1.2 | exact hk.1.1.1.2.2 | exact hk.1.1.2.2.2 | exact hk.1.2.2.2.2 | exact hk.2.1.1.1.1 | exact hk.2.2.1.1.1 | exact hk.2.2.2.1.1 | exact hk.2.2.2.2.1 | exact hk.2.2.2.2.2 | exact hk.1.1.1.1.1.1 | exact hk.1.1.1.1.1.2 | exact hk.1.1.1.1.2.2 | exact hk.1.1.1.2.2.2 | exact hk.1.1.2.2.2.2 | exact hk.1.2.2.2.2.2 | exact hk.2.1.1.1.1.1 | exact hk.2.2.1.1.1.1 | exact hk.2.2.2.1.1.1 | exact hk.2.2.2.2.1.1 | exact hk.2.2.2.2.2.1 | exact hk.2.2.2.2.2.2 | exact .inr hk | exact .inr hk.1 | exact .inr hk.2 | exact .inr hk.1.1 | exact .inr hk.1.2 | exact .inr hk.2.1 | exact .inr hk.2.2 | exact .inr hk.1.1.1 | exact .inr hk.1.1.2 | exact .inr hk.1.2.1 | exact .inr hk.1.2.2 | exact .inr hk.2.1.1 | exact .inr hk.2.1.2 | exact .inr hk.2.2.1 | exact .inr hk.2.2.2 | exact .inl hk | exact .inl hk.1))
 have HB := Aside0.mk (Below.refl w.heap.size w)
 have H : ((piece_may.f k a0_0 a0_1 a0_2 l0_3).bind fun t120 => (if t120 = true then (if a0_2 = true then ((piece_number.f a0_0).bind fun t121 => ((piece_number.f a0_1).bind fun t124 => ((slices_Concat_byte_byte.f k (([t121, t124, (([1] : List Int)), l0_3] : List (List Int)))).bind fun t133 => (some (t133, none))))) else ((piece_number.f a0_0).bind fun t136 => ((piece_number.f a0_1).bind fun t139 => ((slices_Concat_byte_byte.f k (([t136, t139, (([0] : List Int)), l0_3] : List (List Int)))).bind fun t148 => (some (t148, none)))))) else (some (([] : List Int), some 1)))) = some (r1, r2) := h
 clear h
 replace H := Option.bind_eq_some_iff.mp H
 obtain ⟨t120, A20, H⟩ := H
 replace H : (if t120 = true then (if a0_2 = true then ((piece_number.f a0_0).bind fun t121 => ((piece_number.f a0_1).bind fun t124 => ((slices_Concat_byte_byte.f k (([t121, t124, (([1] : List Int)), l0_3] : List (List Int)))).bind fun t133 => (some (t133, none))))) else ((piece_number.f a0_0).bind fun t136 => ((piece_number.f a0_1).bind fun t139 => ((slices_Concat_byte_byte.f k (([t136, t139, (([0] : List Int)), l0_3] : List (List Int)))).bind fun t148 => (some (t148, none)))))) else (some (([] : List Int), some 1))) = some (r1, r2) := H
 have A2 := Aside0.mk A20
 clear A20
 by_cases c3 : t120 = true
 ·subst c3
  have H1 : (if a0_2 = true then ((piece_number.f a0_0).bind fun t121 => ((piece_number.f a0_1).bind fun t124 => ((slices_Concat_byte_byte.f k (([t121, t124, (([1] : List Int)), l0_3] : List (List Int)))).bind fun t133 => (some (t133, none))))) else ((piece_number.f a0_0).bind fun t136 => ((piece_number.f a0_1).bind fun t139 => ((slices_Concat_byte_byte.f k (([t136, t139, (([0] : List Int)), l0_3] : List (List Int)))).bind fun t148 => (some (t148, none)))))) = some (r1, r2) := by rw [if_pos rfl] at H; exact H
  clear H
  have H := H1
  clear H1
  by_cases c4 : a0_2 = true
  ·subst c4
   have H1 : ((piece_number.f a0_0).bind fun t121 => ((piece_number.f a0_1).bind fun t124 => ((slices_Concat_byte_byte.f k (([t121, t124, (([1] : List Int)), l0_3] : List (List Int)))).bind fun t133 => (some (t133, none))))) = some (r1, r2) := by rw [if_pos rfl] at H; exact H
   clear H
   have H := H1
   clear H1
   replace H := Option.bind_eq_some_iff.mp H
   obtain ⟨t121, A50, H⟩ := H
   replace H : ((piece_number.f a0_1).bind fun t124 => ((slices_Concat_byte_byte.f k (([t121, t124, (([1] : List Int)), l0_3] : List (List Int)))).bind fun t133 => (some (t133, none)))) = some (r1, r2) := H
   have A5 := Aside0.mk A50
   clear A50
   replace H := Option.bind_eq_some_iff.mp H
   obtain ⟨t124, A60, H⟩ := H
   replace H : ((slices_Concat_byte_byte.f k (([t121, t124, (([1] : List Int)), l0_3] : List (List Int)))).bind fun t133 => (some (t133, none))) = some (r1, r2) := H
   have A6 := Aside0.mk A60
   clear A60
   obtain ⟨y127, hy127⟩ : ∃ y_ : List Int, y_ = (([1] : List Int)) := ⟨_, rfl⟩
   replace H : ((slices_Concat_byte_byte.f k (([t121, t124, y127, l0_3] : List (List Int)))).bind fun t133 => (some (t133, none))) = some (r1, r2) := by first | (rw [hy127]; with_reducible exact H) | (have H2_ := (Option.bind_some _ _).symm.trans H; rw [hy127]; with_reducible exact H2_) | (have H2_ := (Option.bind_some _ _).symm.trans H; with_reducible exact H2_) | with_reducible exact H | (rw [hy127]; exact H) | exact H
   have Ny127 := Aside0.mk hy127
   clear hy127
   obtain ⟨y130, hy130⟩ : ∃ y_ : List (List Int), y_ = (([t121, t124, y127, l0_3] : List (List Int))) := ⟨_, rfl⟩
   replace H : ((slices_Concat_byte_byte.f k y130).bind fun t133 => (some (t133, none))) = some (r1, r2) := by first | (rw [hy130]; with_reducible exact H) | (have H2_ := (Option.bind_some _ _).symm.trans H; rw [hy130]; with_reducible exact H2_) | (have H2_ := (Option.bind_some _ _).symm.trans H; with_reducible exact H2_) | with_reducible exact H | (rw [hy130]; exact H) | exact H
   have Ny130 := Aside0.mk hy130
   clear hy130
   replace H := Option.bind_eq_some_iff.mp H
   obtain ⟨t133, A70, H⟩ := H
   replace H : (some (t133, none)) = some (r1, r2) := H
   have A7 := Aside0.mk A70
   clear A70
   simp only [Option.some.injEq, Prod.mk.injEq] at H
   obtain ⟨rfl, rfl⟩ := H
   go_enter Tryd.func29, Tryd.ntmps29
   try go_wp2_with (first | ((with_reducible refine gate_dst (N := 1) rfl ?_); refine box_event ?hg (N := 1) ?hd (cs := #[.int .i64 a0_0, .int .i64 a0_1, .bool true, .slice A0_3 l0_3.length c0_3]) (t := 37) ?hr ?_; (case hd => rfl); (case hg => rfl); (case hr => first | (go_simp; done) | (go_simp; rfl)); intro gb119 hg w8 hbox hb; have n0_ := Aside0.mk (Kd.V_below (Kd.V_elderB (by (with_reducible repeat (first | apply Kd.V_alloc | apply Kd.V_drewN | apply Kd.V_drew)); first | exact HO0_3.out | exact Kd.V_mono HO0_3.out (fun _ hk => by (repeat' (with_reducible apply And.intro)) <;> first | exact trivial | exact hk | exact hk.1 | exact hk.2 | exact hk.1.1 | exact hk.1.2 | exact hk.2.1 | exact hk.2.2 | exact hk.1.1.1 | exact hk.1.1.2 | exact hk.1.2.1 | exact hk.1.2.2 | exact hk.2.1.1 | exact hk.2.1.2 | exact hk.2.2.1 | exact hk.2.2.2 | exact hk.1.1.1.1 | exact hk.1.1.1.2 | exact hk.1.1.2.1 | exact hk.1.1.2.2 | exact hk.1.2.1.1 | exact hk.1.2.1.2 | exact hk.1.2.2.1 | exact hk.1.2.2.2 | exact hk.2.1.1.1 | exact hk.2.1.1.2 | exact hk.2.1.2.1 | exact hk.2.1.2.2 | exact hk.2.2.1.1 | exact hk.2.2.1.2 | exact hk.2.2.2.1 | exact hk.2.2.2.2 | exact hk.1.1.1.1.1 | exact hk.1.1.1.1.2 | exact hk.1.1.1.2.2 | exact hk.1.1.2.2.2 | exact hk.1.2.2.2.2 | exact hk.2.1.1.1.1 | exact hk.2.2.1.1.1 | exact hk.2.2.2.1.1 | exact hk.2.2.2.2.1 | exact hk.2.2.2.2.2 | exact hk.1.1.1.1.1.1 | exact hk.1.1.1.1.1.2 | exact hk.1.1.1.1.2.2 | exact hk.1.1.1.2.2.2 | exact hk.1.1.2.2.2.2 | exact hk.1.2.2.2.2.2 | exact hk.2.1.1.1.1.1 | exact hk.2.2.1.1.1.1 | exact hk.2.2.2.1.1.1 | exact hk.2.2.2.2.1.1 | exact hk.2.2.2.2.2.1 | exact hk.2.2.2.2.2.2 | exact .inr hk | exact .inr hk.1 | exact .inr hk.2 | exact .inr hk.1.1 | exact .inr hk.1.2 | exact .inr hk.2.1 | exact .inr hk.2.2 | exact .inr hk.1.1.1 | exact .inr hk.1.1.2 | exact .inr hk.1.2.1 | exact .inr hk.1.2.2 | exact .inr hk.2.1.1 | exact .inr hk.2.1.2 | exact .inr hk.2.2.1 | exact .inr hk.2.2.2 | exact .inl hk | exact .inl hk.1)) gb119 (Nat.le_of_eq hg.symm)) hb); have n1_ := Aside0.mk (below_step (by repeat (first | (with_reducible first | exact HB.out | apply below_alloc | apply pw_below_drewN | apply below_drew1) | exact HB.out)) hb); have n2_ := Aside0.mk (hbox); have n3_ := Aside0.mk ((by rw [hg]; exact (below_size (by repeat (first | (with_reducible first | exact HB.out | apply below_alloc | apply pw_below_drewN | apply below_drew1) | exact HB.out))) : w.heap.size ≤ gb119)); have n4_ := Aside0.mk ((by rw [hg]; exact (below_size (by repeat (first | (with_reducible first | exact HB.out | apply below_alloc | apply pw_below_drewN | apply below_drew1) | exact HB.out))) : w.heap.size ≤ gb119)); clear HO0_3; clear HB; have HO0_3 := n0_; have HB := n1_; have BK119 := n2_; have GW119 := n3_; have GE119 := n4_; clear n0_ n1_ n2_ n3_ n4_; clear hb hbox hg; have hcz9_0 : w8.cell? ⟨gb119, 0, none⟩ = some (.int .i64 a0_0) := (blk_cell BK119.out 0).trans rfl; have hcz9_1 : w8.cell? ⟨gb119, 1, none⟩ = some (.int .i64 a0_1) := (blk_cell BK119.out 1).trans rfl; have hcz9_2 : w8.cell? ⟨gb119, 2, none⟩ = some (.bool true) := (blk_cell BK119.out 2).trans rfl; have hcz9_3 : w8.cell? ⟨gb119, 3, none⟩ = some (.slice A0_3 l0_3.length c0_3) := (blk_cell BK119.out 3).trans rfl; have hfz9_0 := blk_frozen BK119.out 0; have hfz9_1 := blk_frozen BK119.out 1; have hfz9_2 := blk_frozen BK119.out 2; have hfz9_3 := blk_frozen BK119.out 3) | ((with_reducible refine gate_callee (f := 39) rfl ?_); refine goesL_ (some 6) rfl rfl Tryd.func39 (by kernel_rfl) rfl #[.agg #[.int .i64 a0_0, .int .i64 a0_1, .bool true, .slice A0_3 l0_3.length c0_3]] rfl (by (try simp only [List.map_toArray, List.map_cons, List.map_nil]); first | done | rfl | (simp only [List.length_drop, List.length_take]; rfl)) ?_; (with_reducible refine (piece_may.calls k a0_0 a0_1 true _ _ l0_3 true _ ?side1 ?side2 A2.out).mono ?_); (case side1 => repeat (first | exact (Kd.V_reads' HO0_3.out).2.2 | (with_reducible refine Kd.C_alloc ?_ _) | (with_reducible refine Kd.C_drewN ?_ _) | (with_reducible refine Kd.C_drew ?_))); (case side2 => exact (Kd.V_reads' HO0_3.out).2.1); rintro e w10 ⟨rfl, hb⟩; refine ⟨_, rfl, ?_⟩; have n0_ := Aside0.mk (Kd.V_below (by (with_reducible repeat (first | apply Kd.V_alloc | apply Kd.V_drewN | apply Kd.V_drew)); first | exact HO0_3.out | exact Kd.V_mono HO0_3.out (fun _ hk => by (repeat' (with_reducible apply And.intro)) <;> first | exact trivial | exact hk | exact hk.1 | exact hk.2 | exact hk.1.1 | exact hk.1.2 | exact hk.2.1 | exact hk.2.2 | exact hk.1.1.1 | exact hk.1.1.2 | exact hk.1.2.1 | exact hk.1.2.2 | exact hk.2.1.1 | exact hk.2.1.2 | exact hk.2.2.1 | exact hk.2.2.2 | exact hk.1.1.1.1 | exact hk.1.1.1.2 | exact hk.1.1.2.1 | exact hk.1.1.2.2 | exact hk.1.2.1.1 | exact hk.1.2.1.2 | exact hk.1.2.2.1 | exact hk.1.2.2.2 | exact hk.2.1.1.1 | exact hk.2.1.1.2 | exact hk.2.1.2.1 | exact hk.2.1.2.2 | exact hk.2.2.1.1 | exact hk.2.2.1.2 | exact hk.2.2.2.1 | exact hk.2.2.2.2 | exact hk.1.1.1.1.1 | exact hk.1.1.1.1.2 | exact hk.1.1.1.2.2 | exact hk.1.1.2.2.2 | exact hk.1.2.2.2.2 | exact hk.2.1.1.1.1 | exact hk.2.2.1.1.1 | exact hk.2.2.2.1.1 | exact hk.2.2.2.2.1 | exact hk.2.2.2.2.2 | exact hk.1.1.1.1.1.1 | exact hk.1.1.1.1.1.2 | exact hk.1.1.1.1.2.2 | exact hk.1.1.1.2.2.2 | exact hk.1.1.2.2.2.2 | exact hk.1.2.2.2.2.2 | exact hk.2.1.1.1.1.1 | exact hk.2.2.1.1.1.1 | exact hk.2.2.2.1.1.1 | exact hk.2.2.2.2.1.1 | exact hk.2.2.2.2.2.1 | exact hk.2.2.2.2.2.2 | exact .inr hk | exact .inr hk.1 | exact .inr hk.2 | exact .inr hk.1.1 | exact .inr hk.1.2 | exact .inr hk.2.1 | exact .inr hk.2.2 | exact .inr hk.1.1.1 | exact .inr hk.1.1.2 | exact .inr hk.1.2.1 | exact .inr hk.1.2.2 | exact .inr hk.2.1.1 | exact .inr hk.2.1.2 | exact .inr hk.2.2.1 | exact .inr hk.2.2.2 | exact .inl hk | exact .inl hk.1)) hb); have n1_ := Aside0.mk (blk_below (g := gb119) (o := .cells #[.int .i64 a0_0, .int .i64 a0_1, .bool true, .slice A0_3 l0_3.length c0_3] 37 (0, 0)) (by (with_reducible repeat (first | refine blk_drewN ?_ _ | refine blk_drew ?_ | refine blk_alloc ?_ _)); exact BK119.out) hb); have n2_ := Aside0.mk (below_step (by repeat (first | (with_reducible first | exact HB.out | apply below_alloc | apply pw_below_drewN | apply below_drew1 | refine below_set ?_ GE119.out) | exact HB.out)) hb); clear HO0_3; clear BK119; clear HB; have HO0_3 := n0_; have BK119 := n1_; have HB := n2_; clear n0_ n1_ n2_; (try clear hb); (try clear hb2); (try clear hk); (try clear hi); have hcz11_0 : w10.cell? ⟨gb119, 0, none⟩ = some (.int .i64 a0_0) := (blk_cell BK119.out 0).trans rfl; have hcz11_1 : w10.cell? ⟨gb119, 1, none⟩ = some (.int .i64 a0_1) := (blk_cell BK119.out 1).trans rfl; have hcz11_2 : w10.cell? ⟨gb119, 2, none⟩ = some (.bool true) := (blk_cell BK119.out 2).trans rfl; have hcz11_3 : w10.cell? ⟨gb119, 3, none⟩ = some (.slice A0_3 l0_3.length c0_3) := (blk_cell BK119.out 3).trans rfl; have hfz11_0 := blk_frozen BK119.out 0; have hfz11_1 := blk_frozen BK119.out 1; have hfz11_2 := blk_frozen BK119.out 2; have hfz11_3 := blk_frozen BK119.out 3))
   have n0_ := Aside0.mk (Kd.V_drew HO0_3.out)
   have n1_ := Aside0.mk (blk_drew BK119.out)
   have n2_ := Aside0.mk (below_drew1 HB.out)
   clear HO0_3
   clear BK119
   clear HB
   have HO0_3 := n0_
   have BK119 := n1_
   have HB := n2_
   clear n0_ n1_ n2_
   refine start_ (n := 14) (S := fun w' => True) (ds := []) #[false, false, false, false, false, false, false, false, false, false, false, false, false, false] (by kernel_rfl) rfl rfl trivial (fun hHeld => ?_); refine with_tabW piece_Write.tab6 piece_Write.bits6 (fun HT_ HW_ => ?_)
   generalize w10.drew = w12 at HO0_3 BK119 HB hHeld ⊢
   refine pure_ (i := 0) (N := some 11) (v := ?_) (a' := ?_) #[true, false, false, false, false, false, false, false, false, false, false, false, false, false] rfl rfl (any_of HT_.out (by kernel_rfl)) (fun _ _ _ h => h) (Or.inl ⟨by rfl, ?_⟩) ?_ ?_
   rotate_left
   ·intro w'
    go_simp
    with_reducible rfl
   rotate_left
   ·simp only [Act.put, List.setIfInBounds_toArray, List.set_cons_zero, List.set_cons_succ, i64_w, i32_w]
    rfl
   refine pure_ (i := 3) (N := some 14) (v := ?_) (a' := ?_) #[true, false, false, true, false, false, false, false, false, false, false, false, false, false] rfl rfl (any_of HT_.out (by kernel_rfl)) (fun _ _ _ h => h) (Or.inl ⟨by rfl, ?_⟩) ?_ ?_
   rotate_left
   ·intro w'
    go_simp
    with_reducible rfl
   rotate_left
   ·simp only [Act.put, List.setIfInBounds_toArray, List.set_cons_zero, List.set_cons_succ, i64_w, i32_w]
    rfl
   refine pure_ (i := 6) (N := some 17) (v := ?_) (a' := ?_) #[true, false, false, true, false, false, true, false, false, false, false, false, false, false] rfl rfl (any_of HT_.out (by kernel_rfl)) (fun _ _ _ h => h) (Or.inl ⟨by rfl, ?_⟩) ?_ ?_
   rotate_left
   ·intro w'
    go_simp
    with_reducible rfl
   rotate_left
   ·simp only [Act.put, List.setIfInBounds_toArray, List.set_cons_zero, List.set_cons_succ, i64_w, i32_w]
    rfl
   refine pure_ (i := 8) (N := some 19) (v := ?_) (a' := ?_) #[true, false, false, true, false, false, true, false, true, false, false, false, false, false] rfl rfl (any_of HT_.out (by kernel_rfl)) (fun _ _ _ h => h) (Or.inl ⟨by rfl, ?_⟩) ?_ ?_
   rotate_left
   ·intro w'
    go_simp
    with_reducible rfl
   rotate_left
   ·simp only [Act.put, List.setIfInBounds_toArray, List.set_cons_zero, List.set_cons_succ, i64_w, i32_w]
    rfl
   refine inv_at [1, 2, 4, 5, 7, 9, 10, 11, 12, 13] (fun a0_ b a w' => ∃ (v122 : Value) (v125 : Value) (v128 : Value) (v131 : Value) (v134 : Value) (m12_ : Value), a = putSel a0_ b [(1, 12, .int .i64 a0_0), (2, 13, v122), (4, 15, .int .i64 a0_1), (5, 16, v125), (7, 18, v128), (9, 20, .slice A0_3 l0_3.length c0_3), (10, 21, v131), (11, 22, v134), (12, 2, m12_), (13, 3, errW none)] ∧ (Kd.V (Kd.int .u8) 5 w' w.heap.size (fun k_ => (P0_3_ k_ ∨ w.heap.size ≤ k_) ∧ k_ ≠ gb119) (.slice A0_3 l0_3.length c0_3) l0_3) ∧ (w'.heap[gb119]? = some (.cells #[.int .i64 a0_0, .int .i64 a0_1, .bool true, .slice A0_3 l0_3.length c0_3] 37 (0, 0))) ∧ (Below w.heap.size w w') ∧ (b 2 = true → b 10 = false → Kd.R (Kd.int .u8) 5 w' w.heap.size (fun k_ => (w.heap.size ≤ k_)) v122 t121) ∧ (b 5 = true → b 10 = false → Kd.R (Kd.int .u8) 5 w' w.heap.size (fun k_ => (w.heap.size ≤ k_)) v125 t124) ∧ (b 7 = true → b 10 = false → Kd.R (Kd.int .u8) 5 w' w.heap.size (fun k_ => (w.heap.size ≤ k_)) v128 y127) ∧ (b 10 = true → Kd.N (Kd.slice 5 (Kd.int .u8)) 32 w' w.heap.size (fun k_ => (P0_3_ k_ ∨ w.heap.size ≤ k_) ∧ k_ ≠ gb119) v131 y130) ∧ (b 11 = true → Kd.R (Kd.int .u8) 5 w' w.heap.size (fun k_ => (w.heap.size ≤ k_)) v134 t133) ∧ (b 12 = true → (m12_ : Value) = v134)) HT_.out HW_.out (by kernel_rfl) (by kernel_rfl) ?_ ?_ ?_
   ·exact ⟨.bool false, .bool false, .bool false, .bool false, .bool false, .bool false, by simp only [putSel, Bool.false_eq_true, if_false], HO0_3.out, BK119.out, HB.out, fun h_ => absurd h_ (by decide), fun h_ => absurd h_ (by decide), fun h_ => absurd h_ (by decide), fun h_ => absurd h_ (by decide), fun h_ => absurd h_ (by decide), fun h_ => absurd h_ (by decide)⟩
   ·skip
    clear BK119 HB HO0_3
    refine steps_cons ?_ ?_
    ·rintro b a w' ⟨v122, v125, v128, v131, v134, m12_, ha, Q_HO0_3, Q_BK119, Q_HB, Q_HO123, Q_HO126, Q_HO129, Q_HO132, Q_HO135, Q_X12_⟩ hb_ hon hoff
     refine ⟨_, rfl, fun K hK => ?_⟩
     have e11 : a.tmps[11]? = some (.pointer (some ⟨gb119, 0, none⟩)) := by rw [ha]; exact (putSel_off rfl).trans rfl
     replace ha := Aside0.mk ha
     have HO0_3 := Aside0.mk Q_HO0_3
     have BK119 := Aside0.mk Q_BK119
     have HB := Aside0.mk Q_HB
     have hc0_ : w'.cell? ⟨gb119, 0, none⟩ = some (.int .i64 a0_0) := (blk_cell BK119.out 0).trans rfl
     have hc1_ : w'.cell? ⟨gb119, 1, none⟩ = some (.int .i64 a0_1) := (blk_cell BK119.out 1).trans rfl
     have hc2_ : w'.cell? ⟨gb119, 2, none⟩ = some (.bool true) := (blk_cell BK119.out 2).trans rfl
     have hc3_ : w'.cell? ⟨gb119, 3, none⟩ = some (.slice A0_3 l0_3.length c0_3) := (blk_cell BK119.out 3).trans rfl
     refine value_ (w1 := w') (v := .int .i64 a0_0) (by rfl) rfl ?_ ?_
     ·go_simp
      (try simp only [i64_w])
      try rfl
     refine hK.out _ _ ⟨v122, v125, v128, v131, v134, m12_, (by rw [ha.out]; exact putSel_upk 0 hb_ rfl rfl rfl), Q_HO0_3, Q_BK119, Q_HB, fun h0_ _ => absurd ((hoff 2 (by kernel_rfl)).symm.trans h0_) (by decide), fun h0_ _ => absurd ((hoff 5 (by kernel_rfl)).symm.trans h0_) (by decide), Q_HO129, fun h0_ => absurd ((hoff 10 (by kernel_rfl)).symm.trans h0_) (by decide), fun h0_ => absurd ((hoff 11 (by kernel_rfl)).symm.trans h0_) (by decide), fun h0_ => absurd ((hoff 12 (by kernel_rfl)).symm.trans h0_) (by decide)⟩
    refine steps_cons ?_ ?_
    ·rintro b a w' ⟨v122, v125, v128, v131, v134, m12_, ha, Q_HO0_3, Q_BK119, Q_HB, Q_HO123, Q_HO126, Q_HO129, Q_HO132, Q_HO135, Q_X12_⟩ hb_ hon hoff
     refine ⟨_, rfl, fun K hK => ?_⟩
     have e12 : a.tmps[12]? = some (.int .i64 a0_0) := by rw [ha]; exact putSel_on (e := (1, 12, .int .i64 a0_0)) 0 rfl rfl (hon 1 (by kernel_rfl)) rfl
     replace ha := Aside0.mk ha
     have HO0_3 := Aside0.mk Q_HO0_3
     have BK119 := Aside0.mk Q_BK119
     have HB := Aside0.mk Q_HB
     refine goes_ Tryd.func41 (by kernel_rfl) rfl #[.int .i64 a0_0] (by rfl) rfl rfl (by first | (simp only [List.map_toArray, List.map_cons, List.map_nil, Act.eval, Array.getD_eq_getD_getElem?, Option.getD_some, e12]; done) | (simp only [List.map_toArray, List.map_cons, List.map_nil, Act.eval, Array.getD_eq_getD_getElem?, Option.getD_some, e12]; rfl)) ?_
     with_reducible refine (piece_number.calls a0_0 t121 _ A5.out).mono ?_
     rintro e w13 ⟨v122, rfl, ho0, hb⟩
     refine ⟨_, rfl, ?_⟩
     have n0_ := Aside0.mk (Kd.V_elder' (by (with_reducible repeat (first | apply Kd.V_alloc | apply Kd.V_drewN | apply Kd.V_drew)); first | exact HO0_3.out | exact Kd.V_mono HO0_3.out (fun _ hk => by (repeat' (with_reducible apply And.intro)) <;> first | exact trivial | exact hk | exact hk.1 | exact hk.2 | exact hk.1.1 | exact hk.1.2 | exact hk.2.1 | exact hk.2.2 | exact hk.1.1.1 | exact hk.1.1.2 | exact hk.1.2.1 | exact hk.1.2.2 | exact hk.2.1.1 | exact hk.2.1.2 | exact hk.2.2.1 | exact hk.2.2.2 | exact hk.1.1.1.1 | exact hk.1.1.1.2 | exact hk.1.1.2.1 | exact hk.1.1.2.2 | exact hk.1.2.1.1 | exact hk.1.2.1.2 | exact hk.1.2.2.1 | exact hk.1.2.2.2 | exact hk.2.1.1.1 | exact hk.2.1.1.2 | exact hk.2.1.2.1 | exact hk.2.1.2.2 | exact hk.2.2.1.1 | exact hk.2.2.1.2 | exact hk.2.2.2.1 | exact hk.2.2.2.2 | exact hk.1.1.1.1.1 | exact hk.1.1.1.1.2 | exact hk.1.1.1.2.2 | exact hk.1.1.2.2.2 | exact hk.1.2.2.2.2 | exact hk.2.1.1.1.1 | exact hk.2.2.1.1.1 | exact hk.2.2.2.1.1 | exact hk.2.2.2.2.1 | exact hk.2.2.2.2.2 | exact hk.1.1.1.1.1.1 | exact hk.1.1.1.1.1.2 | exact hk.1.1.1.1.2.2 | exact hk.1.1.1.2.2.2 | exact hk.1.1.2.2.2.2 | exact hk.1.2.2.2.2.2 | exact hk.2.1.1.1.1.1 | exact hk.2.2.1.1.1.1 | exact hk.2.2.2.1.1.1 | exact hk.2.2.2.2.1.1 | exact hk.2.2.2.2.2.1 | exact hk.2.2.2.2.2.2 | exact .inr hk | exact .inr hk.1 | exact .inr hk.2 | exact .inr hk.1.1 | exact .inr hk.1.2 | exact .inr hk.2.1 | exact .inr hk.2.2 | exact .inr hk.1.1.1 | exact .inr hk.1.1.2 | exact .inr hk.1.2.1 | exact .inr hk.1.2.2 | exact .inr hk.2.1.1 | exact .inr hk.2.1.2 | exact .inr hk.2.2.1 | exact .inr hk.2.2.2 | exact .inl hk | exact .inl hk.1)) (Kd.R_base ho0) hb)
     have n1_ := Aside0.mk (Kd.R_lower (Kd.R_newM (M := fun k_ => (w.heap.size ≤ k_)) ho0 (below_size (by repeat (first | (with_reducible first | exact HB.out | apply below_alloc | apply pw_below_drewN | apply below_drew1 | refine below_set ?_ GE119.out) | exact HB.out))) (fun k_ h_ => h_)) (below_size (by repeat (first | (with_reducible first | exact HB.out | apply below_alloc | apply pw_below_drewN | apply below_drew1 | refine below_set ?_ GE119.out) | exact HB.out))))
     have n2_ := Aside0.mk (blk_below (g := gb119) (o := .cells #[.int .i64 a0_0, .int .i64 a0_1, .bool true, .slice A0_3 l0_3.length c0_3] 37 (0, 0)) (by (with_reducible repeat (first | refine blk_drewN ?_ _ | refine blk_drew ?_ | refine blk_alloc ?_ _)); exact BK119.out) hb)
     have n3_ := Aside0.mk (below_step (by repeat (first | (with_reducible first | exact HB.out | apply below_alloc | apply pw_below_drewN | apply below_drew1 | refine below_set ?_ GE119.out) | exact HB.out)) hb)
     have z_HO129 := fun (h0_ : b 7 = true) (h1_ : b 10 = false) => (show Kd.R (Kd.int .u8) 5 w13 w.heap.size (fun k_ => (w.heap.size ≤ k_)) v128 y127 from by first | exact (Kd.R_elder' (by (with_reducible repeat (first | apply Kd.R_alloc | apply Kd.R_drewN | apply Kd.R_drew)); exact (Q_HO129 h0_ h1_)) (Kd.R_base ho0) hb) | exact Kd.R_mono (Kd.R_elder' (by (with_reducible repeat (first | apply Kd.R_alloc | apply Kd.R_drewN | apply Kd.R_drew)); exact (Q_HO129 h0_ h1_)) (Kd.R_base ho0) hb) (fun _ h_ => by first | trivial | exact h_ | exact h_.1))
     clear HO0_3
     clear BK119
     clear HB
     have HO0_3 := n0_
     have HO123 := n1_
     have BK119 := n2_
     have HB := n3_
     clear n0_ n1_ n2_ n3_
     (try clear hb)
     (try clear hb2)
     (try clear hk)
     (try clear hi)
     (try clear ho0)
     refine hK.out _ _ ⟨v122, v125, v128, v131, v134, m12_, (by rw [ha.out]; exact putSel_upk 1 hb_ rfl rfl rfl), (by (with_reducible repeat (first | apply Kd.V_alloc | apply Kd.V_drewN | apply Kd.V_drew)); exact Kd.V_mono HO0_3.out (fun _ hk => by (repeat' (with_reducible apply And.intro)) <;> first | exact trivial | exact hk | exact hk.1 | exact hk.2 | exact hk.1.1 | exact hk.1.2 | exact hk.2.1 | exact hk.2.2 | exact hk.1.1.1 | exact hk.1.1.2 | exact hk.1.2.1 | exact hk.1.2.2 | exact hk.2.1.1 | exact hk.2.1.2 | exact hk.2.2.1 | exact hk.2.2.2 | exact hk.1.1.1.1 | exact hk.1.1.1.2 | exact hk.1.1.2.1 | exact hk.1.1.2.2 | exact hk.1.2.1.1 | exact hk.1.2.1.2 | exact hk.1.2.2.1 | exact hk.1.2.2.2 | exact hk.2.1.1.1 | exact hk.2.1.1.2 | exact hk.2.1.2.1 | exact hk.2.1.2.2 | exact hk.2.2.1.1 | exact hk.2.2.1.2 | exact hk.2.2.2.1 | exact hk.2.2.2.2 | exact hk.1.1.1.1.1 | exact hk.1.1.1.1.2 | exact hk.1.1.1.2.2 | exact hk.1.1.2.2.2 | exact hk.1.2.2.2.2 | exact hk.2.1.1.1.1 | exact hk.2.2.1.1.1 | exact hk.2.2.2.1.1 | exact hk.2.2.2.2.1 | exact hk.2.2.2.2.2 | exact hk.1.1.1.1.1.1 | exact hk.1.1.1.1.1.2 | exact hk.1.1.1.1.2.2 | exact hk.1.1.1.2.2.2 | exact hk.1.1.2.2.2.2 | exact hk.1.2.2.2.2.2 | exact hk.2.1.1.1.1.1 | exact hk.2.2.1.1.1.1 | exact hk.2.2.2.1.1.1 | exact hk.2.2.2.2.1.1 | exact hk.2.2.2.2.2.1 | exact hk.2.2.2.2.2.2 | exact .inr hk | exact .inr hk.1 | exact .inr hk.2 | exact .inr hk.1.1 | exact .inr hk.1.2 | exact .inr hk.2.1 | exact .inr hk.2.2 | exact .inr hk.1.1.1 | exact .inr hk.1.1.2 | exact .inr hk.1.2.1 | exact .inr hk.1.2.2 | exact .inr hk.2.1.1 | exact .inr hk.2.1.2 | exact .inr hk.2.2.1 | exact .inr hk.2.2.2 | exact .inl hk | exact .inl hk.1)), (by (with_reducible repeat (first | refine blk_drewN ?_ _ | refine blk_drew ?_ | refine blk_alloc ?_ _)); exact BK119.out), (by repeat (first | (with_reducible first | exact HB.out | apply below_alloc | apply pw_below_drewN | apply below_drew1 | refine below_set ?_ GE119.out) | exact HB.out)), fun _ _ => (by (with_reducible repeat (first | apply Kd.R_alloc | apply Kd.R_drewN | apply Kd.R_drew)); exact Kd.R_mono HO123.out (fun _ hk => by (repeat' (with_reducible apply And.intro)) <;> first | exact trivial | exact hk | exact hk.1 | exact hk.2 | exact hk.1.1 | exact hk.1.2 | exact hk.2.1 | exact hk.2.2 | exact hk.1.1.1 | exact hk.1.1.2 | exact hk.1.2.1 | exact hk.1.2.2 | exact hk.2.1.1 | exact hk.2.1.2 | exact hk.2.2.1 | exact hk.2.2.2 | exact hk.1.1.1.1 | exact hk.1.1.1.2 | exact hk.1.1.2.1 | exact hk.1.1.2.2 | exact hk.1.2.1.1 | exact hk.1.2.1.2 | exact hk.1.2.2.1 | exact hk.1.2.2.2 | exact hk.2.1.1.1 | exact hk.2.1.1.2 | exact hk.2.1.2.1 | exact hk.2.1.2.2 | exact hk.2.2.1.1 | exact hk.2.2.1.2 | exact hk.2.2.2.1 | exact hk.2.2.2.2 | exact hk.1.1.1.1.1 | exact hk.1.1.1.1.2 | exact hk.1.1.1.2.2 | exact hk.1.1.2.2.2 | exact hk.1.2.2.2.2 | exact hk.2.1.1.1.1 | exact hk.2.2.1.1.1 | exact hk.2.2.2.1.1 | exact hk.2.2.2.2.1 | exact hk.2.2.2.2.2 | exact hk.1.1.1.1.1.1 | exact hk.1.1.1.1.1.2 | exact hk.1.1.1.1.2.2 | exact hk.1.1.1.2.2.2 | exact hk.1.1.2.2.2.2 | exact hk.1.2.2.2.2.2 | exact hk.2.1.1.1.1.1 | exact hk.2.2.1.1.1.1 | exact hk.2.2.2.1.1.1 | exact hk.2.2.2.2.1.1 | exact hk.2.2.2.2.2.1 | exact hk.2.2.2.2.2.2 | exact .inr hk | exact .inr hk.1 | exact .inr hk.2 | exact .inr hk.1.1 | exact .inr hk.1.2 | exact .inr hk.2.1 | exact .inr hk.2.2 | exact .inr hk.1.1.1 | exact .inr hk.1.1.2 | exact .inr hk.1.2.1 | exact .inr hk.1.2.2 | exact .inr hk.2.1.1 | exact .inr hk.2.1.2 | exact .inr hk.2.2.1 | exact .inr hk.2.2.2 | exact .inl hk | exact .inl hk.1)), fun h0_ _ => absurd ((hoff 5 (by kernel_rfl)).symm.trans h0_) (by decide), z_HO129, fun h0_ => absurd ((hoff 10 (by kernel_rfl)).symm.trans h0_) (by decide), fun h0_ => absurd ((hoff 11 (by kernel_rfl)).symm.trans h0_) (by decide), fun h0_ => absurd ((hoff 12 (by kernel_rfl)).symm.trans h0_) (by decide)⟩
    refine steps_cons ?_ ?_
    ·rintro b a w' ⟨v122, v125, v128, v131, v134, m12_, ha, Q_HO0_3, Q_BK119, Q_HB, Q_HO123, Q_HO126, Q_HO129, Q_HO132, Q_HO135, Q_X12_⟩ hb_ hon hoff
     refine ⟨_, rfl, fun K hK => ?_⟩
     have e14 : a.tmps[14]? = some (.pointer (some ⟨gb119, 1, none⟩)) := by rw [ha]; exact (putSel_off rfl).trans rfl
     replace ha := Aside0.mk ha
     have HO0_3 := Aside0.mk Q_HO0_3
     have BK119 := Aside0.mk Q_BK119
     have HB := Aside0.mk Q_HB
     have hc0_ : w'.cell? ⟨gb119, 0, none⟩ = some (.int .i64 a0_0) := (blk_cell BK119.out 0).trans rfl
     have hc1_ : w'.cell? ⟨gb119, 1, none⟩ = some (.int .i64 a0_1) := (blk_cell BK119.out 1).trans rfl
     have hc2_ : w'.cell? ⟨gb119, 2, none⟩ = some (.bool true) := (blk_cell BK119.out 2).trans rfl
     have hc3_ : w'.cell? ⟨gb119, 3, none⟩ = some (.slice A0_3 l0_3.length c0_3) := (blk_cell BK119.out 3).trans rfl
     refine value_ (w1 := w') (v := .int .i64 a0_1) (by rfl) rfl ?_ ?_
     ·go_simp
      (try simp only [i64_w])
      try rfl
     refine hK.out _ _ ⟨v122, v125, v128, v131, v134, m12_, (by rw [ha.out]; exact putSel_upk 2 hb_ rfl rfl rfl), Q_HO0_3, Q_BK119, Q_HB, Q_HO123, fun h0_ _ => absurd ((hoff 5 (by kernel_rfl)).symm.trans h0_) (by decide), Q_HO129, fun h0_ => absurd ((hoff 10 (by kernel_rfl)).symm.trans h0_) (by decide), fun h0_ => absurd ((hoff 11 (by kernel_rfl)).symm.trans h0_) (by decide), fun h0_ => absurd ((hoff 12 (by kernel_rfl)).symm.trans h0_) (by decide)⟩
    refine steps_cons ?_ ?_
    ·rintro b a w' ⟨v122, v125, v128, v131, v134, m12_, ha, Q_HO0_3, Q_BK119, Q_HB, Q_HO123, Q_HO126, Q_HO129, Q_HO132, Q_HO135, Q_X12_⟩ hb_ hon hoff
     refine ⟨_, rfl, fun K hK => ?_⟩
     have e15 : a.tmps[15]? = some (.int .i64 a0_1) := by rw [ha]; exact putSel_on (e := (4, 15, .int .i64 a0_1)) 2 rfl rfl (hon 4 (by kernel_rfl)) rfl
     replace ha := Aside0.mk ha
     have HO0_3 := Aside0.mk Q_HO0_3
     have BK119 := Aside0.mk Q_BK119
     have HB := Aside0.mk Q_HB
     have HO123 := Aside0.mk (Q_HO123 (hon 2 (by kernel_rfl)) (hoff 10 (by kernel_rfl)))
     refine goes_ Tryd.func41 (by kernel_rfl) rfl #[.int .i64 a0_1] (by rfl) rfl rfl (by first | (simp only [List.map_toArray, List.map_cons, List.map_nil, Act.eval, Array.getD_eq_getD_getElem?, Option.getD_some, e15]; done) | (simp only [List.map_toArray, List.map_cons, List.map_nil, Act.eval, Array.getD_eq_getD_getElem?, Option.getD_some, e15]; rfl)) ?_
     with_reducible refine (piece_number.calls a0_1 t124 _ A6.out).mono ?_
     rintro e w15 ⟨v125, rfl, ho0, hb⟩
     refine ⟨_, rfl, ?_⟩
     have n0_ := Aside0.mk (Kd.V_elder' (by (with_reducible repeat (first | apply Kd.V_alloc | apply Kd.V_drewN | apply Kd.V_drew)); first | exact HO0_3.out | exact Kd.V_mono HO0_3.out (fun _ hk => by (repeat' (with_reducible apply And.intro)) <;> first | exact trivial | exact hk | exact hk.1 | exact hk.2 | exact hk.1.1 | exact hk.1.2 | exact hk.2.1 | exact hk.2.2 | exact hk.1.1.1 | exact hk.1.1.2 | exact hk.1.2.1 | exact hk.1.2.2 | exact hk.2.1.1 | exact hk.2.1.2 | exact hk.2.2.1 | exact hk.2.2.2 | exact hk.1.1.1.1 | exact hk.1.1.1.2 | exact hk.1.1.2.1 | exact hk.1.1.2.2 | exact hk.1.2.1.1 | exact hk.1.2.1.2 | exact hk.1.2.2.1 | exact hk.1.2.2.2 | exact hk.2.1.1.1 | exact hk.2.1.1.2 | exact hk.2.1.2.1 | exact hk.2.1.2.2 | exact hk.2.2.1.1 | exact hk.2.2.1.2 | exact hk.2.2.2.1 | exact hk.2.2.2.2 | exact hk.1.1.1.1.1 | exact hk.1.1.1.1.2 | exact hk.1.1.1.2.2 | exact hk.1.1.2.2.2 | exact hk.1.2.2.2.2 | exact hk.2.1.1.1.1 | exact hk.2.2.1.1.1 | exact hk.2.2.2.1.1 | exact hk.2.2.2.2.1 | exact hk.2.2.2.2.2 | exact hk.1.1.1.1.1.1 | exact hk.1.1.1.1.1.2 | exact hk.1.1.1.1.2.2 | exact hk.1.1.1.2.2.2 | exact hk.1.1.2.2.2.2 | exact hk.1.2.2.2.2.2 | exact hk.2.1.1.1.1.1 | exact hk.2.2.1.1.1.1 | exact hk.2.2.2.1.1.1 | exact hk.2.2.2.2.1.1 | exact hk.2.2.2.2.2.1 | exact hk.2.2.2.2.2.2 | exact .inr hk | exact .inr hk.1 | exact .inr hk.2 | exact .inr hk.1.1 | exact .inr hk.1.2 | exact .inr hk.2.1 | exact .inr hk.2.2 | exact .inr hk.1.1.1 | exact .inr hk.1.1.2 | exact .inr hk.1.2.1 | exact .inr hk.1.2.2 | exact .inr hk.2.1.1 | exact .inr hk.2.1.2 | exact .inr hk.2.2.1 | exact .inr hk.2.2.2 | exact .inl hk | exact .inl hk.1)) (Kd.R_base ho0) hb)
     have n1_ := Aside0.mk (Kd.R_elder' (by (with_reducible repeat (first | apply Kd.R_alloc | apply Kd.R_drewN | apply Kd.R_drew)); first | exact HO123.out | exact Kd.R_mono HO123.out (fun _ hk => by (repeat' (with_reducible apply And.intro)) <;> first | exact trivial | exact hk | exact hk.1 | exact hk.2 | exact hk.1.1 | exact hk.1.2 | exact hk.2.1 | exact hk.2.2 | exact hk.1.1.1 | exact hk.1.1.2 | exact hk.1.2.1 | exact hk.1.2.2 | exact hk.2.1.1 | exact hk.2.1.2 | exact hk.2.2.1 | exact hk.2.2.2 | exact hk.1.1.1.1 | exact hk.1.1.1.2 | exact hk.1.1.2.1 | exact hk.1.1.2.2 | exact hk.1.2.1.1 | exact hk.1.2.1.2 | exact hk.1.2.2.1 | exact hk.1.2.2.2 | exact hk.2.1.1.1 | exact hk.2.1.1.2 | exact hk.2.1.2.1 | exact hk.2.1.2.2 | exact hk.2.2.1.1 | exact hk.2.2.1.2 | exact hk.2.2.2.1 | exact hk.2.2.2.2 | exact hk.1.1.1.1.1 | exact hk.1.1.1.1.2 | exact hk.1.1.1.2.2 | exact hk.1.1.2.2.2 | exact hk.1.2.2.2.2 | exact hk.2.1.1.1.1 | exact hk.2.2.1.1.1 | exact hk.2.2.2.1.1 | exact hk.2.2.2.2.1 | exact hk.2.2.2.2.2 | exact hk.1.1.1.1.1.1 | exact hk.1.1.1.1.1.2 | exact hk.1.1.1.1.2.2 | exact hk.1.1.1.2.2.2 | exact hk.1.1.2.2.2.2 | exact hk.1.2.2.2.2.2 | exact hk.2.1.1.1.1.1 | exact hk.2.2.1.1.1.1 | exact hk.2.2.2.1.1.1 | exact hk.2.2.2.2.1.1 | exact hk.2.2.2.2.2.1 | exact hk.2.2.2.2.2.2 | exact .inr hk | exact .inr hk.1 | exact .inr hk.2 | exact .inr hk.1.1 | exact .inr hk.1.2 | exact .inr hk.2.1 | exact .inr hk.2.2 | exact .inr hk.1.1.1 | exact .inr hk.1.1.2 | exact .inr hk.1.2.1 | exact .inr hk.1.2.2 | exact .inr hk.2.1.1 | exact .inr hk.2.1.2 | exact .inr hk.2.2.1 | exact .inr hk.2.2.2 | exact .inl hk | exact .inl hk.1)) (Kd.R_base ho0) hb)
     have n2_ := Aside0.mk (Kd.R_lower (Kd.R_new' (Kd.R_newM (M := fun k_ => (w.heap.size ≤ k_)) ho0 (below_size (by repeat (first | (with_reducible first | exact HB.out | apply below_alloc | apply pw_below_drewN | apply below_drew1 | refine below_set ?_ GE119.out) | exact HB.out))) (fun k_ h_ => h_)) (Kd.R_lt (by (with_reducible repeat (first | apply Kd.R_alloc | apply Kd.R_drewN | apply Kd.R_drew)); first | exact HO123.out | exact Kd.R_mono HO123.out (fun _ hk => by (repeat' (with_reducible apply And.intro)) <;> first | exact trivial | exact hk | exact hk.1 | exact hk.2 | exact hk.1.1 | exact hk.1.2 | exact hk.2.1 | exact hk.2.2 | exact hk.1.1.1 | exact hk.1.1.2 | exact hk.1.2.1 | exact hk.1.2.2 | exact hk.2.1.1 | exact hk.2.1.2 | exact hk.2.2.1 | exact hk.2.2.2 | exact hk.1.1.1.1 | exact hk.1.1.1.2 | exact hk.1.1.2.1 | exact hk.1.1.2.2 | exact hk.1.2.1.1 | exact hk.1.2.1.2 | exact hk.1.2.2.1 | exact hk.1.2.2.2 | exact hk.2.1.1.1 | exact hk.2.1.1.2 | exact hk.2.1.2.1 | exact hk.2.1.2.2 | exact hk.2.2.1.1 | exact hk.2.2.1.2 | exact hk.2.2.2.1 | exact hk.2.2.2.2 | exact hk.1.1.1.1.1 | exact hk.1.1.1.1.2 | exact hk.1.1.1.2.2 | exact hk.1.1.2.2.2 | exact hk.1.2.2.2.2 | exact hk.2.1.1.1.1 | exact hk.2.2.1.1.1 | exact hk.2.2.2.1.1 | exact hk.2.2.2.2.1 | exact hk.2.2.2.2.2 | exact hk.1.1.1.1.1.1 | exact hk.1.1.1.1.1.2 | exact hk.1.1.1.1.2.2 | exact hk.1.1.1.2.2.2 | exact hk.1.1.2.2.2.2 | exact hk.1.2.2.2.2.2 | exact hk.2.1.1.1.1.1 | exact hk.2.2.1.1.1.1 | exact hk.2.2.2.1.1.1 | exact hk.2.2.2.2.1.1 | exact hk.2.2.2.2.2.1 | exact hk.2.2.2.2.2.2 | exact .inr hk | exact .inr hk.1 | exact .inr hk.2 | exact .inr hk.1.1 | exact .inr hk.1.2 | exact .inr hk.2.1 | exact .inr hk.2.2 | exact .inr hk.1.1.1 | exact .inr hk.1.1.2 | exact .inr hk.1.2.1 | exact .inr hk.1.2.2 | exact .inr hk.2.1.1 | exact .inr hk.2.1.2 | exact .inr hk.2.2.1 | exact .inr hk.2.2.2 | exact .inl hk | exact .inl hk.1)))) (below_size (by repeat (first | (with_reducible first | exact HB.out | apply below_alloc | apply pw_below_drewN | apply below_drew1 | refine below_set ?_ GE119.out) | exact HB.out))))
     have n3_ := Aside0.mk (blk_below (g := gb119) (o := .cells #[.int .i64 a0_0, .int .i64 a0_1, .bool true, .slice A0_3 l0_3.length c0_3] 37 (0, 0)) (by (with_reducible repeat (first | refine blk_drewN ?_ _ | refine blk_drew ?_ | refine blk_alloc ?_ _)); exact BK119.out) hb)
     have n4_ := Aside0.mk (below_step (by repeat (first | (with_reducible first | exact HB.out | apply below_alloc | apply pw_below_drewN | apply below_drew1 | refine below_set ?_ GE119.out) | exact HB.out)) hb)
     have z_HO129 := fun (h0_ : b 7 = true) (h1_ : b 10 = false) => (show Kd.R (Kd.int .u8) 5 w15 w.heap.size (fun k_ => (w.heap.size ≤ k_)) v128 y127 from by first | exact (Kd.R_elder' (by (with_reducible repeat (first | apply Kd.R_alloc | apply Kd.R_drewN | apply Kd.R_drew)); exact (Q_HO129 h0_ h1_)) (Kd.R_base ho0) hb) | exact Kd.R_mono (Kd.R_elder' (by (with_reducible repeat (first | apply Kd.R_alloc | apply Kd.R_drewN | apply Kd.R_drew)); exact (Q_HO129 h0_ h1_)) (Kd.R_base ho0) hb) (fun _ h_ => by first | trivial | exact h_ | exact h_.1))
     clear HO0_3
     clear HO123
     clear BK119
     clear HB
     have HO0_3 := n0_
     have HO123 := n1_
     have HO126 := n2_
     have BK119 := n3_
     have HB := n4_
     clear n0_ n1_ n2_ n3_ n4_
     (try clear hb)
     (try clear hb2)
     (try clear hk)
     (try clear hi)
     (try clear ho0)
     refine hK.out _ _ ⟨v122, v125, v128, v131, v134, m12_, (by rw [ha.out]; exact putSel_upk 3 hb_ rfl rfl rfl), (by (with_reducible repeat (first | apply Kd.V_alloc | apply Kd.V_drewN | apply Kd.V_drew)); exact Kd.V_mono HO0_3.out (fun _ hk => by (repeat' (with_reducible apply And.intro)) <;> first | exact trivial | exact hk | exact hk.1 | exact hk.2 | exact hk.1.1 | exact hk.1.2 | exact hk.2.1 | exact hk.2.2 | exact hk.1.1.1 | exact hk.1.1.2 | exact hk.1.2.1 | exact hk.1.2.2 | exact hk.2.1.1 | exact hk.2.1.2 | exact hk.2.2.1 | exact hk.2.2.2 | exact hk.1.1.1.1 | exact hk.1.1.1.2 | exact hk.1.1.2.1 | exact hk.1.1.2.2 | exact hk.1.2.1.1 | exact hk.1.2.1.2 | exact hk.1.2.2.1 | exact hk.1.2.2.2 | exact hk.2.1.1.1 | exact hk.2.1.1.2 | exact hk.2.1.2.1 | exact hk.2.1.2.2 | exact hk.2.2.1.1 | exact hk.2.2.1.2 | exact hk.2.2.2.1 | exact hk.2.2.2.2 | exact hk.1.1.1.1.1 | exact hk.1.1.1.1.2 | exact hk.1.1.1.2.2 | exact hk.1.1.2.2.2 | exact hk.1.2.2.2.2 | exact hk.2.1.1.1.1 | exact hk.2.2.1.1.1 | exact hk.2.2.2.1.1 | exact hk.2.2.2.2.1 | exact hk.2.2.2.2.2 | exact hk.1.1.1.1.1.1 | exact hk.1.1.1.1.1.2 | exact hk.1.1.1.1.2.2 | exact hk.1.1.1.2.2.2 | exact hk.1.1.2.2.2.2 | exact hk.1.2.2.2.2.2 | exact hk.2.1.1.1.1.1 | exact hk.2.2.1.1.1.1 | exact hk.2.2.2.1.1.1 | exact hk.2.2.2.2.1.1 | exact hk.2.2.2.2.2.1 | exact hk.2.2.2.2.2.2 | exact .inr hk | exact .inr hk.1 | exact .inr hk.2 | exact .inr hk.1.1 | exact .inr hk.1.2 | exact .inr hk.2.1 | exact .inr hk.2.2 | exact .inr hk.1.1.1 | exact .inr hk.1.1.2 | exact .inr hk.1.2.1 | exact .inr hk.1.2.2 | exact .inr hk.2.1.1 | exact .inr hk.2.1.2 | exact .inr hk.2.2.1 | exact .inr hk.2.2.2 | exact .inl hk | exact .inl hk.1)), (by (with_reducible repeat (first | refine blk_drewN ?_ _ | refine blk_drew ?_ | refine blk_alloc ?_ _)); exact BK119.out), (by repeat (first | (with_reducible first | exact HB.out | apply below_alloc | apply pw_below_drewN | apply below_drew1 | refine below_set ?_ GE119.out) | exact HB.out)), fun _ _ => (by (with_reducible repeat (first | apply Kd.R_alloc | apply Kd.R_drewN | apply Kd.R_drew)); first | exact HO123.out | exact Kd.R_mono HO123.out (fun _ hk => by (repeat' (with_reducible apply And.intro)) <;> first | exact trivial | exact hk | exact hk.1 | exact hk.2 | exact hk.1.1 | exact hk.1.2 | exact hk.2.1 | exact hk.2.2 | exact hk.1.1.1 | exact hk.1.1.2 | exact hk.1.2.1 | exact hk.1.2.2 | exact hk.2.1.1 | exact hk.2.1.2 | exact hk.2.2.1 | exact hk.2.2.2 | exact hk.1.1.1.1 | exact hk.1.1.1.2 | exact hk.1.1.2.1 | exact hk.1.1.2.2 | exact hk.1.2.1.1 | exact hk.1.2.1.2 | exact hk.1.2.2.1 | exact hk.1.2.2.2 | exact hk.2.1.1.1 | exact hk.2.1.1.2 | exact hk.2.1.2.1 | exact hk.2.1.2.2 | exact hk.2.2.1.1 | exact hk.2.2.1.2 | exact hk.2.2.2.1 | exact hk.2.2.2.2 | exact hk.1.1.1.1.1 | exact hk.1.1.1.1.2 | exact hk.1.1.1.2.2 | exact hk.1.1.2.2.2 | exact hk.1.2.2.2.2 | exact hk.2.1.1.1.1 | exact hk.2.2.1.1.1 | exact hk.2.2.2.1.1 | exact hk.2.2.2.2.1 | exact hk.2.2.2.2.2 | exact hk.1.1.1.1.1.1 | exact hk.1.1.1.1.1.2 | exact hk.1.1.1.1.2.2 | exact hk.1.1.1.2.2.2 | exact hk.1.1.2.2.2.2 | exact hk.1.2.2.2.2.2 | exact hk.2.1.1.1.1.1 | exact hk.2.2.1.1.1.1 | exact hk.2.2.2.1.1.1 | exact hk.2.2.2.2.1.1 | exact hk.2.2.2.2.2.1 | exact hk.2.2.2.2.2.2 | exact .inr hk | exact .inr hk.1 | exact .inr hk.2 | exact .inr hk.1.1 | exact .inr hk.1.2 | exact .inr hk.2.1 | exact .inr hk.2.2 | exact .inr hk.1.1.1 | exact .inr hk.1.1.2 | exact .inr hk.1.2.1 | exact .inr hk.1.2.2 | exact .inr hk.2.1.1 | exact .inr hk.2.1.2 | exact .inr hk.2.2.1 | exact .inr hk.2.2.2 | exact .inl hk | exact .inl hk.1)), fun _ _ => (by (with_reducible repeat (first | apply Kd.R_alloc | apply Kd.R_drewN | apply Kd.R_drew)); exact Kd.R_mono HO126.out (fun _ hk => by (repeat' (with_reducible apply And.intro)) <;> first | exact trivial | exact hk | exact hk.1 | exact hk.2 | exact hk.1.1 | exact hk.1.2 | exact hk.2.1 | exact hk.2.2 | exact hk.1.1.1 | exact hk.1.1.2 | exact hk.1.2.1 | exact hk.1.2.2 | exact hk.2.1.1 | exact hk.2.1.2 | exact hk.2.2.1 | exact hk.2.2.2 | exact hk.1.1.1.1 | exact hk.1.1.1.2 | exact hk.1.1.2.1 | exact hk.1.1.2.2 | exact hk.1.2.1.1 | exact hk.1.2.1.2 | exact hk.1.2.2.1 | exact hk.1.2.2.2 | exact hk.2.1.1.1 | exact hk.2.1.1.2 | exact hk.2.1.2.1 | exact hk.2.1.2.2 | exact hk.2.2.1.1 | exact hk.2.2.1.2 | exact hk.2.2.2.1 | exact hk.2.2.2.2 | exact hk.1.1.1.1.1 | exact hk.1.1.1.1.2 | exact hk.1.1.1.2.2 | exact hk.1.1.2.2.2 | exact hk.1.2.2.2.2 | exact hk.2.1.1.1.1 | exact hk.2.2.1.1.1 | exact hk.2.2.2.1.1 | exact hk.2.2.2.2.1 | exact hk.2.2.2.2.2 | exact hk.1.1.1.1.1.1 | exact hk.1.1.1.1.1.2 | exact hk.1.1.1.1.2.2 | exact hk.1.1.1.2.2.2 | exact hk.1.1.2.2.2.2 | exact hk.1.2.2.2.2.2 | exact hk.2.1.1.1.1.1 | exact hk.2.2.1.1.1.1 | exact hk.2.2.2.1.1.1 | exact hk.2.2.2.2.1.1 | exact hk.2.2.2.2.2.1 | exact hk.2.2.2.2.2.2 | exact .inr hk | exact .inr hk.1 | exact .inr hk.2 | exact .inr hk.1.1 | exact .inr hk.1.2 | exact .inr hk.2.1 | exact .inr hk.2.2 | exact .inr hk.1.1.1 | exact .inr hk.1.1.2 | exact .inr hk.1.2.1 | exact .inr hk.1.2.2 | exact .inr hk.2.1.1 | exact .inr hk.2.1.2 | exact .inr hk.2.2.1 | exact .inr hk.2.2.2 | exact .inl hk | exact .inl hk.1)), z_HO129, fun h0_ => absurd ((hoff 10 (by kernel_rfl)).symm.trans h0_) (by decide), fun h0_ => absurd ((hoff 11 (by kernel_rfl)).symm.trans h0_) (by decide), fun h0_ => absurd ((hoff 12 (by kernel_rfl)).symm.trans h0_) (by decide)⟩
    refine steps_cons ?_ ?_
    ·rintro b a w' ⟨v122, v125, v128, v131, v134, m12_, ha, Q_HO0_3, Q_BK119, Q_HB, Q_HO123, Q_HO126, Q_HO129, Q_HO132, Q_HO135, Q_X12_⟩ hb_ hon hoff
     refine ⟨_, rfl, fun K hK => ?_⟩
     have e17 : a.tmps[17]? = some (.int .u8 1) := by rw [ha]; exact (putSel_off rfl).trans rfl
     replace ha := Aside0.mk ha
     have HO0_3 := Aside0.mk Q_HO0_3
     have BK119 := Aside0.mk Q_BK119
     have HB := Aside0.mk Q_HB
     refine Kd.R_lit_step (Kd.int .u8) _ 5 ?hg (N := 18) ?hd (xs := ([1] : List Int)) (inner := [.int .u8 1]) (ok := fun _ => True) (okp := fun _ => True) ?hr ?hp (fun _ hk => by (repeat' (with_reducible apply And.intro)) <;> first | exact trivial | exact hk | exact hk.1 | exact hk.2 | exact hk.1.1 | exact hk.1.2 | exact hk.2.1 | exact hk.2.2 | exact hk.1.1.1 | exact hk.1.1.2 | exact hk.1.2.1 | exact hk.1.2.2 | exact hk.2.1.1 | exact hk.2.1.2 | exact hk.2.2.1 | exact hk.2.2.2 | exact hk.1.1.1.1 | exact hk.1.1.1.2 | exact hk.1.1.2.1 | exact hk.1.1.2.2 | exact hk.1.2.1.1 | exact hk.1.2.1.2 | exact hk.1.2.2.1 | exact hk.1.2.2.2 | exact hk.2.1.1.1 | exact hk.2.1.1.2 | exact hk.2.1.2.1 | exact hk.2.1.2.2 | exact hk.2.2.1.1 | exact hk.2.2.1.2 | exact hk.2.2.2.1 | exact hk.2.2.2.2 | exact hk.1.1.1.1.1 | exact hk.1.1.1.1.2 | exact hk.1.1.1.2.2 | exact hk.1.1.2.2.2 | exact hk.1.2.2.2.2 | exact hk.2.1.1.1.1 | exact hk.2.2.1.1.1 | exact hk.2.2.2.1.1 | exact hk.2.2.2.2.1 | exact hk.2.2.2.2.2 | exact hk.1.1.1.1.1.1 | exact hk.1.1.1.1.1.2 | exact hk.1.1.1.1.2.2 | exact hk.1.1.1.2.2.2 | exact hk.1.1.2.2.2.2 | exact hk.1.2.2.2.2.2 | exact hk.2.1.1.1.1.1 | exact hk.2.2.1.1.1.1 | exact hk.2.2.2.1.1.1 | exact hk.2.2.2.2.1.1 | exact hk.2.2.2.2.2.1 | exact hk.2.2.2.2.2.2 | exact .inr hk | exact .inr hk.1 | exact .inr hk.2 | exact .inr hk.1.1 | exact .inr hk.1.2 | exact .inr hk.2.1 | exact .inr hk.2.2 | exact .inr hk.1.1.1 | exact .inr hk.1.1.2 | exact .inr hk.1.2.1 | exact .inr hk.1.2.2 | exact .inr hk.2.1.1 | exact .inr hk.2.1.2 | exact .inr hk.2.2.1 | exact .inr hk.2.2.2 | exact .inl hk | exact .inl hk.1) trivial (Below.refl _ _) (Nat.le_refl _) (by simp) ?_; (case hd => rfl); (case hg => rfl); (case hr => first | (go_simp; done) | (go_simp; rfl)); (case hp => exact (Reps.one (show Kd.M (Kd.int .u8) _ _ _ 1 [.int .u8 1] from rfl) (Reps.none _ _)))
     intro v128 w13 ho14 hb hg_ hnew_
     clear hg_ hnew_
     (first | rw [← Ny127.out] at ho14 | (simp only [Int.reduceToNat] at ho14; rw [← Ny127.out] at ho14))
     have n0_ := Aside0.mk (Kd.V_elder' (by (with_reducible repeat (first | apply Kd.V_alloc | apply Kd.V_drewN | apply Kd.V_drew)); first | exact HO0_3.out | exact Kd.V_mono HO0_3.out (fun _ hk => by (repeat' (with_reducible apply And.intro)) <;> first | exact trivial | exact hk | exact hk.1 | exact hk.2 | exact hk.1.1 | exact hk.1.2 | exact hk.2.1 | exact hk.2.2 | exact hk.1.1.1 | exact hk.1.1.2 | exact hk.1.2.1 | exact hk.1.2.2 | exact hk.2.1.1 | exact hk.2.1.2 | exact hk.2.2.1 | exact hk.2.2.2 | exact hk.1.1.1.1 | exact hk.1.1.1.2 | exact hk.1.1.2.1 | exact hk.1.1.2.2 | exact hk.1.2.1.1 | exact hk.1.2.1.2 | exact hk.1.2.2.1 | exact hk.1.2.2.2 | exact hk.2.1.1.1 | exact hk.2.1.1.2 | exact hk.2.1.2.1 | exact hk.2.1.2.2 | exact hk.2.2.1.1 | exact hk.2.2.1.2 | exact hk.2.2.2.1 | exact hk.2.2.2.2 | exact hk.1.1.1.1.1 | exact hk.1.1.1.1.2 | exact hk.1.1.1.2.2 | exact hk.1.1.2.2.2 | exact hk.1.2.2.2.2 | exact hk.2.1.1.1.1 | exact hk.2.2.1.1.1 | exact hk.2.2.2.1.1 | exact hk.2.2.2.2.1 | exact hk.2.2.2.2.2 | exact hk.1.1.1.1.1.1 | exact hk.1.1.1.1.1.2 | exact hk.1.1.1.1.2.2 | exact hk.1.1.1.2.2.2 | exact hk.1.1.2.2.2.2 | exact hk.1.2.2.2.2.2 | exact hk.2.1.1.1.1.1 | exact hk.2.2.1.1.1.1 | exact hk.2.2.2.1.1.1 | exact hk.2.2.2.2.1.1 | exact hk.2.2.2.2.2.1 | exact hk.2.2.2.2.2.2 | exact .inr hk | exact .inr hk.1 | exact .inr hk.2 | exact .inr hk.1.1 | exact .inr hk.1.2 | exact .inr hk.2.1 | exact .inr hk.2.2 | exact .inr hk.1.1.1 | exact .inr hk.1.1.2 | exact .inr hk.1.2.1 | exact .inr hk.1.2.2 | exact .inr hk.2.1.1 | exact .inr hk.2.1.2 | exact .inr hk.2.2.1 | exact .inr hk.2.2.2 | exact .inl hk | exact .inl hk.1)) (Kd.R_base ho14) hb)
     have n1_ := Aside0.mk (Kd.R_lower (Kd.R_newM (M := fun k_ => (w.heap.size ≤ k_)) ho14 (below_size (by repeat (first | (with_reducible first | exact HB.out | apply below_alloc | apply pw_below_drewN | apply below_drew1 | refine below_set ?_ GE119.out) | exact HB.out))) (fun k_ h_ => h_)) (below_size (by repeat (first | (with_reducible first | exact HB.out | apply below_alloc | apply pw_below_drewN | apply below_drew1 | refine below_set ?_ GE119.out) | exact HB.out))))
     have n2_ := Aside0.mk (blk_below (g := gb119) (o := .cells #[.int .i64 a0_0, .int .i64 a0_1, .bool true, .slice A0_3 l0_3.length c0_3] 37 (0, 0)) (by (with_reducible repeat (first | refine blk_drewN ?_ _ | refine blk_drew ?_ | refine blk_alloc ?_ _)); exact BK119.out) hb)
     have n3_ := Aside0.mk (below_step (by repeat (first | (with_reducible first | exact HB.out | apply below_alloc | apply pw_below_drewN | apply below_drew1 | refine below_set ?_ GE119.out) | exact HB.out)) hb)
     have z_HO123 := fun (h0_ : b 2 = true) (h1_ : b 10 = false) => (show Kd.R (Kd.int .u8) 5 w13 w.heap.size (fun k_ => (w.heap.size ≤ k_)) v122 t121 from by first | exact (Kd.R_elder' (by (with_reducible repeat (first | apply Kd.R_alloc | apply Kd.R_drewN | apply Kd.R_drew)); exact (Q_HO123 h0_ h1_)) (Kd.R_base ho14) hb) | exact Kd.R_mono (Kd.R_elder' (by (with_reducible repeat (first | apply Kd.R_alloc | apply Kd.R_drewN | apply Kd.R_drew)); exact (Q_HO123 h0_ h1_)) (Kd.R_base ho14) hb) (fun _ h_ => by first | trivial | exact h_ | exact h_.1))
     have z_HO126 := fun (h0_ : b 5 = true) (h1_ : b 10 = false) => (show Kd.R (Kd.int .u8) 5 w13 w.heap.size (fun k_ => (w.heap.size ≤ k_)) v125 t124 from by first | exact (Kd.R_elder' (by (with_reducible repeat (first | apply Kd.R_alloc | apply Kd.R_drewN | apply Kd.R_drew)); exact (Q_HO126 h0_ h1_)) (Kd.R_base ho14) hb) | exact Kd.R_mono (Kd.R_elder' (by (with_reducible repeat (first | apply Kd.R_alloc | apply Kd.R_drewN | apply Kd.R_drew)); exact (Q_HO126 h0_ h1_)) (Kd.R_base ho14) hb) (fun _ h_ => by first | trivial | exact h_ | exact h_.1))
     clear HO0_3
     clear BK119
     clear HB
     have HO0_3 := n0_
     have HO129 := n1_
     have BK119 := n2_
     have HB := n3_
     clear n0_ n1_ n2_ n3_
     clear hb ho14
     refine hK.out _ _ ⟨v122, v125, v128, v131, v134, m12_, (by rw [ha.out]; exact putSel_upk 4 hb_ rfl rfl rfl), (by (with_reducible repeat (first | apply Kd.V_alloc | apply Kd.V_drewN | apply Kd.V_drew)); exact Kd.V_mono HO0_3.out (fun _ hk => by (repeat' (with_reducible apply And.intro)) <;> first | exact trivial | exact hk | exact hk.1 | exact hk.2 | exact hk.1.1 | exact hk.1.2 | exact hk.2.1 | exact hk.2.2 | exact hk.1.1.1 | exact hk.1.1.2 | exact hk.1.2.1 | exact hk.1.2.2 | exact hk.2.1.1 | exact hk.2.1.2 | exact hk.2.2.1 | exact hk.2.2.2 | exact hk.1.1.1.1 | exact hk.1.1.1.2 | exact hk.1.1.2.1 | exact hk.1.1.2.2 | exact hk.1.2.1.1 | exact hk.1.2.1.2 | exact hk.1.2.2.1 | exact hk.1.2.2.2 | exact hk.2.1.1.1 | exact hk.2.1.1.2 | exact hk.2.1.2.1 | exact hk.2.1.2.2 | exact hk.2.2.1.1 | exact hk.2.2.1.2 | exact hk.2.2.2.1 | exact hk.2.2.2.2 | exact hk.1.1.1.1.1 | exact hk.1.1.1.1.2 | exact hk.1.1.1.2.2 | exact hk.1.1.2.2.2 | exact hk.1.2.2.2.2 | exact hk.2.1.1.1.1 | exact hk.2.2.1.1.1 | exact hk.2.2.2.1.1 | exact hk.2.2.2.2.1 | exact hk.2.2.2.2.2 | exact hk.1.1.1.1.1.1 | exact hk.1.1.1.1.1.2 | exact hk.1.1.1.1.2.2 | exact hk.1.1.1.2.2.2 | exact hk.1.1.2.2.2.2 | exact hk.1.2.2.2.2.2 | exact hk.2.1.1.1.1.1 | exact hk.2.2.1.1.1.1 | exact hk.2.2.2.1.1.1 | exact hk.2.2.2.2.1.1 | exact hk.2.2.2.2.2.1 | exact hk.2.2.2.2.2.2 | exact .inr hk | exact .inr hk.1 | exact .inr hk.2 | exact .inr hk.1.1 | exact .inr hk.1.2 | exact .inr hk.2.1 | exact .inr hk.2.2 | exact .inr hk.1.1.1 | exact .inr hk.1.1.2 | exact .inr hk.1.2.1 | exact .inr hk.1.2.2 | exact .inr hk.2.1.1 | exact .inr hk.2.1.2 | exact .inr hk.2.2.1 | exact .inr hk.2.2.2 | exact .inl hk | exact .inl hk.1)), (by (with_reducible repeat (first | refine blk_drewN ?_ _ | refine blk_drew ?_ | refine blk_alloc ?_ _)); exact BK119.out), (by repeat (first | (with_reducible first | exact HB.out | apply below_alloc | apply pw_below_drewN | apply below_drew1 | refine below_set ?_ GE119.out) | exact HB.out)), z_HO123, z_HO126, fun _ _ => (by (with_reducible repeat (first | apply Kd.R_alloc | apply Kd.R_drewN | apply Kd.R_drew)); exact Kd.R_mono HO129.out (fun _ hk => by (repeat' (with_reducible apply And.intro)) <;> first | exact trivial | exact hk | exact hk.1 | exact hk.2 | exact hk.1.1 | exact hk.1.2 | exact hk.2.1 | exact hk.2.2 | exact hk.1.1.1 | exact hk.1.1.2 | exact hk.1.2.1 | exact hk.1.2.2 | exact hk.2.1.1 | exact hk.2.1.2 | exact hk.2.2.1 | exact hk.2.2.2 | exact hk.1.1.1.1 | exact hk.1.1.1.2 | exact hk.1.1.2.1 | exact hk.1.1.2.2 | exact hk.1.2.1.1 | exact hk.1.2.1.2 | exact hk.1.2.2.1 | exact hk.1.2.2.2 | exact hk.2.1.1.1 | exact hk.2.1.1.2 | exact hk.2.1.2.1 | exact hk.2.1.2.2 | exact hk.2.2.1.1 | exact hk.2.2.1.2 | exact hk.2.2.2.1 | exact hk.2.2.2.2 | exact hk.1.1.1.1.1 | exact hk.1.1.1.1.2 | exact hk.1.1.1.2.2 | exact hk.1.1.2.2.2 | exact hk.1.2.2.2.2 | exact hk.2.1.1.1.1 | exact hk.2.2.1.1.1 | exact hk.2.2.2.1.1 | exact hk.2.2.2.2.1 | exact hk.2.2.2.2.2 | exact hk.1.1.1.1.1.1 | exact hk.1.1.1.1.1.2 | exact hk.1.1.1.1.2.2 | exact hk.1.1.1.2.2.2 | exact hk.1.1.2.2.2.2 | exact hk.1.2.2.2.2.2 | exact hk.2.1.1.1.1.1 | exact hk.2.2.1.1.1.1 | exact hk.2.2.2.1.1.1 | exact hk.2.2.2.2.1.1 | exact hk.2.2.2.2.2.1 | exact hk.2.2.2.2.2.2 | exact .inr hk | exact .inr hk.1 | exact .inr hk.2 | exact .inr hk.1.1 | exact .inr hk.1.2 | exact .inr hk.2.1 | exact .inr hk.2.2 | exact .inr hk.1.1.1 | exact .inr hk.1.1.2 | exact .inr hk.1.2.1 | exact .inr hk.1.2.2 | exact .inr hk.2.1.1 | exact .inr hk.2.1.2 | exact .inr hk.2.2.1 | exact .inr hk.2.2.2 | exact .inl hk | exact .inl hk.1)), fun h0_ => absurd ((hoff 10 (by kernel_rfl)).symm.trans h0_) (by decide), fun h0_ => absurd ((hoff 11 (by kernel_rfl)).symm.trans h0_) (by decide), fun h0_ => absurd ((hoff 12 (by kernel_rfl)).symm.trans h0_) (by decide)⟩
    refine steps_cons ?_ ?_
    ·rintro b a w' ⟨v122, v125, v128, v131, v134, m12_, ha, Q_HO0_3, Q_BK119, Q_HB, Q_HO123, Q_HO126, Q_HO129, Q_HO132, Q_HO135, Q_X12_⟩ hb_ hon hoff
     refine ⟨_, rfl, fun K hK => ?_⟩
     have e19 : a.tmps[19]? = some (.pointer (some ⟨gb119, 3, none⟩)) := by rw [ha]; exact (putSel_off rfl).trans rfl
     replace ha := Aside0.mk ha
     have HO0_3 := Aside0.mk Q_HO0_3
     have BK119 := Aside0.mk Q_BK119
     have HB := Aside0.mk Q_HB
     have hc0_ : w'.cell? ⟨gb119, 0, none⟩ = some (.int .i64 a0_0) := (blk_cell BK119.out 0).trans rfl
     have hc1_ : w'.cell? ⟨gb119, 1, none⟩ = some (.int .i64 a0_1) := (blk_cell BK119.out 1).trans rfl
     have hc2_ : w'.cell? ⟨gb119, 2, none⟩ = some (.bool true) := (blk_cell BK119.out 2).trans rfl
     have hc3_ : w'.cell? ⟨gb119, 3, none⟩ = some (.slice A0_3 l0_3.length c0_3) := (blk_cell BK119.out 3).trans rfl
     refine value_ (w1 := w') (v := .slice A0_3 l0_3.length c0_3) (by rfl) rfl ?_ ?_
     ·go_simp
      (try simp only [i64_w])
      try rfl
     refine hK.out _ _ ⟨v122, v125, v128, v131, v134, m12_, (by rw [ha.out]; exact putSel_upk 5 hb_ rfl rfl rfl), Q_HO0_3, Q_BK119, Q_HB, Q_HO123, Q_HO126, Q_HO129, fun h0_ => absurd ((hoff 10 (by kernel_rfl)).symm.trans h0_) (by decide), fun h0_ => absurd ((hoff 11 (by kernel_rfl)).symm.trans h0_) (by decide), fun h0_ => absurd ((hoff 12 (by kernel_rfl)).symm.trans h0_) (by decide)⟩
    refine steps_cons ?_ ?_
    ·rintro b a w' ⟨v122, v125, v128, v131, v134, m12_, ha, Q_HO0_3, Q_BK119, Q_HB, Q_HO123, Q_HO126, Q_HO129, Q_HO132, Q_HO135, Q_X12_⟩ hb_ hon hoff
     refine ⟨_, rfl, fun K hK => ?_⟩
     have e13 : a.tmps[13]? = some (v122) := by rw [ha]; exact putSel_on (e := (2, 13, v122)) 1 rfl rfl (hon 2 (by kernel_rfl)) rfl
     have e16 : a.tmps[16]? = some (v125) := by rw [ha]; exact putSel_on (e := (5, 16, v125)) 3 rfl rfl (hon 5 (by kernel_rfl)) rfl
     have e18 : a.tmps[18]? = some (v128) := by rw [ha]; exact putSel_on (e := (7, 18, v128)) 4 rfl rfl (hon 7 (by kernel_rfl)) rfl
     have e20 : a.tmps[20]? = some (.slice A0_3 l0_3.length c0_3) := by rw [ha]; exact putSel_on (e := (9, 20, .slice A0_3 l0_3.length c0_3)) 5 rfl rfl (hon 9 (by kernel_rfl)) rfl
     replace ha := Aside0.mk ha
     have HO0_3 := Aside0.mk Q_HO0_3
     have BK119 := Aside0.mk Q_BK119
     have HB := Aside0.mk Q_HB
     have HO123 := Aside0.mk (Q_HO123 (hon 2 (by kernel_rfl)) hb_)
     have HO126 := Aside0.mk (Q_HO126 (hon 5 (by kernel_rfl)) hb_)
     have HO129 := Aside0.mk (Q_HO129 (hon 7 (by kernel_rfl)) hb_)
     obtain ⟨Ao18, co18, eo18⟩ := Kd.R_slice HO123.out
     (first | subst eo18 | (injection eo18 with f1_ f2_ f3_; have f4_ := f1_.symm; have f5_ := f3_.symm; clear f1_ f2_ f3_; subst f4_; subst f5_))
     obtain ⟨Ao19, co19, eo19⟩ := Kd.R_slice HO126.out
     (first | subst eo19 | (injection eo19 with f1_ f2_ f3_; have f4_ := f1_.symm; have f5_ := f3_.symm; clear f1_ f2_ f3_; subst f4_; subst f5_))
     obtain ⟨Ao20, co20, eo20⟩ := Kd.R_slice HO129.out
     (first | subst eo20 | (injection eo20 with f1_ f2_ f3_; have f4_ := f1_.symm; have f5_ := f3_.symm; clear f1_ f2_ f3_; subst f4_; subst f5_))
     refine Kd.N_lit_step (Kd.slice 5 (Kd.int .u8)) _ 32 ?hg (N' := 21) ?hd (xs := ([t121, t124, y127, l0_3] : List (List Int))) (inner := [.slice Ao18 t121.length co18, .slice Ao19 t124.length co19, .slice Ao20 y127.length co20, .slice A0_3 l0_3.length c0_3]) (ok := (fun k_ => (P0_3_ k_ ∨ w.heap.size ≤ k_) ∧ k_ ≠ gb119)) (okp := (fun k_ => (P0_3_ k_ ∨ w.heap.size ≤ k_) ∧ k_ ≠ gb119)) ?hr ?hp (fun _ hk => by (repeat' (with_reducible apply And.intro)) <;> first | exact trivial | exact hk | exact hk.1 | exact hk.2 | exact hk.1.1 | exact hk.1.2 | exact hk.2.1 | exact hk.2.2 | exact hk.1.1.1 | exact hk.1.1.2 | exact hk.1.2.1 | exact hk.1.2.2 | exact hk.2.1.1 | exact hk.2.1.2 | exact hk.2.2.1 | exact hk.2.2.2 | exact hk.1.1.1.1 | exact hk.1.1.1.2 | exact hk.1.1.2.1 | exact hk.1.1.2.2 | exact hk.1.2.1.1 | exact hk.1.2.1.2 | exact hk.1.2.2.1 | exact hk.1.2.2.2 | exact hk.2.1.1.1 | exact hk.2.1.1.2 | exact hk.2.1.2.1 | exact hk.2.1.2.2 | exact hk.2.2.1.1 | exact hk.2.2.1.2 | exact hk.2.2.2.1 | exact hk.2.2.2.2 | exact hk.1.1.1.1.1 | exact hk.1.1.1.1.2 | exact hk.1.1.1.2.2 | exact hk.1.1.2.2.2 | exact hk.1.2.2.2.2 | exact hk.2.1.1.1.1 | exact hk.2.2.1.1.1 | exact hk.2.2.2.1.1 | exact hk.2.2.2.2.1 | exact hk.2.2.2.2.2 | exact hk.1.1.1.1.1.1 | exact hk.1.1.1.1.1.2 | exact hk.1.1.1.1.2.2 | exact hk.1.1.1.2.2.2 | exact hk.1.1.2.2.2.2 | exact hk.1.2.2.2.2.2 | exact hk.2.1.1.1.1.1 | exact hk.2.2.1.1.1.1 | exact hk.2.2.2.1.1.1 | exact hk.2.2.2.2.1.1 | exact hk.2.2.2.2.2.1 | exact hk.2.2.2.2.2.2 | exact .inr hk | exact .inr hk.1 | exact .inr hk.2 | exact .inr hk.1.1 | exact .inr hk.1.2 | exact .inr hk.2.1 | exact .inr hk.2.2 | exact .inr hk.1.1.1 | exact .inr hk.1.1.2 | exact .inr hk.1.2.1 | exact .inr hk.1.2.2 | exact .inr hk.2.1.1 | exact .inr hk.2.1.2 | exact .inr hk.2.2.1 | exact .inr hk.2.2.2 | exact .inl hk | exact .inl hk.1) ((show ∀ k_, w'.heap.size ≤ k_ → (fun k_ => (P0_3_ k_ ∨ w.heap.size ≤ k_) ∧ k_ ≠ gb119) k_ from fun k_ hk => ⟨(.inr (Nat.le_trans (below_size (by repeat (first | (with_reducible first | exact HB.out | apply below_alloc | apply pw_below_drewN | apply below_drew1 | refine below_set ?_ GE119.out) | exact HB.out))) hk)), Kd.freshB (g := gb119) (o := .cells #[.int .i64 a0_0, .int .i64 a0_1, .bool true, .slice A0_3 l0_3.length c0_3] 37 (0, 0)) (by (with_reducible repeat (first | refine blk_drewN ?_ _ | refine blk_drew ?_ | refine blk_alloc ?_ _)); exact BK119.out) k_ hk⟩) _ (Nat.le_refl _)) (Below.refl _ _) (Nat.le_refl _) (by simp) ?_; (case hd => rfl); (case hg => rfl); (case hr => first | (go_simp; done) | (go_simp; rfl)); (case hp => exact (Reps.one (show Kd.FK (Kd.slice 5 (Kd.int .u8)) _ _ t121 [.slice Ao18 t121.length co18] from (Kd.FK_slice_mk (Kd.R_reads' (Kd.R_mono (ok' := (fun k_ => (P0_3_ k_ ∨ w.heap.size ≤ k_) ∧ k_ ≠ gb119)) (Kd.R_types (HO123.out) BK119.out (by decide)) (fun k_ hk => by (repeat' (with_reducible apply And.intro)) <;> first | exact trivial | exact hk | exact hk.1 | exact hk.2 | exact hk.1.1 | exact hk.1.2 | exact hk.2.1 | exact hk.2.2 | exact hk.1.1.1 | exact hk.1.1.2 | exact hk.1.2.1 | exact hk.1.2.2 | exact hk.2.1.1 | exact hk.2.1.2 | exact hk.2.2.1 | exact hk.2.2.2 | exact hk.1.1.1.1 | exact hk.1.1.1.2 | exact hk.1.1.2.1 | exact hk.1.1.2.2 | exact hk.1.2.1.1 | exact hk.1.2.1.2 | exact hk.1.2.2.1 | exact hk.1.2.2.2 | exact hk.2.1.1.1 | exact hk.2.1.1.2 | exact hk.2.1.2.1 | exact hk.2.1.2.2 | exact hk.2.2.1.1 | exact hk.2.2.1.2 | exact hk.2.2.2.1 | exact hk.2.2.2.2 | exact hk.1.1.1.1.1 | exact hk.1.1.1.1.2 | exact hk.1.1.1.2.2 | exact hk.1.1.2.2.2 | exact hk.1.2.2.2.2 | exact hk.2.1.1.1.1 | exact hk.2.2.1.1.1 | exact hk.2.2.2.1.1 | exact hk.2.2.2.2.1 | exact hk.2.2.2.2.2 | exact hk.1.1.1.1.1.1 | exact hk.1.1.1.1.1.2 | exact hk.1.1.1.1.2.2 | exact hk.1.1.1.2.2.2 | exact hk.1.1.2.2.2.2 | exact hk.1.2.2.2.2.2 | exact hk.2.1.1.1.1.1 | exact hk.2.2.1.1.1.1 | exact hk.2.2.2.1.1.1 | exact hk.2.2.2.2.1.1 | exact hk.2.2.2.2.2.1 | exact hk.2.2.2.2.2.2 | exact .inr hk | exact .inr hk.1 | exact .inr hk.2 | exact .inr hk.1.1 | exact .inr hk.1.2 | exact .inr hk.2.1 | exact .inr hk.2.2 | exact .inr hk.1.1.1 | exact .inr hk.1.1.2 | exact .inr hk.1.2.1 | exact .inr hk.1.2.2 | exact .inr hk.2.1.1 | exact .inr hk.2.1.2 | exact .inr hk.2.2.1 | exact .inr hk.2.2.2 | exact .inl hk | exact .inl hk.1))).2.1 (Kd.R_F (Kd.R_mono (ok' := (fun k_ => (P0_3_ k_ ∨ w.heap.size ≤ k_) ∧ k_ ≠ gb119)) (Kd.R_types (HO123.out) BK119.out (by decide)) (fun k_ hk => by (repeat' (with_reducible apply And.intro)) <;> first | exact trivial | exact hk | exact hk.1 | exact hk.2 | exact hk.1.1 | exact hk.1.2 | exact hk.2.1 | exact hk.2.2 | exact hk.1.1.1 | exact hk.1.1.2 | exact hk.1.2.1 | exact hk.1.2.2 | exact hk.2.1.1 | exact hk.2.1.2 | exact hk.2.2.1 | exact hk.2.2.2 | exact hk.1.1.1.1 | exact hk.1.1.1.2 | exact hk.1.1.2.1 | exact hk.1.1.2.2 | exact hk.1.2.1.1 | exact hk.1.2.1.2 | exact hk.1.2.2.1 | exact hk.1.2.2.2 | exact hk.2.1.1.1 | exact hk.2.1.1.2 | exact hk.2.1.2.1 | exact hk.2.1.2.2 | exact hk.2.2.1.1 | exact hk.2.2.1.2 | exact hk.2.2.2.1 | exact hk.2.2.2.2 | exact hk.1.1.1.1.1 | exact hk.1.1.1.1.2 | exact hk.1.1.1.2.2 | exact hk.1.1.2.2.2 | exact hk.1.2.2.2.2 | exact hk.2.1.1.1.1 | exact hk.2.2.1.1.1 | exact hk.2.2.2.1.1 | exact hk.2.2.2.2.1 | exact hk.2.2.2.2.2 | exact hk.1.1.1.1.1.1 | exact hk.1.1.1.1.1.2 | exact hk.1.1.1.1.2.2 | exact hk.1.1.1.2.2.2 | exact hk.1.1.2.2.2.2 | exact hk.1.2.2.2.2.2 | exact hk.2.1.1.1.1.1 | exact hk.2.2.1.1.1.1 | exact hk.2.2.2.1.1.1 | exact hk.2.2.2.2.1.1 | exact hk.2.2.2.2.2.1 | exact hk.2.2.2.2.2.2 | exact .inr hk | exact .inr hk.1 | exact .inr hk.2 | exact .inr hk.1.1 | exact .inr hk.1.2 | exact .inr hk.2.1 | exact .inr hk.2.2 | exact .inr hk.1.1.1 | exact .inr hk.1.1.2 | exact .inr hk.1.2.1 | exact .inr hk.1.2.2 | exact .inr hk.2.1.1 | exact .inr hk.2.1.2 | exact .inr hk.2.2.1 | exact .inr hk.2.2.2 | exact .inl hk | exact .inl hk.1))))) (Reps.one (show Kd.FK (Kd.slice 5 (Kd.int .u8)) _ _ t124 [.slice Ao19 t124.length co19] from (Kd.FK_slice_mk (Kd.R_reads' (Kd.R_mono (ok' := (fun k_ => (P0_3_ k_ ∨ w.heap.size ≤ k_) ∧ k_ ≠ gb119)) (Kd.R_types (HO126.out) BK119.out (by decide)) (fun k_ hk => by (repeat' (with_reducible apply And.intro)) <;> first | exact trivial | exact hk | exact hk.1 | exact hk.2 | exact hk.1.1 | exact hk.1.2 | exact hk.2.1 | exact hk.2.2 | exact hk.1.1.1 | exact hk.1.1.2 | exact hk.1.2.1 | exact hk.1.2.2 | exact hk.2.1.1 | exact hk.2.1.2 | exact hk.2.2.1 | exact hk.2.2.2 | exact hk.1.1.1.1 | exact hk.1.1.1.2 | exact hk.1.1.2.1 | exact hk.1.1.2.2 | exact hk.1.2.1.1 | exact hk.1.2.1.2 | exact hk.1.2.2.1 | exact hk.1.2.2.2 | exact hk.2.1.1.1 | exact hk.2.1.1.2 | exact hk.2.1.2.1 | exact hk.2.1.2.2 | exact hk.2.2.1.1 | exact hk.2.2.1.2 | exact hk.2.2.2.1 | exact hk.2.2.2.2 | exact hk.1.1.1.1.1 | exact hk.1.1.1.1.2 | exact hk.1.1.1.2.2 | exact hk.1.1.2.2.2 | exact hk.1.2.2.2.2 | exact hk.2.1.1.1.1 | exact hk.2.2.1.1.1 | exact hk.2.2.2.1.1 | exact hk.2.2.2.2.1 | exact hk.2.2.2.2.2 | exact hk.1.1.1.1.1.1 | exact hk.1.1.1.1.1.2 | exact hk.1.1.1.1.2.2 | exact hk.1.1.1.2.2.2 | exact hk.1.1.2.2.2.2 | exact hk.1.2.2.2.2.2 | exact hk.2.1.1.1.1.1 | exact hk.2.2.1.1.1.1 | exact hk.2.2.2.1.1.1 | exact hk.2.2.2.2.1.1 | exact hk.2.2.2.2.2.1 | exact hk.2.2.2.2.2.2 | exact .inr hk | exact .inr hk.1 | exact .inr hk.2 | exact .inr hk.1.1 | exact .inr hk.1.2 | exact .inr hk.2.1 | exact .inr hk.2.2 | exact .inr hk.1.1.1 | exact .inr hk.1.1.2 | exact .inr hk.1.2.1 | exact .inr hk.1.2.2 | exact .inr hk.2.1.1 | exact .inr hk.2.1.2 | exact .inr hk.2.2.1 | exact .inr hk.2.2.2 | exact .inl hk | exact .inl hk.1))).2.1 (Kd.R_F (Kd.R_mono (ok' := (fun k_ => (P0_3_ k_ ∨ w.heap.size ≤ k_) ∧ k_ ≠ gb119)) (Kd.R_types (HO126.out) BK119.out (by decide)) (fun k_ hk => by (repeat' (with_reducible apply And.intro)) <;> first | exact trivial | exact hk | exact hk.1 | exact hk.2 | exact hk.1.1 | exact hk.1.2 | exact hk.2.1 | exact hk.2.2 | exact hk.1.1.1 | exact hk.1.1.2 | exact hk.1.2.1 | exact hk.1.2.2 | exact hk.2.1.1 | exact hk.2.1.2 | exact hk.2.2.1 | exact hk.2.2.2 | exact hk.1.1.1.1 | exact hk.1.1.1.2 | exact hk.1.1.2.1 | exact hk.1.1.2.2 | exact hk.1.2.1.1 | exact hk.1.2.1.2 | exact hk.1.2.2.1 | exact hk.1.2.2.2 | exact hk.2.1.1.1 | exact hk.2.1.1.2 | exact hk.2.1.2.1 | exact hk.2.1.2.2 | exact hk.2.2.1.1 | exact hk.2.2.1.2 | exact hk.2.2.2.1 | exact hk.2.2.2.2 | exact hk.1.1.1.1.1 | exact hk.1.1.1.1.2 | exact hk.1.1.1.2.2 | exact hk.1.1.2.2.2 | exact hk.1.2.2.2.2 | exact hk.2.1.1.1.1 | exact hk.2.2.1.1.1 | exact hk.2.2.2.1.1 | exact hk.2.2.2.2.1 | exact hk.2.2.2.2.2 | exact hk.1.1.1.1.1.1 | exact hk.1.1.1.1.1.2 | exact hk.1.1.1.1.2.2 | exact hk.1.1.1.2.2.2 | exact hk.1.1.2.2.2.2 | exact hk.1.2.2.2.2.2 | exact hk.2.1.1.1.1.1 | exact hk.2.2.1.1.1.1 | exact hk.2.2.2.1.1.1 | exact hk.2.2.2.2.1.1 | exact hk.2.2.2.2.2.1 | exact hk.2.2.2.2.2.2 | exact .inr hk | exact .inr hk.1 | exact .inr hk.2 | exact .inr hk.1.1 | exact .inr hk.1.2 | exact .inr hk.2.1 | exact .inr hk.2.2 | exact .inr hk.1.1.1 | exact .inr hk.1.1.2 | exact .inr hk.1.2.1 | exact .inr hk.1.2.2 | exact .inr hk.2.1.1 | exact .inr hk.2.1.2 | exact .inr hk.2.2.1 | exact .inr hk.2.2.2 | exact .inl hk | exact .inl hk.1))))) (Reps.one (show Kd.FK (Kd.slice 5 (Kd.int .u8)) _ _ y127 [.slice Ao20 y127.length co20] from (Kd.FK_slice_mk (Kd.R_reads' (Kd.R_mono (ok' := (fun k_ => (P0_3_ k_ ∨ w.heap.size ≤ k_) ∧ k_ ≠ gb119)) (Kd.R_types (HO129.out) BK119.out (by decide)) (fun k_ hk => by (repeat' (with_reducible apply And.intro)) <;> first | exact trivial | exact hk | exact hk.1 | exact hk.2 | exact hk.1.1 | exact hk.1.2 | exact hk.2.1 | exact hk.2.2 | exact hk.1.1.1 | exact hk.1.1.2 | exact hk.1.2.1 | exact hk.1.2.2 | exact hk.2.1.1 | exact hk.2.1.2 | exact hk.2.2.1 | exact hk.2.2.2 | exact hk.1.1.1.1 | exact hk.1.1.1.2 | exact hk.1.1.2.1 | exact hk.1.1.2.2 | exact hk.1.2.1.1 | exact hk.1.2.1.2 | exact hk.1.2.2.1 | exact hk.1.2.2.2 | exact hk.2.1.1.1 | exact hk.2.1.1.2 | exact hk.2.1.2.1 | exact hk.2.1.2.2 | exact hk.2.2.1.1 | exact hk.2.2.1.2 | exact hk.2.2.2.1 | exact hk.2.2.2.2 | exact hk.1.1.1.1.1 | exact hk.1.1.1.1.2 | exact hk.1.1.1.2.2 | exact hk.1.1.2.2.2 | exact hk.1.2.2.2.2 | exact hk.2.1.1.1.1 | exact hk.2.2.1.1.1 | exact hk.2.2.2.1.1 | exact hk.2.2.2.2.1 | exact hk.2.2.2.2.2 | exact hk.1.1.1.1.1.1 | exact hk.1.1.1.1.1.2 | exact hk.1.1.1.1.2.2 | exact hk.1.1.1.2.2.2 | exact hk.1.1.2.2.2.2 | exact hk.1.2.2.2.2.2 | exact hk.2.1.1.1.1.1 | exact hk.2.2.1.1.1.1 | exact hk.2.2.2.1.1.1 | exact hk.2.2.2.2.1.1 | exact hk.2.2.2.2.2.1 | exact hk.2.2.2.2.2.2 | exact .inr hk | exact .inr hk.1 | exact .inr hk.2 | exact .inr hk.1.1 | exact .inr hk.1.2 | exact .inr hk.2.1 | exact .inr hk.2.2 | exact .inr hk.1.1.1 | exact .inr hk.1.1.2 | exact .inr hk.1.2.1 | exact .inr hk.1.2.2 | exact .inr hk.2.1.1 | exact .inr hk.2.1.2 | exact .inr hk.2.2.1 | exact .inr hk.2.2.2 | exact .inl hk | exact .inl hk.1))).2.1 (Kd.R_F (Kd.R_mono (ok' := (fun k_ => (P0_3_ k_ ∨ w.heap.size ≤ k_) ∧ k_ ≠ gb119)) (Kd.R_types (HO129.out) BK119.out (by decide)) (fun k_ hk => by (repeat' (with_reducible apply And.intro)) <;> first | exact trivial | exact hk | exact hk.1 | exact hk.2 | exact hk.1.1 | exact hk.1.2 | exact hk.2.1 | exact hk.2.2 | exact hk.1.1.1 | exact hk.1.1.2 | exact hk.1.2.1 | exact hk.1.2.2 | exact hk.2.1.1 | exact hk.2.1.2 | exact hk.2.2.1 | exact hk.2.2.2 | exact hk.1.1.1.1 | exact hk.1.1.1.2 | exact hk.1.1.2.1 | exact hk.1.1.2.2 | exact hk.1.2.1.1 | exact hk.1.2.1.2 | exact hk.1.2.2.1 | exact hk.1.2.2.2 | exact hk.2.1.1.1 | exact hk.2.1.1.2 | exact hk.2.1.2.1 | exact hk.2.1.2.2 | exact hk.2.2.1.1 | exact hk.2.2.1.2 | exact hk.2.2.2.1 | exact hk.2.2.2.2 | exact hk.1.1.1.1.1 | exact hk.1.1.1.1.2 | exact hk.1.1.1.2.2 | exact hk.1.1.2.2.2 | exact hk.1.2.2.2.2 | exact hk.2.1.1.1.1 | exact hk.2.2.1.1.1 | exact hk.2.2.2.1.1 | exact hk.2.2.2.2.1 | exact hk.2.2.2.2.2 | exact hk.1.1.1.1.1.1 | exact hk.1.1.1.1.1.2 | exact hk.1.1.1.1.2.2 | exact hk.1.1.1.2.2.2 | exact hk.1.1.2.2.2.2 | exact hk.1.2.2.2.2.2 | exact hk.2.1.1.1.1.1 | exact hk.2.2.1.1.1.1 | exact hk.2.2.2.1.1.1 | exact hk.2.2.2.2.1.1 | exact hk.2.2.2.2.2.1 | exact hk.2.2.2.2.2.2 | exact .inr hk | exact .inr hk.1 | exact .inr hk.2 | exact .inr hk.1.1 | exact .inr hk.1.2 | exact .inr hk.2.1 | exact .inr hk.2.2 | exact .inr hk.1.1.1 | exact .inr hk.1.1.2 | exact .inr hk.1.2.1 | exact .inr hk.1.2.2 | exact .inr hk.2.1.1 | exact .inr hk.2.1.2 | exact .inr hk.2.2.1 | exact .inr hk.2.2.2 | exact .inl hk | exact .inl hk.1))))) (Reps.one (show Kd.FK (Kd.slice 5 (Kd.int .u8)) _ _ l0_3 [.slice A0_3 l0_3.length c0_3] from (Kd.FK_slice_mk (Kd.V_reads' (Kd.V_mono (ok' := (fun k_ => (P0_3_ k_ ∨ w.heap.size ≤ k_) ∧ k_ ≠ gb119)) (HO0_3.out) (fun k_ hk => by (repeat' (with_reducible apply And.intro)) <;> first | exact trivial | exact hk | exact hk.1 | exact hk.2 | exact hk.1.1 | exact hk.1.2 | exact hk.2.1 | exact hk.2.2 | exact hk.1.1.1 | exact hk.1.1.2 | exact hk.1.2.1 | exact hk.1.2.2 | exact hk.2.1.1 | exact hk.2.1.2 | exact hk.2.2.1 | exact hk.2.2.2 | exact hk.1.1.1.1 | exact hk.1.1.1.2 | exact hk.1.1.2.1 | exact hk.1.1.2.2 | exact hk.1.2.1.1 | exact hk.1.2.1.2 | exact hk.1.2.2.1 | exact hk.1.2.2.2 | exact hk.2.1.1.1 | exact hk.2.1.1.2 | exact hk.2.1.2.1 | exact hk.2.1.2.2 | exact hk.2.2.1.1 | exact hk.2.2.1.2 | exact hk.2.2.2.1 | exact hk.2.2.2.2 | exact hk.1.1.1.1.1 | exact hk.1.1.1.1.2 | exact hk.1.1.1.2.2 | exact hk.1.1.2.2.2 | exact hk.1.2.2.2.2 | exact hk.2.1.1.1.1 | exact hk.2.2.1.1.1 | exact hk.2.2.2.1.1 | exact hk.2.2.2.2.1 | exact hk.2.2.2.2.2 | exact hk.1.1.1.1.1.1 | exact hk.1.1.1.1.1.2 | exact hk.1.1.1.1.2.2 | exact hk.1.1.1.2.2.2 | exact hk.1.1.2.2.2.2 | exact hk.1.2.2.2.2.2 | exact hk.2.1.1.1.1.1 | exact hk.2.2.1.1.1.1 | exact hk.2.2.2.1.1.1 | exact hk.2.2.2.2.1.1 | exact hk.2.2.2.2.2.1 | exact hk.2.2.2.2.2.2 | exact .inr hk | exact .inr hk.1 | exact .inr hk.2 | exact .inr hk.1.1 | exact .inr hk.1.2 | exact .inr hk.2.1 | exact .inr hk.2.2 | exact .inr hk.1.1.1 | exact .inr hk.1.1.2 | exact .inr hk.1.2.1 | exact .inr hk.1.2.2 | exact .inr hk.2.1.1 | exact .inr hk.2.1.2 | exact .inr hk.2.2.1 | exact .inr hk.2.2.2 | exact .inl hk | exact .inl hk.1))).2.1 (Kd.V_F (Kd.V_mono (ok' := (fun k_ => (P0_3_ k_ ∨ w.heap.size ≤ k_) ∧ k_ ≠ gb119)) (HO0_3.out) (fun k_ hk => by (repeat' (with_reducible apply And.intro)) <;> first | exact trivial | exact hk | exact hk.1 | exact hk.2 | exact hk.1.1 | exact hk.1.2 | exact hk.2.1 | exact hk.2.2 | exact hk.1.1.1 | exact hk.1.1.2 | exact hk.1.2.1 | exact hk.1.2.2 | exact hk.2.1.1 | exact hk.2.1.2 | exact hk.2.2.1 | exact hk.2.2.2 | exact hk.1.1.1.1 | exact hk.1.1.1.2 | exact hk.1.1.2.1 | exact hk.1.1.2.2 | exact hk.1.2.1.1 | exact hk.1.2.1.2 | exact hk.1.2.2.1 | exact hk.1.2.2.2 | exact hk.2.1.1.1 | exact hk.2.1.1.2 | exact hk.2.1.2.1 | exact hk.2.1.2.2 | exact hk.2.2.1.1 | exact hk.2.2.1.2 | exact hk.2.2.2.1 | exact hk.2.2.2.2 | exact hk.1.1.1.1.1 | exact hk.1.1.1.1.2 | exact hk.1.1.1.2.2 | exact hk.1.1.2.2.2 | exact hk.1.2.2.2.2 | exact hk.2.1.1.1.1 | exact hk.2.2.1.1.1 | exact hk.2.2.2.1.1 | exact hk.2.2.2.2.1 | exact hk.2.2.2.2.2 | exact hk.1.1.1.1.1.1 | exact hk.1.1.1.1.1.2 | exact hk.1.1.1.1.2.2 | exact hk.1.1.1.2.2.2 | exact hk.1.1.2.2.2.2 | exact hk.1.2.2.2.2.2 | exact hk.2.1.1.1.1.1 | exact hk.2.2.1.1.1.1 | exact hk.2.2.2.1.1.1 | exact hk.2.2.2.2.1.1 | exact hk.2.2.2.2.2.1 | exact hk.2.2.2.2.2.2 | exact .inr hk | exact .inr hk.1 | exact .inr hk.2 | exact .inr hk.1.1 | exact .inr hk.1.2 | exact .inr hk.2.1 | exact .inr hk.2.2 | exact .inr hk.1.1.1 | exact .inr hk.1.1.2 | exact .inr hk.1.2.1 | exact .inr hk.1.2.2 | exact .inr hk.2.1.1 | exact .inr hk.2.1.2 | exact .inr hk.2.2.1 | exact .inr hk.2.2.2 | exact .inl hk | exact .inl hk.1))))) (Reps.none _ _))))))
     intro v131 w21 ho22 hb hg_ hnew_
     clear hg_ hnew_
     (first | rw [← Ny130.out] at ho22 | (simp only [Int.reduceToNat] at ho22; rw [← Ny130.out] at ho22))
     have n0_ := Aside0.mk (Kd.V_elder' (by (with_reducible repeat (first | apply Kd.V_alloc | apply Kd.V_drewN | apply Kd.V_drew)); first | exact HO0_3.out | exact Kd.V_mono HO0_3.out (fun _ hk => by (repeat' (with_reducible apply And.intro)) <;> first | exact trivial | exact hk | exact hk.1 | exact hk.2 | exact hk.1.1 | exact hk.1.2 | exact hk.2.1 | exact hk.2.2 | exact hk.1.1.1 | exact hk.1.1.2 | exact hk.1.2.1 | exact hk.1.2.2 | exact hk.2.1.1 | exact hk.2.1.2 | exact hk.2.2.1 | exact hk.2.2.2 | exact hk.1.1.1.1 | exact hk.1.1.1.2 | exact hk.1.1.2.1 | exact hk.1.1.2.2 | exact hk.1.2.1.1 | exact hk.1.2.1.2 | exact hk.1.2.2.1 | exact hk.1.2.2.2 | exact hk.2.1.1.1 | exact hk.2.1.1.2 | exact hk.2.1.2.1 | exact hk.2.1.2.2 | exact hk.2.2.1.1 | exact hk.2.2.1.2 | exact hk.2.2.2.1 | exact hk.2.2.2.2 | exact hk.1.1.1.1.1 | exact hk.1.1.1.1.2 | exact hk.1.1.1.2.2 | exact hk.1.1.2.2.2 | exact hk.1.2.2.2.2 | exact hk.2.1.1.1.1 | exact hk.2.2.1.1.1 | exact hk.2.2.2.1.1 | exact hk.2.2.2.2.1 | exact hk.2.2.2.2.2 | exact hk.1.1.1.1.1.1 | exact hk.1.1.1.1.1.2 | exact hk.1.1.1.1.2.2 | exact hk.1.1.1.2.2.2 | exact hk.1.1.2.2.2.2 | exact hk.1.2.2.2.2.2 | exact hk.2.1.1.1.1.1 | exact hk.2.2.1.1.1.1 | exact hk.2.2.2.1.1.1 | exact hk.2.2.2.2.1.1 | exact hk.2.2.2.2.2.1 | exact hk.2.2.2.2.2.2 | exact .inr hk | exact .inr hk.1 | exact .inr hk.2 | exact .inr hk.1.1 | exact .inr hk.1.2 | exact .inr hk.2.1 | exact .inr hk.2.2 | exact .inr hk.1.1.1 | exact .inr hk.1.1.2 | exact .inr hk.1.2.1 | exact .inr hk.1.2.2 | exact .inr hk.2.1.1 | exact .inr hk.2.1.2 | exact .inr hk.2.2.1 | exact .inr hk.2.2.2 | exact .inl hk | exact .inl hk.1)) (Kd.N_base ho22) hb)
     have n1_ := Aside0.mk (Kd.N_lower ho22 (below_size (by repeat (first | (with_reducible first | exact HB.out | apply below_alloc | apply pw_below_drewN | apply below_drew1 | refine below_set ?_ GE119.out) | exact HB.out))))
     have n2_ := Aside0.mk (blk_below (g := gb119) (o := .cells #[.int .i64 a0_0, .int .i64 a0_1, .bool true, .slice A0_3 l0_3.length c0_3] 37 (0, 0)) (by (with_reducible repeat (first | refine blk_drewN ?_ _ | refine blk_drew ?_ | refine blk_alloc ?_ _)); exact BK119.out) hb)
     have n3_ := Aside0.mk (below_step (by repeat (first | (with_reducible first | exact HB.out | apply below_alloc | apply pw_below_drewN | apply below_drew1 | refine below_set ?_ GE119.out) | exact HB.out)) hb)
     clear HO0_3
     clear BK119
     clear HB
     clear HO123
     clear HO126
     clear HO129
     have HO0_3 := n0_
     have HO132 := n1_
     have BK119 := n2_
     have HB := n3_
     clear n0_ n1_ n2_ n3_
     clear hb ho22
     refine hK.out _ _ ⟨.slice Ao18 t121.length co18, .slice Ao19 t124.length co19, .slice Ao20 y127.length co20, v131, v134, m12_, (by rw [ha.out]; exact putSel_upk 6 hb_ rfl rfl rfl), (by (with_reducible repeat (first | apply Kd.V_alloc | apply Kd.V_drewN | apply Kd.V_drew)); exact Kd.V_mono HO0_3.out (fun _ hk => by (repeat' (with_reducible apply And.intro)) <;> first | exact trivial | exact hk | exact hk.1 | exact hk.2 | exact hk.1.1 | exact hk.1.2 | exact hk.2.1 | exact hk.2.2 | exact hk.1.1.1 | exact hk.1.1.2 | exact hk.1.2.1 | exact hk.1.2.2 | exact hk.2.1.1 | exact hk.2.1.2 | exact hk.2.2.1 | exact hk.2.2.2 | exact hk.1.1.1.1 | exact hk.1.1.1.2 | exact hk.1.1.2.1 | exact hk.1.1.2.2 | exact hk.1.2.1.1 | exact hk.1.2.1.2 | exact hk.1.2.2.1 | exact hk.1.2.2.2 | exact hk.2.1.1.1 | exact hk.2.1.1.2 | exact hk.2.1.2.1 | exact hk.2.1.2.2 | exact hk.2.2.1.1 | exact hk.2.2.1.2 | exact hk.2.2.2.1 | exact hk.2.2.2.2 | exact hk.1.1.1.1.1 | exact hk.1.1.1.1.2 | exact hk.1.1.1.2.2 | exact hk.1.1.2.2.2 | exact hk.1.2.2.2.2 | exact hk.2.1.1.1.1 | exact hk.2.2.1.1.1 | exact hk.2.2.2.1.1 | exact hk.2.2.2.2.1 | exact hk.2.2.2.2.2 | exact hk.1.1.1.1.1.1 | exact hk.1.1.1.1.1.2 | exact hk.1.1.1.1.2.2 | exact hk.1.1.1.2.2.2 | exact hk.1.1.2.2.2.2 | exact hk.1.2.2.2.2.2 | exact hk.2.1.1.1.1.1 | exact hk.2.2.1.1.1.1 | exact hk.2.2.2.1.1.1 | exact hk.2.2.2.2.1.1 | exact hk.2.2.2.2.2.1 | exact hk.2.2.2.2.2.2 | exact .inr hk | exact .inr hk.1 | exact .inr hk.2 | exact .inr hk.1.1 | exact .inr hk.1.2 | exact .inr hk.2.1 | exact .inr hk.2.2 | exact .inr hk.1.1.1 | exact .inr hk.1.1.2 | exact .inr hk.1.2.1 | exact .inr hk.1.2.2 | exact .inr hk.2.1.1 | exact .inr hk.2.1.2 | exact .inr hk.2.2.1 | exact .inr hk.2.2.2 | exact .inl hk | exact .inl hk.1)), (by (with_reducible repeat (first | refine blk_drewN ?_ _ | refine blk_drew ?_ | refine blk_alloc ?_ _)); exact BK119.out), (by repeat (first | (with_reducible first | exact HB.out | apply below_alloc | apply pw_below_drewN | apply below_drew1 | refine below_set ?_ GE119.out) | exact HB.out)), fun _ h1_ => absurd ((up_self b 10).symm.trans h1_) (by decide), fun _ h1_ => absurd ((up_self b 10).symm.trans h1_) (by decide), fun _ h1_ => absurd ((up_self b 10).symm.trans h1_) (by decide), fun _ => (by (with_reducible repeat (first | apply Kd.N_alloc | apply Kd.N_drewN | apply Kd.N_drew)); first | exact HO132.out | exact Kd.N_mono HO132.out (fun _ hk => by (repeat' (with_reducible apply And.intro)) <;> first | exact trivial | exact hk | exact hk.1 | exact hk.2 | exact hk.1.1 | exact hk.1.2 | exact hk.2.1 | exact hk.2.2 | exact hk.1.1.1 | exact hk.1.1.2 | exact hk.1.2.1 | exact hk.1.2.2 | exact hk.2.1.1 | exact hk.2.1.2 | exact hk.2.2.1 | exact hk.2.2.2 | exact hk.1.1.1.1 | exact hk.1.1.1.2 | exact hk.1.1.2.1 | exact hk.1.1.2.2 | exact hk.1.2.1.1 | exact hk.1.2.1.2 | exact hk.1.2.2.1 | exact hk.1.2.2.2 | exact hk.2.1.1.1 | exact hk.2.1.1.2 | exact hk.2.1.2.1 | exact hk.2.1.2.2 | exact hk.2.2.1.1 | exact hk.2.2.1.2 | exact hk.2.2.2.1 | exact hk.2.2.2.2 | exact hk.1.1.1.1.1 | exact hk.1.1.1.1.2 | exact hk.1.1.1.2.2 | exact hk.1.1.2.2.2 | exact hk.1.2.2.2.2 | exact hk.2.1.1.1.1 | exact hk.2.2.1.1.1 | exact hk.2.2.2.1.1 | exact hk.2.2.2.2.1 | exact hk.2.2.2.2.2 | exact hk.1.1.1.1.1.1 | exact hk.1.1.1.1.1.2 | exact hk.1.1.1.1.2.2 | exact hk.1.1.1.2.2.2 | exact hk.1.1.2.2.2.2 | exact hk.1.2.2.2.2.2 | exact hk.2.1.1.1.1.1 | exact hk.2.2.1.1.1.1 | exact hk.2.2.2.1.1.1 | exact hk.2.2.2.2.1.1 | exact hk.2.2.2.2.2.1 | exact hk.2.2.2.2.2.2 | exact .inr hk | exact .inr hk.1 | exact .inr hk.2 | exact .inr hk.1.1 | exact .inr hk.1.2 | exact .inr hk.2.1 | exact .inr hk.2.2 | exact .inr hk.1.1.1 | exact .inr hk.1.1.2 | exact .inr hk.1.2.1 | exact .inr hk.1.2.2 | exact .inr hk.2.1.1 | exact .inr hk.2.1.2 | exact .inr hk.2.2.1 | exact .inr hk.2.2.2 | exact .inl hk | exact .inl hk.1)), fun h0_ => absurd ((hoff 11 (by kernel_rfl)).symm.trans h0_) (by decide), fun h0_ => absurd ((hoff 12 (by kernel_rfl)).symm.trans h0_) (by decide)⟩
    refine steps_cons ?_ ?_
    ·rintro b a w' ⟨v122, v125, v128, v131, v134, m12_, ha, Q_HO0_3, Q_BK119, Q_HB, Q_HO123, Q_HO126, Q_HO129, Q_HO132, Q_HO135, Q_X12_⟩ hb_ hon hoff
     refine ⟨_, rfl, fun K hK => ?_⟩
     have e21 : a.tmps[21]? = some (v131) := by rw [ha]; exact putSel_on (e := (10, 21, v131)) 6 rfl rfl (hon 10 (by kernel_rfl)) rfl
     replace ha := Aside0.mk ha
     have HO0_3 := Aside0.mk Q_HO0_3
     have BK119 := Aside0.mk Q_BK119
     have HB := Aside0.mk Q_HB
     have HO132 := Aside0.mk (Q_HO132 (hon 10 (by kernel_rfl)))
     obtain ⟨Ao23, co23, eo23⟩ := Kd.N_slice HO132.out
     (first | subst eo23 | (injection eo23 with f1_ f2_ f3_; have f4_ := f1_.symm; have f5_ := f3_.symm; clear f1_ f2_ f3_; subst f4_; subst f5_))
     refine goes_ Tryd.func40 (by kernel_rfl) rfl #[.slice Ao23 y130.length co23] (by rfl) rfl rfl (by first | (simp only [List.map_toArray, List.map_cons, List.map_nil, Act.eval, Array.getD_eq_getD_getElem?, Option.getD_some, e21]; done) | (simp only [List.map_toArray, List.map_cons, List.map_nil, Act.eval, Array.getD_eq_getD_getElem?, Option.getD_some, e21]; rfl)) ?_
     with_reducible refine (slices_Concat_byte_byte.calls k _ _ y130 t133 _ ?side1 ?side2 A7.out).mono ?_
     (case side1 => repeat (first | exact (Kd.N_reads' HO132.out).2.2 | (with_reducible refine Kd.C_alloc ?_ _) | (with_reducible refine Kd.C_drewN ?_ _) | (with_reducible refine Kd.C_drew ?_)))
     (case side2 => exact (Kd.N_reads' HO132.out).2.1)
     rintro e w24 ⟨v134, rfl, ho0, hb⟩
     refine ⟨_, rfl, ?_⟩
     have n0_ := Aside0.mk (Kd.V_elder' (by (with_reducible repeat (first | apply Kd.V_alloc | apply Kd.V_drewN | apply Kd.V_drew)); first | exact HO0_3.out | exact Kd.V_mono HO0_3.out (fun _ hk => by (repeat' (with_reducible apply And.intro)) <;> first | exact trivial | exact hk | exact hk.1 | exact hk.2 | exact hk.1.1 | exact hk.1.2 | exact hk.2.1 | exact hk.2.2 | exact hk.1.1.1 | exact hk.1.1.2 | exact hk.1.2.1 | exact hk.1.2.2 | exact hk.2.1.1 | exact hk.2.1.2 | exact hk.2.2.1 | exact hk.2.2.2 | exact hk.1.1.1.1 | exact hk.1.1.1.2 | exact hk.1.1.2.1 | exact hk.1.1.2.2 | exact hk.1.2.1.1 | exact hk.1.2.1.2 | exact hk.1.2.2.1 | exact hk.1.2.2.2 | exact hk.2.1.1.1 | exact hk.2.1.1.2 | exact hk.2.1.2.1 | exact hk.2.1.2.2 | exact hk.2.2.1.1 | exact hk.2.2.1.2 | exact hk.2.2.2.1 | exact hk.2.2.2.2 | exact hk.1.1.1.1.1 | exact hk.1.1.1.1.2 | exact hk.1.1.1.2.2 | exact hk.1.1.2.2.2 | exact hk.1.2.2.2.2 | exact hk.2.1.1.1.1 | exact hk.2.2.1.1.1 | exact hk.2.2.2.1.1 | exact hk.2.2.2.2.1 | exact hk.2.2.2.2.2 | exact hk.1.1.1.1.1.1 | exact hk.1.1.1.1.1.2 | exact hk.1.1.1.1.2.2 | exact hk.1.1.1.2.2.2 | exact hk.1.1.2.2.2.2 | exact hk.1.2.2.2.2.2 | exact hk.2.1.1.1.1.1 | exact hk.2.2.1.1.1.1 | exact hk.2.2.2.1.1.1 | exact hk.2.2.2.2.1.1 | exact hk.2.2.2.2.2.1 | exact hk.2.2.2.2.2.2 | exact .inr hk | exact .inr hk.1 | exact .inr hk.2 | exact .inr hk.1.1 | exact .inr hk.1.2 | exact .inr hk.2.1 | exact .inr hk.2.2 | exact .inr hk.1.1.1 | exact .inr hk.1.1.2 | exact .inr hk.1.2.1 | exact .inr hk.1.2.2 | exact .inr hk.2.1.1 | exact .inr hk.2.1.2 | exact .inr hk.2.2.1 | exact .inr hk.2.2.2 | exact .inl hk | exact .inl hk.1)) (Kd.R_base ho0) hb)
     have n1_ := Aside0.mk (Kd.N_elder' (by (with_reducible repeat (first | apply Kd.N_alloc | apply Kd.N_drewN | apply Kd.N_drew)); first | exact HO132.out | exact Kd.N_mono HO132.out (fun _ hk => by (repeat' (with_reducible apply And.intro)) <;> first | exact trivial | exact hk | exact hk.1 | exact hk.2 | exact hk.1.1 | exact hk.1.2 | exact hk.2.1 | exact hk.2.2 | exact hk.1.1.1 | exact hk.1.1.2 | exact hk.1.2.1 | exact hk.1.2.2 | exact hk.2.1.1 | exact hk.2.1.2 | exact hk.2.2.1 | exact hk.2.2.2 | exact hk.1.1.1.1 | exact hk.1.1.1.2 | exact hk.1.1.2.1 | exact hk.1.1.2.2 | exact hk.1.2.1.1 | exact hk.1.2.1.2 | exact hk.1.2.2.1 | exact hk.1.2.2.2 | exact hk.2.1.1.1 | exact hk.2.1.1.2 | exact hk.2.1.2.1 | exact hk.2.1.2.2 | exact hk.2.2.1.1 | exact hk.2.2.1.2 | exact hk.2.2.2.1 | exact hk.2.2.2.2 | exact hk.1.1.1.1.1 | exact hk.1.1.1.1.2 | exact hk.1.1.1.2.2 | exact hk.1.1.2.2.2 | exact hk.1.2.2.2.2 | exact hk.2.1.1.1.1 | exact hk.2.2.1.1.1 | exact hk.2.2.2.1.1 | exact hk.2.2.2.2.1 | exact hk.2.2.2.2.2 | exact hk.1.1.1.1.1.1 | exact hk.1.1.1.1.1.2 | exact hk.1.1.1.1.2.2 | exact hk.1.1.1.2.2.2 | exact hk.1.1.2.2.2.2 | exact hk.1.2.2.2.2.2 | exact hk.2.1.1.1.1.1 | exact hk.2.2.1.1.1.1 | exact hk.2.2.2.1.1.1 | exact hk.2.2.2.2.1.1 | exact hk.2.2.2.2.2.1 | exact hk.2.2.2.2.2.2 | exact .inr hk | exact .inr hk.1 | exact .inr hk.2 | exact .inr hk.1.1 | exact .inr hk.1.2 | exact .inr hk.2.1 | exact .inr hk.2.2 | exact .inr hk.1.1.1 | exact .inr hk.1.1.2 | exact .inr hk.1.2.1 | exact .inr hk.1.2.2 | exact .inr hk.2.1.1 | exact .inr hk.2.1.2 | exact .inr hk.2.2.1 | exact .inr hk.2.2.2 | exact .inl hk | exact .inl hk.1)) (Kd.R_base ho0) hb)
     have n2_ := Aside0.mk (Kd.R_lower (Kd.R_newM (M := fun k_ => (w.heap.size ≤ k_)) ho0 (below_size (by repeat (first | (with_reducible first | exact HB.out | apply below_alloc | apply pw_below_drewN | apply below_drew1 | refine below_set ?_ GE119.out) | exact HB.out))) (fun k_ h_ => h_)) (below_size (by repeat (first | (with_reducible first | exact HB.out | apply below_alloc | apply pw_below_drewN | apply below_drew1 | refine below_set ?_ GE119.out) | exact HB.out))))
     have n3_ := Aside0.mk (blk_below (g := gb119) (o := .cells #[.int .i64 a0_0, .int .i64 a0_1, .bool true, .slice A0_3 l0_3.length c0_3] 37 (0, 0)) (by (with_reducible repeat (first | refine blk_drewN ?_ _ | refine blk_drew ?_ | refine blk_alloc ?_ _)); exact BK119.out) hb)
     have n4_ := Aside0.mk (below_step (by repeat (first | (with_reducible first | exact HB.out | apply below_alloc | apply pw_below_drewN | apply below_drew1 | refine below_set ?_ GE119.out) | exact HB.out)) hb)
     clear HO0_3
     clear HO132
     clear BK119
     clear HB
     have HO0_3 := n0_
     have HO132 := n1_
     have HO135 := n2_
     have BK119 := n3_
     have HB := n4_
     clear n0_ n1_ n2_ n3_ n4_
     (try clear hb)
     (try clear hb2)
     (try clear hk)
     (try clear hi)
     (try clear ho0)
     refine hK.out _ _ ⟨v122, v125, v128, .slice Ao23 y130.length co23, v134, m12_, (by rw [ha.out]; exact putSel_upk 7 hb_ rfl rfl rfl), (by (with_reducible repeat (first | apply Kd.V_alloc | apply Kd.V_drewN | apply Kd.V_drew)); exact Kd.V_mono HO0_3.out (fun _ hk => by (repeat' (with_reducible apply And.intro)) <;> first | exact trivial | exact hk | exact hk.1 | exact hk.2 | exact hk.1.1 | exact hk.1.2 | exact hk.2.1 | exact hk.2.2 | exact hk.1.1.1 | exact hk.1.1.2 | exact hk.1.2.1 | exact hk.1.2.2 | exact hk.2.1.1 | exact hk.2.1.2 | exact hk.2.2.1 | exact hk.2.2.2 | exact hk.1.1.1.1 | exact hk.1.1.1.2 | exact hk.1.1.2.1 | exact hk.1.1.2.2 | exact hk.1.2.1.1 | exact hk.1.2.1.2 | exact hk.1.2.2.1 | exact hk.1.2.2.2 | exact hk.2.1.1.1 | exact hk.2.1.1.2 | exact hk.2.1.2.1 | exact hk.2.1.2.2 | exact hk.2.2.1.1 | exact hk.2.2.1.2 | exact hk.2.2.2.1 | exact hk.2.2.2.2 | exact hk.1.1.1.1.1 | exact hk.1.1.1.1.2 | exact hk.1.1.1.2.2 | exact hk.1.1.2.2.2 | exact hk.1.2.2.2.2 | exact hk.2.1.1.1.1 | exact hk.2.2.1.1.1 | exact hk.2.2.2.1.1 | exact hk.2.2.2.2.1 | exact hk.2.2.2.2.2 | exact hk.1.1.1.1.1.1 | exact hk.1.1.1.1.1.2 | exact hk.1.1.1.1.2.2 | exact hk.1.1.1.2.2.2 | exact hk.1.1.2.2.2.2 | exact hk.1.2.2.2.2.2 | exact hk.2.1.1.1.1.1 | exact hk.2.2.1.1.1.1 | exact hk.2.2.2.1.1.1 | exact hk.2.2.2.2.1.1 | exact hk.2.2.2.2.2.1 | exact hk.2.2.2.2.2.2 | exact .inr hk | exact .inr hk.1 | exact .inr hk.2 | exact .inr hk.1.1 | exact .inr hk.1.2 | exact .inr hk.2.1 | exact .inr hk.2.2 | exact .inr hk.1.1.1 | exact .inr hk.1.1.2 | exact .inr hk.1.2.1 | exact .inr hk.1.2.2 | exact .inr hk.2.1.1 | exact .inr hk.2.1.2 | exact .inr hk.2.2.1 | exact .inr hk.2.2.2 | exact .inl hk | exact .inl hk.1)), (by (with_reducible repeat (first | refine blk_drewN ?_ _ | refine blk_drew ?_ | refine blk_alloc ?_ _)); exact BK119.out), (by repeat (first | (with_reducible first | exact HB.out | apply below_alloc | apply pw_below_drewN | apply below_drew1 | refine below_set ?_ GE119.out) | exact HB.out)), fun _ h1_ => absurd ((hon 10 (by kernel_rfl)).symm.trans h1_) (by decide), fun _ h1_ => absurd ((hon 10 (by kernel_rfl)).symm.trans h1_) (by decide), fun _ h1_ => absurd ((hon 10 (by kernel_rfl)).symm.trans h1_) (by decide), fun _ => (by (with_reducible repeat (first | apply Kd.N_alloc | apply Kd.N_drewN | apply Kd.N_drew)); exact Kd.N_mono HO132.out (fun _ hk => by (repeat' (with_reducible apply And.intro)) <;> first | exact trivial | exact hk | exact hk.1 | exact hk.2 | exact hk.1.1 | exact hk.1.2 | exact hk.2.1 | exact hk.2.2 | exact hk.1.1.1 | exact hk.1.1.2 | exact hk.1.2.1 | exact hk.1.2.2 | exact hk.2.1.1 | exact hk.2.1.2 | exact hk.2.2.1 | exact hk.2.2.2 | exact hk.1.1.1.1 | exact hk.1.1.1.2 | exact hk.1.1.2.1 | exact hk.1.1.2.2 | exact hk.1.2.1.1 | exact hk.1.2.1.2 | exact hk.1.2.2.1 | exact hk.1.2.2.2 | exact hk.2.1.1.1 | exact hk.2.1.1.2 | exact hk.2.1.2.1 | exact hk.2.1.2.2 | exact hk.2.2.1.1 | exact hk.2.2.1.2 | exact hk.2.2.2.1 | exact hk.2.2.2.2 | exact hk.1.1.1.1.1 | exact hk.1.1.1.1.2 | exact hk.1.1.1.2.2 | exact hk.1.1.2.2.2 | exact hk.1.2.2.2.2 | exact hk.2.1.1.1.1 | exact hk.2.2.1.1.1 | exact hk.2.2.2.1.1 | exact hk.2.2.2.2.1 | exact hk.2.2.2.2.2 | exact hk.1.1.1.1.1.1 | exact hk.1.1.1.1.1.2 | exact hk.1.1.1.1.2.2 | exact hk.1.1.1.2.2.2 | exact hk.1.1.2.2.2.2 | exact hk.1.2.2.2.2.2 | exact hk.2.1.1.1.1.1 | exact hk.2.2.1.1.1.1 | exact hk.2.2.2.1.1.1 | exact hk.2.2.2.2.1.1 | exact hk.2.2.2.2.2.1 | exact hk.2.2.2.2.2.2 | exact .inr hk | exact .inr hk.1 | exact .inr hk.2 | exact .inr hk.1.1 | exact .inr hk.1.2 | exact .inr hk.2.1 | exact .inr hk.2.2 | exact .inr hk.1.1.1 | exact .inr hk.1.1.2 | exact .inr hk.1.2.1 | exact .inr hk.1.2.2 | exact .inr hk.2.1.1 | exact .inr hk.2.1.2 | exact .inr hk.2.2.1 | exact .inr hk.2.2.2 | exact .inl hk | exact .inl hk.1)), fun _ => (by (with_reducible repeat (first | apply Kd.R_alloc | apply Kd.R_drewN | apply Kd.R_drew)); exact Kd.R_mono HO135.out (fun _ hk => by (repeat' (with_reducible apply And.intro)) <;> first | exact trivial | exact hk | exact hk.1 | exact hk.2 | exact hk.1.1 | exact hk.1.2 | exact hk.2.1 | exact hk.2.2 | exact hk.1.1.1 | exact hk.1.1.2 | exact hk.1.2.1 | exact hk.1.2.2 | exact hk.2.1.1 | exact hk.2.1.2 | exact hk.2.2.1 | exact hk.2.2.2 | exact hk.1.1.1.1 | exact hk.1.1.1.2 | exact hk.1.1.2.1 | exact hk.1.1.2.2 | exact hk.1.2.1.1 | exact hk.1.2.1.2 | exact hk.1.2.2.1 | exact hk.1.2.2.2 | exact hk.2.1.1.1 | exact hk.2.1.1.2 | exact hk.2.1.2.1 | exact hk.2.1.2.2 | exact hk.2.2.1.1 | exact hk.2.2.1.2 | exact hk.2.2.2.1 | exact hk.2.2.2.2 | exact hk.1.1.1.1.1 | exact hk.1.1.1.1.2 | exact hk.1.1.1.2.2 | exact hk.1.1.2.2.2 | exact hk.1.2.2.2.2 | exact hk.2.1.1.1.1 | exact hk.2.2.1.1.1 | exact hk.2.2.2.1.1 | exact hk.2.2.2.2.1 | exact hk.2.2.2.2.2 | exact hk.1.1.1.1.1.1 | exact hk.1.1.1.1.1.2 | exact hk.1.1.1.1.2.2 | exact hk.1.1.1.2.2.2 | exact hk.1.1.2.2.2.2 | exact hk.1.2.2.2.2.2 | exact hk.2.1.1.1.1.1 | exact hk.2.2.1.1.1.1 | exact hk.2.2.2.1.1.1 | exact hk.2.2.2.2.1.1 | exact hk.2.2.2.2.2.1 | exact hk.2.2.2.2.2.2 | exact .inr hk | exact .inr hk.1 | exact .inr hk.2 | exact .inr hk.1.1 | exact .inr hk.1.2 | exact .inr hk.2.1 | exact .inr hk.2.2 | exact .inr hk.1.1.1 | exact .inr hk.1.1.2 | exact .inr hk.1.2.1 | exact .inr hk.1.2.2 | exact .inr hk.2.1.1 | exact .inr hk.2.1.2 | exact .inr hk.2.2.1 | exact .inr hk.2.2.2 | exact .inl hk | exact .inl hk.1)), fun h0_ => absurd ((hoff 12 (by kernel_rfl)).symm.trans h0_) (by decide)⟩
    refine steps_cons ?_ ?_
    ·rintro b a w' ⟨v122, v125, v128, v131, v134, m12_, ha, Q_HO0_3, Q_BK119, Q_HB, Q_HO123, Q_HO126, Q_HO129, Q_HO132, Q_HO135, Q_X12_⟩ hb_ hon hoff
     refine ⟨_, rfl, fun K hK => ?_⟩
     have e22 : a.tmps[22]? = some (v134) := by rw [ha]; exact putSel_on (e := (11, 22, v134)) 7 rfl rfl (hon 11 (by kernel_rfl)) rfl
     replace ha := Aside0.mk ha
     have HO0_3 := Aside0.mk Q_HO0_3
     have BK119 := Aside0.mk Q_BK119
     have HB := Aside0.mk Q_HB
     have HO132 := Aside0.mk (Q_HO132 (hon 10 (by kernel_rfl)))
     have HO135 := Aside0.mk (Q_HO135 (hon 11 (by kernel_rfl)))
     refine value_ (w1 := w') (v := v134) (by rfl) rfl ?_ ?_
     ·go_simp
      (try simp only [i64_w])
      try rfl
     refine hK.out _ _ ⟨v122, v125, v128, v131, v134, (v134), (by rw [ha.out]; exact putSel_upk 8 hb_ rfl rfl rfl), Q_HO0_3, Q_BK119, Q_HB, fun _ h1_ => absurd ((hon 10 (by kernel_rfl)).symm.trans h1_) (by decide), fun _ h1_ => absurd ((hon 10 (by kernel_rfl)).symm.trans h1_) (by decide), fun _ h1_ => absurd ((hon 10 (by kernel_rfl)).symm.trans h1_) (by decide), Q_HO132, Q_HO135, fun _ => rfl⟩
    refine steps_cons ?_ ?_
    ·rintro b a w' ⟨v122, v125, v128, v131, v134, m12_, ha, Q_HO0_3, Q_BK119, Q_HB, Q_HO123, Q_HO126, Q_HO129, Q_HO132, Q_HO135, Q_X12_⟩ hb_ hon hoff
     refine ⟨_, rfl, fun K hK => ?_⟩
     replace ha := Aside0.mk ha
     have HO0_3 := Aside0.mk Q_HO0_3
     have BK119 := Aside0.mk Q_BK119
     have HB := Aside0.mk Q_HB
     have HO132 := Aside0.mk (Q_HO132 (hon 10 (by kernel_rfl)))
     have HO135 := Aside0.mk (Q_HO135 (hon 11 (by kernel_rfl)))
     refine value_ (w1 := w') (v := errW none) (by rfl) rfl ?_ ?_
     ·go_simp
      (try simp only [i64_w])
      try rfl
     refine hK.out _ _ ⟨v122, v125, v128, v131, v134, m12_, (by rw [ha.out]; exact putSel_upk 9 hb_ rfl rfl rfl), Q_HO0_3, Q_BK119, Q_HB, fun _ h1_ => absurd ((hon 10 (by kernel_rfl)).symm.trans h1_) (by decide), fun _ h1_ => absurd ((hon 10 (by kernel_rfl)).symm.trans h1_) (by decide), fun _ h1_ => absurd ((hon 10 (by kernel_rfl)).symm.trans h1_) (by decide), Q_HO132, Q_HO135, Q_X12_⟩
    exact steps_nil
   rintro b a w24 hall ⟨v122, v125, v128, v131, v134, m12_, ha, Q_HO0_3, Q_BK119, Q_HB, Q_HO123, Q_HO126, Q_HO129, Q_HO132, Q_HO135, Q_X12_⟩
   clear BK119 HB HO0_3
   have hb1_ := hall 1 (by kernel_rfl)
   have hb2_ := hall 2 (by kernel_rfl)
   have hb4_ := hall 4 (by kernel_rfl)
   have hb5_ := hall 5 (by kernel_rfl)
   have hb7_ := hall 7 (by kernel_rfl)
   have hb9_ := hall 9 (by kernel_rfl)
   have hb10_ := hall 10 (by kernel_rfl)
   have hb11_ := hall 11 (by kernel_rfl)
   have hb12_ := hall 12 (by kernel_rfl)
   have hb13_ := hall 13 (by kernel_rfl)
   subst ha
   obtain rfl := Q_X12_ hb12_
   simp only [putSel, hb1_, hb2_, hb4_, hb5_, hb7_, hb9_, hb10_, hb11_, hb12_, hb13_, if_true, Act.put, List.setIfInBounds_toArray, List.set_cons_zero, List.set_cons_succ]
   have HO0_3 := Aside0.mk Q_HO0_3
   clear Q_HO0_3
   have BK119 := Aside0.mk Q_BK119
   clear Q_BK119
   have HB := Aside0.mk Q_HB
   clear Q_HB
   clear Q_HO123
   clear Q_HO126
   clear Q_HO129
   have HO132 := Aside0.mk (Q_HO132 hb10_)
   clear Q_HO132
   have HO135 := Aside0.mk (Q_HO135 hb11_)
   clear Q_HO135
   clear hall hb1_ hb2_ hb4_ hb5_ hb7_ hb9_ hb10_ hb11_ hb12_ hb13_
   try go_wp2
   go_ret2
   exact ⟨_, by first | rfl | (simp [errW_none, errW_some] <;> rfl) | (simp [*, errW_none, errW_some] <;> rfl), by (with_reducible repeat (first | apply Kd.R_alloc | apply Kd.R_drewN | apply Kd.R_drew)); exact HO135.out, by repeat (first | (with_reducible first | exact HB.out | apply below_alloc | apply pw_below_drewN | apply below_drew1 | refine below_set ?_ GE119.out) | exact HB.out)⟩
  ·replace c4 := Bool.eq_false_iff.mpr c4
   subst c4
   have H1 : ((piece_number.f a0_0).bind fun t136 => ((piece_number.f a0_1).bind fun t139 => ((slices_Concat_byte_byte.f k (([t136, t139, (([0] : List Int)), l0_3] : List (List Int)))).bind fun t148 => (some (t148, none))))) = some (r1, r2) := by rw [if_neg (show ¬ (false = true) by decide)] at H; exact H
   clear H
   have H := H1
   clear H1
   replace H := Option.bind_eq_some_iff.mp H
   obtain ⟨t136, A250, H⟩ := H
   replace H : ((piece_number.f a0_1).bind fun t139 => ((slices_Concat_byte_byte.f k (([t136, t139, (([0] : List Int)), l0_3] : List (List Int)))).bind fun t148 => (some (t148, none)))) = some (r1, r2) := H
   have A25 := Aside0.mk A250
   clear A250
   replace H := Option.bind_eq_some_iff.mp H
   obtain ⟨t139, A260, H⟩ := H
   replace H : ((slices_Concat_byte_byte.f k (([t136, t139, (([0] : List Int)), l0_3] : List (List Int)))).bind fun t148 => (some (t148, none))) = some (r1, r2) := H
   have A26 := Aside0.mk A260
   clear A260
   obtain ⟨y142, hy142⟩ : ∃ y_ : List Int, y_ = (([0] : List Int)) := ⟨_, rfl⟩
   replace H : ((slices_Concat_byte_byte.f k (([t136, t139, y142, l0_3] : List (List Int)))).bind fun t148 => (some (t148, none))) = some (r1, r2) := by first | (rw [hy142]; with_reducible exact H) | (have H2_ := (Option.bind_some _ _).symm.trans H; rw [hy142]; with_reducible exact H2_) | (have H2_ := (Option.bind_some _ _).symm.trans H; with_reducible exact H2_) | with_reducible exact H | (rw [hy142]; exact H) | exact H
   have Ny142 := Aside0.mk hy142
   clear hy142
   obtain ⟨y145, hy145⟩ : ∃ y_ : List (List Int), y_ = (([t136, t139, y142, l0_3] : List (List Int))) := ⟨_, rfl⟩
   replace H : ((slices_Concat_byte_byte.f k y145).bind fun t148 => (some (t148, none))) = some (r1, r2) := by first | (rw [hy145]; with_reducible exact H) | (have H2_ := (Option.bind_some _ _).symm.trans H; rw [hy145]; with_reducible exact H2_) | (have H2_ := (Option.bind_some _ _).symm.trans H; with_reducible exact H2_) | with_reducible exact H | (rw [hy145]; exact H) | exact H
   have Ny145 := Aside0.mk hy145
   clear hy145
   replace H := Option.bind_eq_some_iff.mp H
   obtain ⟨t148, A270, H⟩ := H
   replace H : (some (t148, none)) = some (r1, r2) := H
   have A27 := Aside0.mk A270
   clear A270
   simp only [Option.some.injEq, Prod.mk.injEq] at H
   obtain ⟨rfl, rfl⟩ := H
   go_enter Tryd.func29, Tryd.ntmps29
   try go_wp2_with (first | ((with_reducible refine gate_dst (N := 1) rfl ?_); refine box_event ?hg (N := 1) ?hd (cs := #[.int .i64 a0_0, .int .i64 a0_1, .bool false, .slice A0_3 l0_3.length c0_3]) (t := 37) ?hr ?_; (case hd => rfl); (case hg => rfl); (case hr => first | (go_simp; done) | (go_simp; rfl)); intro gb119 hg w28 hbox hb; have n0_ := Aside0.mk (Kd.V_below (Kd.V_elderB (by (with_reducible repeat (first | apply Kd.V_alloc | apply Kd.V_drewN | apply Kd.V_drew)); first | exact HO0_3.out | exact Kd.V_mono HO0_3.out (fun _ hk => by (repeat' (with_reducible apply And.intro)) <;> first | exact trivial | exact hk | exact hk.1 | exact hk.2 | exact hk.1.1 | exact hk.1.2 | exact hk.2.1 | exact hk.2.2 | exact hk.1.1.1 | exact hk.1.1.2 | exact hk.1.2.1 | exact hk.1.2.2 | exact hk.2.1.1 | exact hk.2.1.2 | exact hk.2.2.1 | exact hk.2.2.2 | exact hk.1.1.1.1 | exact hk.1.1.1.2 | exact hk.1.1.2.1 | exact hk.1.1.2.2 | exact hk.1.2.1.1 | exact hk.1.2.1.2 | exact hk.1.2.2.1 | exact hk.1.2.2.2 | exact hk.2.1.1.1 | exact hk.2.1.1.2 | exact hk.2.1.2.1 | exact hk.2.1.2.2 | exact hk.2.2.1.1 | exact hk.2.2.1.2 | exact hk.2.2.2.1 | exact hk.2.2.2.2 | exact hk.1.1.1.1.1 | exact hk.1.1.1.1.2 | exact hk.1.1.1.2.2 | exact hk.1.1.2.2.2 | exact hk.1.2.2.2.2 | exact hk.2.1.1.1.1 | exact hk.2.2.1.1.1 | exact hk.2.2.2.1.1 | exact hk.2.2.2.2.1 | exact hk.2.2.2.2.2 | exact hk.1.1.1.1.1.1 | exact hk.1.1.1.1.1.2 | exact hk.1.1.1.1.2.2 | exact hk.1.1.1.2.2.2 | exact hk.1.1.2.2.2.2 | exact hk.1.2.2.2.2.2 | exact hk.2.1.1.1.1.1 | exact hk.2.2.1.1.1.1 | exact hk.2.2.2.1.1.1 | exact hk.2.2.2.2.1.1 | exact hk.2.2.2.2.2.1 | exact hk.2.2.2.2.2.2 | exact .inr hk | exact .inr hk.1 | exact .inr hk.2 | exact .inr hk.1.1 | exact .inr hk.1.2 | exact .inr hk.2.1 | exact .inr hk.2.2 | exact .inr hk.1.1.1 | exact .inr hk.1.1.2 | exact .inr hk.1.2.1 | exact .inr hk.1.2.2 | exact .inr hk.2.1.1 | exact .inr hk.2.1.2 | exact .inr hk.2.2.1 | exact .inr hk.2.2.2 | exact .inl hk | exact .inl hk.1)) gb119 (Nat.le_of_eq hg.symm)) hb); have n1_ := Aside0.mk (below_step (by repeat (first | (with_reducible first | exact HB.out | apply below_alloc | apply pw_below_drewN | apply below_drew1) | exact HB.out)) hb); have n2_ := Aside0.mk (hbox); have n3_ := Aside0.mk ((by rw [hg]; exact (below_size (by repeat (first | (with_reducible first | exact HB.out | apply below_alloc | apply pw_below_drewN | apply below_drew1) | exact HB.out))) : w.heap.size ≤ gb119)); have n4_ := Aside0.mk ((by rw [hg]; exact (below_size (by repeat (first | (with_reducible first | exact HB.out | apply below_alloc | apply pw_below_drewN | apply below_drew1) | exact HB.out))) : w.heap.size ≤ gb119)); clear HO0_3; clear HB; have HO0_3 := n0_; have HB := n1_; have BK119 := n2_; have GW119 := n3_; have GE119 := n4_; clear n0_ n1_ n2_ n3_ n4_; clear hb hbox hg; have hcz29_0 : w28.cell? ⟨gb119, 0, none⟩ = some (.int .i64 a0_0) := (blk_cell BK119.out 0).trans rfl; have hcz29_1 : w28.cell? ⟨gb119, 1, none⟩ = some (.int .i64 a0_1) := (blk_cell BK119.out 1).trans rfl; have hcz29_2 : w28.cell? ⟨gb119, 2, none⟩ = some (.bool false) := (blk_cell BK119.out 2).trans rfl; have hcz29_3 : w28.cell? ⟨gb119, 3, none⟩ = some (.slice A0_3 l0_3.length c0_3) := (blk_cell BK119.out 3).trans rfl; have hfz29_0 := blk_frozen BK119.out 0; have hfz29_1 := blk_frozen BK119.out 1; have hfz29_2 := blk_frozen BK119.out 2; have hfz29_3 := blk_frozen BK119.out 3) | ((with_reducible refine gate_callee (f := 39) rfl ?_); refine goesL_ (some 6) rfl rfl Tryd.func39 (by kernel_rfl) rfl #[.agg #[.int .i64 a0_0, .int .i64 a0_1, .bool false, .slice A0_3 l0_3.length c0_3]] rfl (by (try simp only [List.map_toArray, List.map_cons, List.map_nil]); first | done | rfl | (simp only [List.length_drop, List.length_take]; rfl)) ?_; (with_reducible refine (piece_may.calls k a0_0 a0_1 false _ _ l0_3 true _ ?side1 ?side2 A2.out).mono ?_); (case side1 => repeat (first | exact (Kd.V_reads' HO0_3.out).2.2 | (with_reducible refine Kd.C_alloc ?_ _) | (with_reducible refine Kd.C_drewN ?_ _) | (with_reducible refine Kd.C_drew ?_))); (case side2 => exact (Kd.V_reads' HO0_3.out).2.1); rintro e w30 ⟨rfl, hb⟩; refine ⟨_, rfl, ?_⟩; have n0_ := Aside0.mk (Kd.V_below (by (with_reducible repeat (first | apply Kd.V_alloc | apply Kd.V_drewN | apply Kd.V_drew)); first | exact HO0_3.out | exact Kd.V_mono HO0_3.out (fun _ hk => by (repeat' (with_reducible apply And.intro)) <;> first | exact trivial | exact hk | exact hk.1 | exact hk.2 | exact hk.1.1 | exact hk.1.2 | exact hk.2.1 | exact hk.2.2 | exact hk.1.1.1 | exact hk.1.1.2 | exact hk.1.2.1 | exact hk.1.2.2 | exact hk.2.1.1 | exact hk.2.1.2 | exact hk.2.2.1 | exact hk.2.2.2 | exact hk.1.1.1.1 | exact hk.1.1.1.2 | exact hk.1.1.2.1 | exact hk.1.1.2.2 | exact hk.1.2.1.1 | exact hk.1.2.1.2 | exact hk.1.2.2.1 | exact hk.1.2.2.2 | exact hk.2.1.1.1 | exact hk.2.1.1.2 | exact hk.2.1.2.1 | exact hk.2.1.2.2 | exact hk.2.2.1.1 | exact hk.2.2.1.2 | exact hk.2.2.2.1 | exact hk.2.2.2.2 | exact hk.1.1.1.1.1 | exact hk.1.1.1.1.2 | exact hk.1.1.1.2.2 | exact hk.1.1.2.2.2 | exact hk.1.2.2.2.2 | exact hk.2.1.1.1.1 | exact hk.2.2.1.1.1 | exact hk.2.2.2.1.1 | exact hk.2.2.2.2.1 | exact hk.2.2.2.2.2 | exact hk.1.1.1.1.1.1 | exact hk.1.1.1.1.1.2 | exact hk.1.1.1.1.2.2 | exact hk.1.1.1.2.2.2 | exact hk.1.1.2.2.2.2 | exact hk.1.2.2.2.2.2 | exact hk.2.1.1.1.1.1 | exact hk.2.2.1.1.1.1 | exact hk.2.2.2.1.1.1 | exact hk.2.2.2.2.1.1 | exact hk.2.2.2.2.2.1 | exact hk.2.2.2.2.2.2 | exact .inr hk | exact .inr hk.1 | exact .inr hk.2 | exact .inr hk.1.1 | exact .inr hk.1.2 | exact .inr hk.2.1 | exact .inr hk.2.2 | exact .inr hk.1.1.1 | exact .inr hk.1.1.2 | exact .inr hk.1.2.1 | exact .inr hk.1.2.2 | exact .inr hk.2.1.1 | exact .inr hk.2.1.2 | exact .inr hk.2.2.1 | exact .inr hk.2.2.2 | exact .inl hk | exact .inl hk.1)) hb); have n1_ := Aside0.mk (blk_below (g := gb119) (o := .cells #[.int .i64 a0_0, .int .i64 a0_1, .bool false, .slice A0_3 l0_3.length c0_3] 37 (0, 0)) (by (with_reducible repeat (first | refine blk_drewN ?_ _ | refine blk_drew ?_ | refine blk_alloc ?_ _)); exact BK119.out) hb); have n2_ := Aside0.mk (below_step (by repeat (first | (with_reducible first | exact HB.out | apply below_alloc | apply pw_below_drewN | apply below_drew1 | refine below_set ?_ GE119.out) | exact HB.out)) hb); clear HO0_3; clear BK119; clear HB; have HO0_3 := n0_; have BK119 := n1_; have HB := n2_; clear n0_ n1_ n2_; (try clear hb); (try clear hb2); (try clear hk); (try clear hi); have hcz31_0 : w30.cell? ⟨gb119, 0, none⟩ = some (.int .i64 a0_0) := (blk_cell BK119.out 0).trans rfl; have hcz31_1 : w30.cell? ⟨gb119, 1, none⟩ = some (.int .i64 a0_1) := (blk_cell BK119.out 1).trans rfl; have hcz31_2 : w30.cell? ⟨gb119, 2, none⟩ = some (.bool false) := (blk_cell BK119.out 2).trans rfl; have hcz31_3 : w30.cell? ⟨gb119, 3, none⟩ = some (.slice A0_3 l0_3.length c0_3) := (blk_cell BK119.out 3).trans rfl; have hfz31_0 := blk_frozen BK119.out 0; have hfz31_1 := blk_frozen BK119.out 1; have hfz31_2 := blk_frozen BK119.out 2; have hfz31_3 := blk_frozen BK119.out 3))
   have n0_ := Aside0.mk (Kd.V_drew HO0_3.out)
   have n1_ := Aside0.mk (blk_drew BK119.out)
   have n2_ := Aside0.mk (below_drew1 HB.out)
   clear HO0_3
   clear BK119
   clear HB
   have HO0_3 := n0_
   have BK119 := n1_
   have HB := n2_
   clear n0_ n1_ n2_
   refine start_ (n := 14) (S := fun w' => True) (ds := []) #[false, false, false, false, false, false, false, false, false, false, false, false, false, false] (by kernel_rfl) rfl rfl trivial (fun hHeld => ?_); refine with_tabW piece_Write.tab6 piece_Write.bits6 (fun HT_ HW_ => ?_)
   generalize w30.drew = w32 at HO0_3 BK119 HB hHeld ⊢
   refine pure_ (i := 0) (N := some 11) (v := ?_) (a' := ?_) #[true, false, false, false, false, false, false, false, false, false, false, false, false, false] rfl rfl (any_of HT_.out (by kernel_rfl)) (fun _ _ _ h => h) (Or.inl ⟨by rfl, ?_⟩) ?_ ?_
   rotate_left
   ·intro w'
    go_simp
    with_reducible rfl
   rotate_left
   ·simp only [Act.put, List.setIfInBounds_toArray, List.set_cons_zero, List.set_cons_succ, i64_w, i32_w]
    rfl
   refine pure_ (i := 3) (N := some 14) (v := ?_) (a' := ?_) #[true, false, false, true, false, false, false, false, false, false, false, false, false, false] rfl rfl (any_of HT_.out (by kernel_rfl)) (fun _ _ _ h => h) (Or.inl ⟨by rfl, ?_⟩) ?_ ?_
   rotate_left
   ·intro w'
    go_simp
    with_reducible rfl
   rotate_left
   ·simp only [Act.put, List.setIfInBounds_toArray, List.set_cons_zero, List.set_cons_succ, i64_w, i32_w]
    rfl
   refine pure_ (i := 6) (N := some 17) (v := ?_) (a' := ?_) #[true, false, false, true, false, false, true, false, false, false, false, false, false, false] rfl rfl (any_of HT_.out (by kernel_rfl)) (fun _ _ _ h => h) (Or.inl ⟨by rfl, ?_⟩) ?_ ?_
   rotate_left
   ·intro w'
    go_simp
    with_reducible rfl
   rotate_left
   ·simp only [Act.put, List.setIfInBounds_toArray, List.set_cons_zero, List.set_cons_succ, i64_w, i32_w]
    rfl
   refine pure_ (i := 8) (N := some 19) (v := ?_) (a' := ?_) #[true, false, false, true, false, false, true, false, true, false, false, false, false, false] rfl rfl (any_of HT_.out (by kernel_rfl)) (fun _ _ _ h => h) (Or.inl ⟨by rfl, ?_⟩) ?_ ?_
   rotate_left
   ·intro w'
    go_simp
    with_reducible rfl
   rotate_left
   ·simp only [Act.put, List.setIfInBounds_toArray, List.set_cons_zero, List.set_cons_succ, i64_w, i32_w]
    rfl
   refine inv_at [1, 2, 4, 5, 7, 9, 10, 11, 12, 13] (fun a0_ b a w' => ∃ (v137 : Value) (v140 : Value) (v143 : Value) (v146 : Value) (v149 : Value) (m12_ : Value), a = putSel a0_ b [(1, 12, .int .i64 a0_0), (2, 13, v137), (4, 15, .int .i64 a0_1), (5, 16, v140), (7, 18, v143), (9, 20, .slice A0_3 l0_3.length c0_3), (10, 21, v146), (11, 22, v149), (12, 2, m12_), (13, 3, errW none)] ∧ (Kd.V (Kd.int .u8) 5 w' w.heap.size (fun k_ => (P0_3_ k_ ∨ w.heap.size ≤ k_) ∧ k_ ≠ gb119) (.slice A0_3 l0_3.length c0_3) l0_3) ∧ (w'.heap[gb119]? = some (.cells #[.int .i64 a0_0, .int .i64 a0_1, .bool false, .slice A0_3 l0_3.length c0_3] 37 (0, 0))) ∧ (Below w.heap.size w w') ∧ (b 2 = true → b 10 = false → Kd.R (Kd.int .u8) 5 w' w.heap.size (fun k_ => (w.heap.size ≤ k_)) v137 t136) ∧ (b 5 = true → b 10 = false → Kd.R (Kd.int .u8) 5 w' w.heap.size (fun k_ => (w.heap.size ≤ k_)) v140 t139) ∧ (b 7 = true → b 10 = false → Kd.R (Kd.int .u8) 5 w' w.heap.size (fun k_ => (w.heap.size ≤ k_)) v143 y142) ∧ (b 10 = true → Kd.N (Kd.slice 5 (Kd.int .u8)) 32 w' w.heap.size (fun k_ => (P0_3_ k_ ∨ w.heap.size ≤ k_) ∧ k_ ≠ gb119) v146 y145) ∧ (b 11 = true → Kd.R (Kd.int .u8) 5 w' w.heap.size (fun k_ => (w.heap.size ≤ k_)) v149 t148) ∧ (b 12 = true → (m12_ : Value) = v149)) HT_.out HW_.out (by kernel_rfl) (by kernel_rfl) ?_ ?_ ?_
   ·exact ⟨.bool false, .bool false, .bool false, .bool false, .bool false, .bool false, by simp only [putSel, Bool.false_eq_true, if_false], HO0_3.out, BK119.out, HB.out, fun h_ => absurd h_ (by decide), fun h_ => absurd h_ (by decide), fun h_ => absurd h_ (by decide), fun h_ => absurd h_ (by decide), fun h_ => absurd h_ (by decide), fun h_ => absurd h_ (by decide)⟩
   ·skip
    clear BK119 HB HO0_3
    refine steps_cons ?_ ?_
    ·rintro b a w' ⟨v137, v140, v143, v146, v149, m12_, ha, Q_HO0_3, Q_BK119, Q_HB, Q_HO138, Q_HO141, Q_HO144, Q_HO147, Q_HO150, Q_X12_⟩ hb_ hon hoff
     refine ⟨_, rfl, fun K hK => ?_⟩
     have e11 : a.tmps[11]? = some (.pointer (some ⟨gb119, 0, none⟩)) := by rw [ha]; exact (putSel_off rfl).trans rfl
     replace ha := Aside0.mk ha
     have HO0_3 := Aside0.mk Q_HO0_3
     have BK119 := Aside0.mk Q_BK119
     have HB := Aside0.mk Q_HB
     have hc0_ : w'.cell? ⟨gb119, 0, none⟩ = some (.int .i64 a0_0) := (blk_cell BK119.out 0).trans rfl
     have hc1_ : w'.cell? ⟨gb119, 1, none⟩ = some (.int .i64 a0_1) := (blk_cell BK119.out 1).trans rfl
     have hc2_ : w'.cell? ⟨gb119, 2, none⟩ = some (.bool false) := (blk_cell BK119.out 2).trans rfl
     have hc3_ : w'.cell? ⟨gb119, 3, none⟩ = some (.slice A0_3 l0_3.length c0_3) := (blk_cell BK119.out 3).trans rfl
     refine value_ (w1 := w') (v := .int .i64 a0_0) (by rfl) rfl ?_ ?_
     ·go_simp
      (try simp only [i64_w])
      try rfl
     refine hK.out _ _ ⟨v137, v140, v143, v146, v149, m12_, (by rw [ha.out]; exact putSel_upk 0 hb_ rfl rfl rfl), Q_HO0_3, Q_BK119, Q_HB, fun h0_ _ => absurd ((hoff 2 (by kernel_rfl)).symm.trans h0_) (by decide), fun h0_ _ => absurd ((hoff 5 (by kernel_rfl)).symm.trans h0_) (by decide), Q_HO144, fun h0_ => absurd ((hoff 10 (by kernel_rfl)).symm.trans h0_) (by decide), fun h0_ => absurd ((hoff 11 (by kernel_rfl)).symm.trans h0_) (by decide), fun h0_ => absurd ((hoff 12 (by kernel_rfl)).symm.trans h0_) (by decide)⟩
    refine steps_cons ?_ ?_
    ·rintro b a w' ⟨v137, v140, v143, v146, v149, m12_, ha, Q_HO0_3, Q_BK119, Q_HB, Q_HO138, Q_HO141, Q_HO144, Q_HO147, Q_HO150, Q_X12_⟩ hb_ hon hoff
     refine ⟨_, rfl, fun K hK => ?_⟩
     have e12 : a.tmps[12]? = some (.int .i64 a0_0) := by rw [ha]; exact putSel_on (e := (1, 12, .int .i64 a0_0)) 0 rfl rfl (hon 1 (by kernel_rfl)) rfl
     replace ha := Aside0.mk ha
     have HO0_3 := Aside0.mk Q_HO0_3
     have BK119 := Aside0.mk Q_BK119
     have HB := Aside0.mk Q_HB
     refine goes_ Tryd.func41 (by kernel_rfl) rfl #[.int .i64 a0_0] (by rfl) rfl rfl (by first | (simp only [List.map_toArray, List.map_cons, List.map_nil, Act.eval, Array.getD_eq_getD_getElem?, Option.getD_some, e12]; done) | (simp only [List.map_toArray, List.map_cons, List.map_nil, Act.eval, Array.getD_eq_getD_getElem?, Option.getD_some, e12]; rfl)) ?_
     with_reducible refine (piece_number.calls a0_0 t136 _ A25.out).mono ?_
     rintro e w33 ⟨v137, rfl, ho0, hb⟩
     refine ⟨_, rfl, ?_⟩
     have n0_ := Aside0.mk (Kd.V_elder' (by (with_reducible repeat (first | apply Kd.V_alloc | apply Kd.V_drewN | apply Kd.V_drew)); first | exact HO0_3.out | exact Kd.V_mono HO0_3.out (fun _ hk => by (repeat' (with_reducible apply And.intro)) <;> first | exact trivial | exact hk | exact hk.1 | exact hk.2 | exact hk.1.1 | exact hk.1.2 | exact hk.2.1 | exact hk.2.2 | exact hk.1.1.1 | exact hk.1.1.2 | exact hk.1.2.1 | exact hk.1.2.2 | exact hk.2.1.1 | exact hk.2.1.2 | exact hk.2.2.1 | exact hk.2.2.2 | exact hk.1.1.1.1 | exact hk.1.1.1.2 | exact hk.1.1.2.1 | exact hk.1.1.2.2 | exact hk.1.2.1.1 | exact hk.1.2.1.2 | exact hk.1.2.2.1 | exact hk.1.2.2.2 | exact hk.2.1.1.1 | exact hk.2.1.1.2 | exact hk.2.1.2.1 | exact hk.2.1.2.2 | exact hk.2.2.1.1 | exact hk.2.2.1.2 | exact hk.2.2.2.1 | exact hk.2.2.2.2 | exact hk.1.1.1.1.1 | exact hk.1.1.1.1.2 | exact hk.1.1.1.2.2 | exact hk.1.1.2.2.2 | exact hk.1.2.2.2.2 | exact hk.2.1.1.1.1 | exact hk.2.2.1.1.1 | exact hk.2.2.2.1.1 | exact hk.2.2.2.2.1 | exact hk.2.2.2.2.2 | exact hk.1.1.1.1.1.1 | exact hk.1.1.1.1.1.2 | exact hk.1.1.1.1.2.2 | exact hk.1.1.1.2.2.2 | exact hk.1.1.2.2.2.2 | exact hk.1.2.2.2.2.2 | exact hk.2.1.1.1.1.1 | exact hk.2.2.1.1.1.1 | exact hk.2.2.2.1.1.1 | exact hk.2.2.2.2.1.1 | exact hk.2.2.2.2.2.1 | exact hk.2.2.2.2.2.2 | exact .inr hk | exact .inr hk.1 | exact .inr hk.2 | exact .inr hk.1.1 | exact .inr hk.1.2 | exact .inr hk.2.1 | exact .inr hk.2.2 | exact .inr hk.1.1.1 | exact .inr hk.1.1.2 | exact .inr hk.1.2.1 | exact .inr hk.1.2.2 | exact .inr hk.2.1.1 | exact .inr hk.2.1.2 | exact .inr hk.2.2.1 | exact .inr hk.2.2.2 | exact .inl hk | exact .inl hk.1)) (Kd.R_base ho0) hb)
     have n1_ := Aside0.mk (Kd.R_lower (Kd.R_newM (M := fun k_ => (w.heap.size ≤ k_)) ho0 (below_size (by repeat (first | (with_reducible first | exact HB.out | apply below_alloc | apply pw_below_drewN | apply below_drew1 | refine below_set ?_ GE119.out) | exact HB.out))) (fun k_ h_ => h_)) (below_size (by repeat (first | (with_reducible first | exact HB.out | apply below_alloc | apply pw_below_drewN | apply below_drew1 | refine below_set ?_ GE119.out) | exact HB.out))))
     have n2_ := Aside0.mk (blk_below (g := gb119) (o := .cells #[.int .i64 a0_0, .int .i64 a0_1, .bool false, .slice A0_3 l0_3.length c0_3] 37 (0, 0)) (by (with_reducible repeat (first | refine blk_drewN ?_ _ | refine blk_drew ?_ | refine blk_alloc ?_ _)); exact BK119.out) hb)
     have n3_ := Aside0.mk (below_step (by repeat (first | (with_reducible first | exact HB.out | apply below_alloc | apply pw_below_drewN | apply below_drew1 | refine below_set ?_ GE119.out) | exact HB.out)) hb)
     have z_HO144 := fun (h0_ : b 7 = true) (h1_ : b 10 = false) => (show Kd.R (Kd.int .u8) 5 w33 w.heap.size (fun k_ => (w.heap.size ≤ k_)) v143 y142 from by first | exact (Kd.R_elder' (by (with_reducible repeat (first | apply Kd.R_alloc | apply Kd.R_drewN | apply Kd.R_drew)); exact (Q_HO144 h0_ h1_)) (Kd.R_base ho0) hb) | exact Kd.R_mono (Kd.R_elder' (by (with_reducible repeat (first | apply Kd.R_alloc | apply Kd.R_drewN | apply Kd.R_drew)); exact (Q_HO144 h0_ h1_)) (Kd.R_base ho0) hb) (fun _ h_ => by first | trivial | exact h_ | exact h_.1))
     clear HO0_3
     clear BK119
     clear HB
     have HO0_3 := n0_
     have HO138 := n1_
     have BK119 := n2_
     have HB := n3_
     clear n0_ n1_ n2_ n3_
     (try clear hb)
     (try clear hb2)
     (try clear hk)
     (try clear hi)
     (try clear ho0)
     refine hK.out _ _ ⟨v137, v140, v143, v146, v149, m12_, (by rw [ha.out]; exact putSel_upk 1 hb_ rfl rfl rfl), (by (with_reducible repeat (first | apply Kd.V_alloc | apply Kd.V_drewN | apply Kd.V_drew)); exact Kd.V_mono HO0_3.out (fun _ hk => by (repeat' (with_reducible apply And.intro)) <;> first | exact trivial | exact hk | exact hk.1 | exact hk.2 | exact hk.1.1 | exact hk.1.2 | exact hk.2.1 | exact hk.2.2 | exact hk.1.1.1 | exact hk.1.1.2 | exact hk.1.2.1 | exact hk.1.2.2 | exact hk.2.1.1 | exact hk.2.1.2 | exact hk.2.2.1 | exact hk.2.2.2 | exact hk.1.1.1.1 | exact hk.1.1.1.2 | exact hk.1.1.2.1 | exact hk.1.1.2.2 | exact hk.1.2.1.1 | exact hk.1.2.1.2 | exact hk.1.2.2.1 | exact hk.1.2.2.2 | exact hk.2.1.1.1 | exact hk.2.1.1.2 | exact hk.2.1.2.1 | exact hk.2.1.2.2 | exact hk.2.2.1.1 | exact hk.2.2.1.2 | exact hk.2.2.2.1 | exact hk.2.2.2.2 | exact hk.1.1.1.1.1 | exact hk.1.1.1.1.2 | exact hk.1.1.1.2.2 | exact hk.1.1.2.2.2 | exact hk.1.2.2.2.2 | exact hk.2.1.1.1.1 | exact hk.2.2.1.1.1 | exact hk.2.2.2.1.1 | exact hk.2.2.2.2.1 | exact hk.2.2.2.2.2 | exact hk.1.1.1.1.1.1 | exact hk.1.1.1.1.1.2 | exact hk.1.1.1.1.2.2 | exact hk.1.1.1.2.2.2 | exact hk.1.1.2.2.2.2 | exact hk.1.2.2.2.2.2 | exact hk.2.1.1.1.1.1 | exact hk.2.2.1.1.1.1 | exact hk.2.2.2.1.1.1 | exact hk.2.2.2.2.1.1 | exact hk.2.2.2.2.2.1 | exact hk.2.2.2.2.2.2 | exact .inr hk | exact .inr hk.1 | exact .inr hk.2 | exact .inr hk.1.1 | exact .inr hk.1.2 | exact .inr hk.2.1 | exact .inr hk.2.2 | exact .inr hk.1.1.1 | exact .inr hk.1.1.2 | exact .inr hk.1.2.1 | exact .inr hk.1.2.2 | exact .inr hk.2.1.1 | exact .inr hk.2.1.2 | exact .inr hk.2.2.1 | exact .inr hk.2.2.2 | exact .inl hk | exact .inl hk.1)), (by (with_reducible repeat (first | refine blk_drewN ?_ _ | refine blk_drew ?_ | refine blk_alloc ?_ _)); exact BK119.out), (by repeat (first | (with_reducible first | exact HB.out | apply below_alloc | apply pw_below_drewN | apply below_drew1 | refine below_set ?_ GE119.out) | exact HB.out)), fun _ _ => (by (with_reducible repeat (first | apply Kd.R_alloc | apply Kd.R_drewN | apply Kd.R_drew)); exact Kd.R_mono HO138.out (fun _ hk => by (repeat' (with_reducible apply And.intro)) <;> first | exact trivial | exact hk | exact hk.1 | exact hk.2 | exact hk.1.1 | exact hk.1.2 | exact hk.2.1 | exact hk.2.2 | exact hk.1.1.1 | exact hk.1.1.2 | exact hk.1.2.1 | exact hk.1.2.2 | exact hk.2.1.1 | exact hk.2.1.2 | exact hk.2.2.1 | exact hk.2.2.2 | exact hk.1.1.1.1 | exact hk.1.1.1.2 | exact hk.1.1.2.1 | exact hk.1.1.2.2 | exact hk.1.2.1.1 | exact hk.1.2.1.2 | exact hk.1.2.2.1 | exact hk.1.2.2.2 | exact hk.2.1.1.1 | exact hk.2.1.1.2 | exact hk.2.1.2.1 | exact hk.2.1.2.2 | exact hk.2.2.1.1 | exact hk.2.2.1.2 | exact hk.2.2.2.1 | exact hk.2.2.2.2 | exact hk.1.1.1.1.1 | exact hk.1.1.1.1.2 | exact hk.1.1.1.2.2 | exact hk.1.1.2.2.2 | exact hk.1.2.2.2.2 | exact hk.2.1.1.1.1 | exact hk.2.2.1.1.1 | exact hk.2.2.2.1.1 | exact hk.2.2.2.2.1 | exact hk.2.2.2.2.2 | exact hk.1.1.1.1.1.1 | exact hk.1.1.1.1.1.2 | exact hk.1.1.1.1.2.2 | exact hk.1.1.1.2.2.2 | exact hk.1.1.2.2.2.2 | exact hk.1.2.2.2.2.2 | exact hk.2.1.1.1.1.1 | exact hk.2.2.1.1.1.1 | exact hk.2.2.2.1.1.1 | exact hk.2.2.2.2.1.1 | exact hk.2.2.2.2.2.1 | exact hk.2.2.2.2.2.2 | exact .inr hk | exact .inr hk.1 | exact .inr hk.2 | exact .inr hk.1.1 | exact .inr hk.1.2 | exact .inr hk.2.1 | exact .inr hk.2.2 | exact .inr hk.1.1.1 | exact .inr hk.1.1.2 | exact .inr hk.1.2.1 | exact .inr hk.1.2.2 | exact .inr hk.2.1.1 | exact .inr hk.2.1.2 | exact .inr hk.2.2.1 | exact .inr hk.2.2.2 | exact .inl hk | exact .inl hk.1)), fun h0_ _ => absurd ((hoff 5 (by kernel_rfl)).symm.trans h0_) (by decide), z_HO144, fun h0_ => absurd ((hoff 10 (by kernel_rfl)).symm.trans h0_) (by decide), fun h0_ => absurd ((hoff 11 (by kernel_rfl)).symm.trans h0_) (by decide), fun h0_ => absurd ((hoff 12 (by kernel_rfl)).symm.trans h0_) (by decide)⟩
    refine steps_cons ?_ ?_
    ·rintro b a w' ⟨v137, v140, v143, v146, v149, m12_, ha, Q_HO0_3, Q_BK119, Q_HB, Q_HO138, Q_HO141, Q_HO144, Q_HO147, Q_HO150, Q_X12_⟩ hb_ hon hoff
     refine ⟨_, rfl, fun K hK => ?_⟩
     have e14 : a.tmps[14]? = some (.pointer (some ⟨gb119, 1, none⟩)) := by rw [ha]; exact (putSel_off rfl).trans rfl
     replace ha := Aside0.mk ha
     have HO0_3 := Aside0.mk Q_HO0_3
     have BK119 := Aside0.mk Q_BK119
     have HB := Aside0.mk Q_HB
     have hc0_ : w'.cell? ⟨gb119, 0, none⟩ = some (.int .i64 a0_0) := (blk_cell BK119.out 0).trans rfl
     have hc1_ : w'.cell? ⟨gb119, 1, none⟩ = some (.int .i64 a0_1) := (blk_cell BK119.out 1).trans rfl
     have hc2_ : w'.cell? ⟨gb119, 2, none⟩ = some (.bool false) := (blk_cell BK119.out 2).trans rfl
     have hc3_ : w'.cell? ⟨gb119, 3, none⟩ = some (.slice A0_3 l0_3.length c0_3) := (blk_cell BK119.out 3).trans rfl
     refine value_ (w1 := w') (v := .int .i64 a0_1) (by rfl) rfl ?_ ?_
     ·go_simp
      (try simp only [i64_w])
      try rfl
     refine hK.out _ _ ⟨v137, v140, v143, v146, v149, m12_, (by rw [ha.out]; exact putSel_upk 2 hb_ rfl rfl rfl), Q_HO0_3, Q_BK119, Q_HB, Q_HO138, fun h0_ _ => absurd ((hoff 5 (by kernel_rfl)).symm.trans h0_) (by decide), Q_HO144, fun h0_ => absurd ((hoff 10 (by kernel_rfl)).symm.trans h0_) (by decide), fun h0_ => absurd ((hoff 11 (by kernel_rfl)).symm.trans h0_) (by decide), fun h0_ => absurd ((hoff 12 (by kernel_rfl)).symm.trans h0_) (by decide)⟩
    refine steps_cons ?_ ?_
    ·rintro b a w' ⟨v137, v140, v143, v146, v149, m12_, ha, Q_HO0_3, Q_BK119, Q_HB, Q_HO138, Q_HO141, Q_HO144, Q_HO147, Q_HO150, Q_X12_⟩ hb_ hon hoff
     refine ⟨_, rfl, fun K hK => ?_⟩
     have e15 : a.tmps[15]? = some (.int .i64 a0_1) := by rw [ha]; exact putSel_on (e := (4, 15, .int .i64 a0_1)) 2 rfl rfl (hon 4 (by kernel_rfl)) rfl
     replace ha := Aside0.mk ha
     have HO0_3 := Aside0.mk Q_HO0_3
     have BK119 := Aside0.mk Q_BK119
     have HB := Aside0.mk Q_HB
     have HO138 := Aside0.mk (Q_HO138 (hon 2 (by kernel_rfl)) (hoff 10 (by kernel_rfl)))
     refine goes_ Tryd.func41 (by kernel_rfl) rfl #[.int .i64 a0_1] (by rfl) rfl rfl (by first | (simp only [List.map_toArray, List.map_cons, List.map_nil, Act.eval, Array.getD_eq_getD_getElem?, Option.getD_some, e15]; done) | (simp only [List.map_toArray, List.map_cons, List.map_nil, Act.eval, Array.getD_eq_getD_getElem?, Option.getD_some, e15]; rfl)) ?_
     with_reducible refine (piece_number.calls a0_1 t139 _ A26.out).mono ?_
     rintro e w35 ⟨v140, rfl, ho0, hb⟩
     refine ⟨_, rfl, ?_⟩
     have n0_ := Aside0.mk (Kd.V_elder' (by (with_reducible repeat (first | apply Kd.V_alloc | apply Kd.V_drewN | apply Kd.V_drew)); first | exact HO0_3.out | exact Kd.V_mono HO0_3.out (fun _ hk => by (repeat' (with_reducible apply And.intro)) <;> first | exact trivial | exact hk | exact hk.1 | exact hk.2 | exact hk.1.1 | exact hk.1.2 | exact hk.2.1 | exact hk.2.2 | exact hk.1.1.1 | exact hk.1.1.2 | exact hk.1.2.1 | exact hk.1.2.2 | exact hk.2.1.1 | exact hk.2.1.2 | exact hk.2.2.1 | exact hk.2.2.2 | exact hk.1.1.1.1 | exact hk.1.1.1.2 | exact hk.1.1.2.1 | exact hk.1.1.2.2 | exact hk.1.2.1.1 | exact hk.1.2.1.2 | exact hk.1.2.2.1 | exact hk.1.2.2.2 | exact hk.2.1.1.1 | exact hk.2.1.1.2 | exact hk.2.1.2.1 | exact hk.2.1.2.2 | exact hk.2.2.1.1 | exact hk.2.2.1.2 | exact hk.2.2.2.1 | exact hk.2.2.2.2 | exact hk.1.1.1.1.1 | exact hk.1.1.1.1.2 | exact hk.1.1.1.2.2 | exact hk.1.1.2.2.2 | exact hk.1.2.2.2.2 | exact hk.2.1.1.1.1 | exact hk.2.2.1.1.1 | exact hk.2.2.2.1.1 | exact hk.2.2.2.2.1 | exact hk.2.2.2.2.2 | exact hk.1.1.1.1.1.1 | exact hk.1.1.1.1.1.2 | exact hk.1.1.1.1.2.2 | exact hk.1.1.1.2.2.2 | exact hk.1.1.2.2.2.2 | exact hk.1.2.2.2.2.2 | exact hk.2.1.1.1.1.1 | exact hk.2.2.1.1.1.1 | exact hk.2.2.2.1.1.1 | exact hk.2.2.2.2.1.1 | exact hk.2.2.2.2.2.1 | exact hk.2.2.2.2.2.2 | exact .inr hk | exact .inr hk.1 | exact .inr hk.2 | exact .inr hk.1.1 | exact .inr hk.1.2 | exact .inr hk.2.1 | exact .inr hk.2.2 | exact .inr hk.1.1.1 | exact .inr hk.1.1.2 | exact .inr hk.1.2.1 | exact .inr hk.1.2.2 | exact .inr hk.2.1.1 | exact .inr hk.2.1.2 | exact .inr hk.2.2.1 | exact .inr hk.2.2.2 | exact .inl hk | exact .inl hk.1)) (Kd.R_base ho0) hb)
     have n1_ := Aside0.mk (Kd.R_elder' (by (with_reducible repeat (first | apply Kd.R_alloc | apply Kd.R_drewN | apply Kd.R_drew)); first | exact HO138.out | exact Kd.R_mono HO138.out (fun _ hk => by (repeat' (with_reducible apply And.intro)) <;> first | exact trivial | exact hk | exact hk.1 | exact hk.2 | exact hk.1.1 | exact hk.1.2 | exact hk.2.1 | exact hk.2.2 | exact hk.1.1.1 | exact hk.1.1.2 | exact hk.1.2.1 | exact hk.1.2.2 | exact hk.2.1.1 | exact hk.2.1.2 | exact hk.2.2.1 | exact hk.2.2.2 | exact hk.1.1.1.1 | exact hk.1.1.1.2 | exact hk.1.1.2.1 | exact hk.1.1.2.2 | exact hk.1.2.1.1 | exact hk.1.2.1.2 | exact hk.1.2.2.1 | exact hk.1.2.2.2 | exact hk.2.1.1.1 | exact hk.2.1.1.2 | exact hk.2.1.2.1 | exact hk.2.1.2.2 | exact hk.2.2.1.1 | exact hk.2.2.1.2 | exact hk.2.2.2.1 | exact hk.2.2.2.2 | exact hk.1.1.1.1.1 | exact hk.1.1.1.1.2 | exact hk.1.1.1.2.2 | exact hk.1.1.2.2.2 | exact hk.1.2.2.2.2 | exact hk.2.1.1.1.1 | exact hk.2.2.1.1.1 | exact hk.2.2.2.1.1 | exact hk.2.2.2.2.1 | exact hk.2.2.2.2.2 | exact hk.1.1.1.1.1.1 | exact hk.1.1.1.1.1.2 | exact hk.1.1.1.1.2.2 | exact hk.1.1.1.2.2.2 | exact hk.1.1.2.2.2.2 | exact hk.1.2.2.2.2.2 | exact hk.2.1.1.1.1.1 | exact hk.2.2.1.1.1.1 | exact hk.2.2.2.1.1.1 | exact hk.2.2.2.2.1.1 | exact hk.2.2.2.2.2.1 | exact hk.2.2.2.2.2.2 | exact .inr hk | exact .inr hk.1 | exact .inr hk.2 | exact .inr hk.1.1 | exact .inr hk.1.2 | exact .inr hk.2.1 | exact .inr hk.2.2 | exact .inr hk.1.1.1 | exact .inr hk.1.1.2 | exact .inr hk.1.2.1 | exact .inr hk.1.2.2 | exact .inr hk.2.1.1 | exact .inr hk.2.1.2 | exact .inr hk.2.2.1 | exact .inr hk.2.2.2 | exact .inl hk | exact .inl hk.1)) (Kd.R_base ho0) hb)
     have n2_ := Aside0.mk (Kd.R_lower (Kd.R_new' (Kd.R_newM (M := fun k_ => (w.heap.size ≤ k_)) ho0 (below_size (by repeat (first | (with_reducible first | exact HB.out | apply below_alloc | apply pw_below_drewN | apply below_drew1 | refine below_set ?_ GE119.out) | exact HB.out))) (fun k_ h_ => h_)) (Kd.R_lt (by (with_reducible repeat (first | apply Kd.R_alloc | apply Kd.R_drewN | apply Kd.R_drew)); first | exact HO138.out | exact Kd.R_mono HO138.out (fun _ hk => by (repeat' (with_reducible apply And.intro)) <;> first | exact trivial | exact hk | exact hk.1 | exact hk.2 | exact hk.1.1 | exact hk.1.2 | exact hk.2.1 | exact hk.2.2 | exact hk.1.1.1 | exact hk.1.1.2 | exact hk.1.2.1 | exact hk.1.2.2 | exact hk.2.1.1 | exact hk.2.1.2 | exact hk.2.2.1 | exact hk.2.2.2 | exact hk.1.1.1.1 | exact hk.1.1.1.2 | exact hk.1.1.2.1 | exact hk.1.1.2.2 | exact hk.1.2.1.1 | exact hk.1.2.1.2 | exact hk.1.2.2.1 | exact hk.1.2.2.2 | exact hk.2.1.1.1 | exact hk.2.1.1.2 | exact hk.2.1.2.1 | exact hk.2.1.2.2 | exact hk.2.2.1.1 | exact hk.2.2.1.2 | exact hk.2.2.2.1 | exact hk.2.2.2.2 | exact hk.1.1.1.1.1 | exact hk.1.1.1.1.2 | exact hk.1.1.1.2.2 | exact hk.1.1.2.2.2 | exact hk.1.2.2.2.2 | exact hk.2.1.1.1.1 | exact hk.2.2.1.1.1 | exact hk.2.2.2.1.1 | exact hk.2.2.2.2.1 | exact hk.2.2.2.2.2 | exact hk.1.1.1.1.1.1 | exact hk.1.1.1.1.1.2 | exact hk.1.1.1.1.2.2 | exact hk.1.1.1.2.2.2 | exact hk.1.1.2.2.2.2 | exact hk.1.2.2.2.2.2 | exact hk.2.1.1.1.1.1 | exact hk.2.2.1.1.1.1 | exact hk.2.2.2.1.1.1 | exact hk.2.2.2.2.1.1 | exact hk.2.2.2.2.2.1 | exact hk.2.2.2.2.2.2 | exact .inr hk | exact .inr hk.1 | exact .inr hk.2 | exact .inr hk.1.1 | exact .inr hk.1.2 | exact .inr hk.2.1 | exact .inr hk.2.2 | exact .inr hk.1.1.1 | exact .inr hk.1.1.2 | exact .inr hk.1.2.1 | exact .inr hk.1.2.2 | exact .inr hk.2.1.1 | exact .inr hk.2.1.2 | exact .inr hk.2.2.1 | exact .inr hk.2.2.2 | exact .inl hk | exact .inl hk.1)))) (below_size (by repeat (first | (with_reducible first | exact HB.out | apply below_alloc | apply pw_below_drewN | apply below_drew1 | refine below_set ?_ GE119.out) | exact HB.out))))
     have n3_ := Aside0.mk (blk_below (g := gb119) (o := .cells #[.int .i64 a0_0, .int .i64 a0_1, .bool false, .slice A0_3 l0_3.length c0_3] 37 (0, 0)) (by (with_reducible repeat (first | refine blk_drewN ?_ _ | refine blk_drew ?_ | refine blk_alloc ?_ _)); exact BK119.out) hb)
     have n4_ := Aside0.mk (below_step (by repeat (first | (with_reducible first | exact HB.out | apply below_alloc | apply pw_below_drewN | apply below_drew1 | refine below_set ?_ GE119.out) | exact HB.out)) hb)
     have z_HO144 := fun (h0_ : b 7 = true) (h1_ : b 10 = false) => (show Kd.R (Kd.int .u8) 5 w35 w.heap.size (fun k_ => (w.heap.size ≤ k_)) v143 y142 from by first | exact (Kd.R_elder' (by (with_reducible repeat (first | apply Kd.R_alloc | apply Kd.R_drewN | apply Kd.R_drew)); exact (Q_HO144 h0_ h1_)) (Kd.R_base ho0) hb) | exact Kd.R_mono (Kd.R_elder' (by (with_reducible repeat (first | apply Kd.R_alloc | apply Kd.R_drewN | apply Kd.R_drew)); exact (Q_HO144 h0_ h1_)) (Kd.R_base ho0) hb) (fun _ h_ => by first | trivial | exact h_ | exact h_.1))
     clear HO0_3
     clear HO138
     clear BK119
     clear HB
     have HO0_3 := n0_
     have HO138 := n1_
     have HO141 := n2_
     have BK119 := n3_
     have HB := n4_
     clear n0_ n1_ n2_ n3_ n4_
     (try clear hb)
     (try clear hb2)
     (try clear hk)
     (try clear hi)
     (try clear ho0)
     refine hK.out _ _ ⟨v137, v140, v143, v146, v149, m12_, (by rw [ha.out]; exact putSel_upk 3 hb_ rfl rfl rfl), (by (with_reducible repeat (first | apply Kd.V_alloc | apply Kd.V_drewN | apply Kd.V_drew)); exact Kd.V_mono HO0_3.out (fun _ hk => by (repeat' (with_reducible apply And.intro)) <;> first | exact trivial | exact hk | exact hk.1 | exact hk.2 | exact hk.1.1 | exact hk.1.2 | exact hk.2.1 | exact hk.2.2 | exact hk.1.1.1 | exact hk.1.1.2 | exact hk.1.2.1 | exact hk.1.2.2 | exact hk.2.1.1 | exact hk.2.1.2 | exact hk.2.2.1 | exact hk.2.2.2 | exact hk.1.1.1.1 | exact hk.1.1.1.2 | exact hk.1.1.2.1 | exact hk.1.1.2.2 | exact hk.1.2.1.1 | exact hk.1.2.1.2 | exact hk.1.2.2.1 | exact hk.1.2.2.2 | exact hk.2.1.1.1 | exact hk.2.1.1.2 | exact hk.2.1.2.1 | exact hk.2.1.2.2 | exact hk.2.2.1.1 | exact hk.2.2.1.2 | exact hk.2.2.2.1 | exact hk.2.2.2.2 | exact hk.1.1.1.1.1 | exact hk.1.1.1.1.2 | exact hk.1.1.1.2.2 | exact hk.1.1.2.2.2 | exact hk.1.2.2.2.2 | exact hk.2.1.1.1.1 | exact hk.2.2.1.1.1 | exact hk.2.2.2.1.1 | exact hk.2.2.2.2.1 | exact hk.2.2.2.2.2 | exact hk.1.1.1.1.1.1 | exact hk.1.1.1.1.1.2 | exact hk.1.1.1.1.2.2 | exact hk.1.1.1.2.2.2 | exact hk.1.1.2.2.2.2 | exact hk.1.2.2.2.2.2 | exact hk.2.1.1.1.1.1 | exact hk.2.2.1.1.1.1 | exact hk.2.2.2.1.1.1 | exact hk.2.2.2.2.1.1 | exact hk.2.2.2.2.2.1 | exact hk.2.2.2.2.2.2 | exact .inr hk | exact .inr hk.1 | exact .inr hk.2 | exact .inr hk.1.1 | exact .inr hk.1.2 | exact .inr hk.2.1 | exact .inr hk.2.2 | exact .inr hk.1.1.1 | exact .inr hk.1.1.2 | exact .inr hk.1.2.1 | exact .inr hk.1.2.2 | exact .inr hk.2.1.1 | exact .inr hk.2.1.2 | exact .inr hk.2.2.1 | exact .inr hk.2.2.2 | exact .inl hk | exact .inl hk.1)), (by (with_reducible repeat (first | refine blk_drewN ?_ _ | refine blk_drew ?_ | refine blk_alloc ?_ _)); exact BK119.out), (by repeat (first | (with_reducible first | exact HB.out | apply below_alloc | apply pw_below_drewN | apply below_drew1 | refine below_set ?_ GE119.out) | exact HB.out)), fun _ _ => (by (with_reducible repeat (first | apply Kd.R_alloc | apply Kd.R_drewN | apply Kd.R_drew)); first | exact HO138.out | exact Kd.R_mono HO138.out (fun _ hk => by (repeat' (with_reducible apply And.intro)) <;> first | exact trivial | exact hk | exact hk.1 | exact hk.2 | exact hk.1.1 | exact hk.1.2 | exact hk.2.1 | exact hk.2.2 | exact hk.1.1.1 | exact hk.1.1.2 | exact hk.1.2.1 | exact hk.1.2.2 | exact hk.2.1.1 | exact hk.2.1.2 | exact hk.2.2.1 | exact hk.2.2.2 | exact hk.1.1.1.1 | exact hk.1.1.1.2 | exact hk.1.1.2.1 | exact hk.1.1.2.2 | exact hk.1.2.1.1 | exact hk.1.2.1.2 | exact hk.1.2.2.1 | exact hk.1.2.2.2 | exact hk.2.1.1.1 | exact hk.2.1.1.2 | exact hk.2.1.2.1 | exact hk.2.1.2.2 | exact hk.2.2.1.1 | exact hk.2.2.1.2 | exact hk.2.2.2.1 | exact hk.2.2.2.2 | exact hk.1.1.1.1.1 | exact hk.1.1.1.1.2 | exact hk.1.1.1.2.2 | exact hk.1.1.2.2.2 | exact hk.1.2.2.2.2 | exact hk.2.1.1.1.1 | exact hk.2.2.1.1.1 | exact hk.2.2.2.1.1 | exact hk.2.2.2.2.1 | exact hk.2.2.2.2.2 | exact hk.1.1.1.1.1.1 | exact hk.1.1.1.1.1.2 | exact hk.1.1.1.1.2.2 | exact hk.1.1.1.2.2.2 | exact hk.1.1.2.2.2.2 | exact hk.1.2.2.2.2.2 | exact hk.2.1.1.1.1.1 | exact hk.2.2.1.1.1.1 | exact hk.2.2.2.1.1.1 | exact hk.2.2.2.2.1.1 | exact hk.2.2.2.2.2.1 | exact hk.2.2.2.2.2.2 | exact .inr hk | exact .inr hk.1 | exact .inr hk.2 | exact .inr hk.1.1 | exact .inr hk.1.2 | exact .inr hk.2.1 | exact .inr hk.2.2 | exact .inr hk.1.1.1 | exact .inr hk.1.1.2 | exact .inr hk.1.2.1 | exact .inr hk.1.2.2 | exact .inr hk.2.1.1 | exact .inr hk.2.1.2 | exact .inr hk.2.2.1 | exact .inr hk.2.2.2 | exact .inl hk | exact .inl hk.1)), fun _ _ => (by (with_reducible repeat (first | apply Kd.R_alloc | apply Kd.R_drewN | apply Kd.R_drew)); exact Kd.R_mono HO141.out (fun _ hk => by (repeat' (with_reducible apply And.intro)) <;> first | exact trivial | exact hk | exact hk.1 | exact hk.2 | exact hk.1.1 | exact hk.1.2 | exact hk.2.1 | exact hk.2.2 | exact hk.1.1.1 | exact hk.1.1.2 | exact hk.1.2.1 | exact hk.1.2.2 | exact hk.2.1.1 | exact hk.2.1.2 | exact hk.2.2.1 | exact hk.2.2.2 | exact hk.1.1.1.1 | exact hk.1.1.1.2 | exact hk.1.1.2.1 | exact hk.1.1.2.2 | exact hk.1.2.1.1 | exact hk.1.2.1.2 | exact hk.1.2.2.1 | exact hk.1.2.2.2 | exact hk.2.1.1.1 | exact hk.2.1.1.2 | exact hk.2.1.2.1 | exact hk.2.1.2.2 | exact hk.2.2.1.1 | exact hk.2.2.1.2 | exact hk.2.2.2.1 | exact hk.2.2.2.2 | exact hk.1.1.1.1.1 | exact hk.1.1.1.1.2 | exact hk.1.1.1.2.2 | exact hk.1.1.2.2.2 | exact hk.1.2.2.2.2 | exact hk.2.1.1.1.1 | exact hk.2.2.1.1.1 | exact hk.2.2.2.1.1 | exact hk.2.2.2.2.1 | exact hk.2.2.2.2.2 | exact hk.1.1.1.1.1.1 | exact hk.1.1.1.1.1.2 | exact hk.1.1.1.1.2.2 | exact hk.1.1.1.2.2.2 | exact hk.1.1.2.2.2.2 | exact hk.1.2.2.2.2.2 | exact hk.2.1.1.1.1.1 | exact hk.2.2.1.1.1.1 | exact hk.2.2.2.1.1.1 | exact hk.2.2.2.2.1.1 | exact hk.2.2.2.2.2.1 | exact hk.2.2.2.2.2.2 | exact .inr hk | exact .inr hk.1 | exact .inr hk.2 | exact .inr hk.1.1 | exact .inr hk.1.2 | exact .inr hk.2.1 | exact .inr hk.2.2 | exact .inr hk.1.1.1 | exact .inr hk.1.1.2 | exact .inr hk.1.2.1 | exact .inr hk.1.2.2 | exact .inr hk.2.1.1 | exact .inr hk.2.1.2 | exact .inr hk.2.2.1 | exact .inr hk.2.2.2 | exact .inl hk | exact .inl hk.1)), z_HO144, fun h0_ => absurd ((hoff 10 (by kernel_rfl)).symm.trans h0_) (by decide), fun h0_ => absurd ((hoff 11 (by kernel_rfl)).symm.trans h0_) (by decide), fun h0_ => absurd ((hoff 12 (by kernel_rfl)).symm.trans h0_) (by decide)⟩
    refine steps_cons ?_ ?_
    ·rintro b a w' ⟨v137, v140, v143, v146, v149, m12_, ha, Q_HO0_3, Q_BK119, Q_HB, Q_HO138, Q_HO141, Q_HO144, Q_HO147, Q_HO150, Q_X12_⟩ hb_ hon hoff
     refine ⟨_, rfl, fun K hK => ?_⟩
     have e17 : a.tmps[17]? = some (.int .u8 0) := by rw [ha]; exact (putSel_off rfl).trans rfl
     replace ha := Aside0.mk ha
     have HO0_3 := Aside0.mk Q_HO0_3
     have BK119 := Aside0.mk Q_BK119
     have HB := Aside0.mk Q_HB
     refine Kd.R_lit_step (Kd.int .u8) _ 5 ?hg (N := 18) ?hd (xs := ([0] : List Int)) (inner := [.int .u8 0]) (ok := fun _ => True) (okp := fun _ => True) ?hr ?hp (fun _ hk => by (repeat' (with_reducible apply And.intro)) <;> first | exact trivial | exact hk | exact hk.1 | exact hk.2 | exact hk.1.1 | exact hk.1.2 | exact hk.2.1 | exact hk.2.2 | exact hk.1.1.1 | exact hk.1.1.2 | exact hk.1.2.1 | exact hk.1.2.2 | exact hk.2.1.1 | exact hk.2.1.2 | exact hk.2.2.1 | exact hk.2.2.2 | exact hk.1.1.1.1 | exact hk.1.1.1.2 | exact hk.1.1.2.1 | exact hk.1.1.2.2 | exact hk.1.2.1.1 | exact hk.1.2.1.2 | exact hk.1.2.2.1 | exact hk.1.2.2.2 | exact hk.2.1.1.1 | exact hk.2.1.1.2 | exact hk.2.1.2.1 | exact hk.2.1.2.2 | exact hk.2.2.1.1 | exact hk.2.2.1.2 | exact hk.2.2.2.1 | exact hk.2.2.2.2 | exact hk.1.1.1.1.1 | exact hk.1.1.1.1.2 | exact hk.1.1.1.2.2 | exact hk.1.1.2.2.2 | exact hk.1.2.2.2.2 | exact hk.2.1.1.1.1 | exact hk.2.2.1.1.1 | exact hk.2.2.2.1.1 | exact hk.2.2.2.2.1 | exact hk.2.2.2.2.2 | exact hk.1.1.1.1.1.1 | exact hk.1.1.1.1.1.2 | exact hk.1.1.1.1.2.2 | exact hk.1.1.1.2.2.2 | exact hk.1.1.2.2.2.2 | exact hk.1.2.2.2.2.2 | exact hk.2.1.1.1.1.1 | exact hk.2.2.1.1.1.1 | exact hk.2.2.2.1.1.1 | exact hk.2.2.2.2.1.1 | exact hk.2.2.2.2.2.1 | exact hk.2.2.2.2.2.2 | exact .inr hk | exact .inr hk.1 | exact .inr hk.2 | exact .inr hk.1.1 | exact .inr hk.1.2 | exact .inr hk.2.1 | exact .inr hk.2.2 | exact .inr hk.1.1.1 | exact .inr hk.1.1.2 | exact .inr hk.1.2.1 | exact .inr hk.1.2.2 | exact .inr hk.2.1.1 | exact .inr hk.2.1.2 | exact .inr hk.2.2.1 | exact .inr hk.2.2.2 | exact .inl hk | exact .inl hk.1) trivial (Below.refl _ _) (Nat.le_refl _) (by simp) ?_; (case hd => rfl); (case hg => rfl); (case hr => first | (go_simp; done) | (go_simp; rfl)); (case hp => exact (Reps.one (show Kd.M (Kd.int .u8) _ _ _ 0 [.int .u8 0] from rfl) (Reps.none _ _)))
     intro v143 w33 ho34 hb hg_ hnew_
     clear hg_ hnew_
     (first | rw [← Ny142.out] at ho34 | (simp only [Int.reduceToNat] at ho34; rw [← Ny142.out] at ho34))
     have n0_ := Aside0.mk (Kd.V_elder' (by (with_reducible repeat (first | apply Kd.V_alloc | apply Kd.V_drewN | apply Kd.V_drew)); first | exact HO0_3.out | exact Kd.V_mono HO0_3.out (fun _ hk => by (repeat' (with_reducible apply And.intro)) <;> first | exact trivial | exact hk | exact hk.1 | exact hk.2 | exact hk.1.1 | exact hk.1.2 | exact hk.2.1 | exact hk.2.2 | exact hk.1.1.1 | exact hk.1.1.2 | exact hk.1.2.1 | exact hk.1.2.2 | exact hk.2.1.1 | exact hk.2.1.2 | exact hk.2.2.1 | exact hk.2.2.2 | exact hk.1.1.1.1 | exact hk.1.1.1.2 | exact hk.1.1.2.1 | exact hk.1.1.2.2 | exact hk.1.2.1.1 | exact hk.1.2.1.2 | exact hk.1.2.2.1 | exact hk.1.2.2.2 | exact hk.2.1.1.1 | exact hk.2.1.1.2 | exact hk.2.1.2.1 | exact hk.2.1.2.2 | exact hk.2.2.1.1 | exact hk.2.2.1.2 | exact hk.2.2.2.1 | exact hk.2.2.2.2 | exact hk.1.1.1.1.1 | exact hk.1.1.1.1.2 | exact hk.1.1.1.2.2 | exact hk.1.1.2.2.2 | exact hk.1.2.2.2.2 | exact hk.2.1.1.1.1 | exact hk.2.2.1.1.1 | exact hk.2.2.2.1.1 | exact hk.2.2.2.2.1 | exact hk.2.2.2.2.2 | exact hk.1.1.1.1.1.1 | exact hk.1.1.1.1.1.2 | exact hk.1.1.1.1.2.2 | exact hk.1.1.1.2.2.2 | exact hk.1.1.2.2.2.2 | exact hk.1.2.2.2.2.2 | exact hk.2.1.1.1.1.1 | exact hk.2.2.1.1.1.1 | exact hk.2.2.2.1.1.1 | exact hk.2.2.2.2.1.1 | exact hk.2.2.2.2.2.1 | exact hk.2.2.2.2.2.2 | exact .inr hk | exact .inr hk.1 | exact .inr hk.2 | exact .inr hk.1.1 | exact .inr hk.1.2 | exact .inr hk.2.1 | exact .inr hk.2.2 | exact .inr hk.1.1.1 | exact .inr hk.1.1.2 | exact .inr hk.1.2.1 | exact .inr hk.1.2.2 | exact .inr hk.2.1.1 | exact .inr hk.2.1.2 | exact .inr hk.2.2.1 | exact .inr hk.2.2.2 | exact .inl hk | exact .inl hk.1)) (Kd.R_base ho34) hb)
     have n1_ := Aside0.mk (Kd.R_lower (Kd.R_newM (M := fun k_ => (w.heap.size ≤ k_)) ho34 (below_size (by repeat (first | (with_reducible first | exact HB.out | apply below_alloc | apply pw_below_drewN | apply below_drew1 | refine below_set ?_ GE119.out) | exact HB.out))) (fun k_ h_ => h_)) (below_size (by repeat (first | (with_reducible first | exact HB.out | apply below_alloc | apply pw_below_drewN | apply below_drew1 | refine below_set ?_ GE119.out) | exact HB.out))))
     have n2_ := Aside0.mk (blk_below (g := gb119) (o := .cells #[.int .i64 a0_0, .int .i64 a0_1, .bool false, .slice A0_3 l0_3.length c0_3] 37 (0, 0)) (by (with_reducible repeat (first | refine blk_drewN ?_ _ | refine blk_drew ?_ | refine blk_alloc ?_ _)); exact BK119.out) hb)
     have n3_ := Aside0.mk (below_step (by repeat (first | (with_reducible first | exact HB.out | apply below_alloc | apply pw_below_drewN | apply below_drew1 | refine below_set ?_ GE119.out) | exact HB.out)) hb)
     have z_HO138 := fun (h0_ : b 2 = true) (h1_ : b 10 = false) => (show Kd.R (Kd.int .u8) 5 w33 w.heap.size (fun k_ => (w.heap.size ≤ k_)) v137 t136 from by first | exact (Kd.R_elder' (by (with_reducible repeat (first | apply Kd.R_alloc | apply Kd.R_drewN | apply Kd.R_drew)); exact (Q_HO138 h0_ h1_)) (Kd.R_base ho34) hb) | exact Kd.R_mono (Kd.R_elder' (by (with_reducible repeat (first | apply Kd.R_alloc | apply Kd.R_drewN | apply Kd.R_drew)); exact (Q_HO138 h0_ h1_)) (Kd.R_base ho34) hb) (fun _ h_ => by first | trivial | exact h_ | exact h_.1))
     have z_HO141 := fun (h0_ : b 5 = true) (h1_ : b 10 = false) => (show Kd.R (Kd.int .u8) 5 w33 w.heap.size (fun k_ => (w.heap.size ≤ k_)) v140 t139 from by first | exact (Kd.R_elder' (by (with_reducible repeat (first | apply Kd.R_alloc | apply Kd.R_drewN | apply Kd.R_drew)); exact (Q_HO141 h0_ h1_)) (Kd.R_base ho34) hb) | exact Kd.R_mono (Kd.R_elder' (by (with_reducible repeat (first | apply Kd.R_alloc | apply Kd.R_drewN | apply Kd.R_drew)); exact (Q_HO141 h0_ h1_)) (Kd.R_base ho34) hb) (fun _ h_ => by first | trivial | exact h_ | exact h_.1))
     clear HO0_3
     clear BK119
     clear HB
     have HO0_3 := n0_
     have HO144 := n1_
     have BK119 := n2_
     have HB := n3_
     clear n0_ n1_ n2_ n3_
     clear hb ho34
     refine hK.out _ _ ⟨v137, v140, v143, v146, v149, m12_, (by rw [ha.out]; exact putSel_upk 4 hb_ rfl rfl rfl), (by (with_reducible repeat (first | apply Kd.V_alloc | apply Kd.V_drewN | apply Kd.V_drew)); exact Kd.V_mono HO0_3.out (fun _ hk => by (repeat' (with_reducible apply And.intro)) <;> first | exact trivial | exact hk | exact hk.1 | exact hk.2 | exact hk.1.1 | exact hk.1.2 | exact hk.2.1 | exact hk.2.2 | exact hk.1.1.1 | exact hk.1.1.2 | exact hk.1.2.1 | exact hk.1.2.2 | exact hk.2.1.1 | exact hk.2.1.2 | exact hk.2.2.1 | exact hk.2.2.2 | exact hk.1.1.1.1 | exact hk.1.1.1.2 | exact hk.1.1.2.1 | exact hk.1.1.2.2 | exact hk.1.2.1.1 | exact hk.1.2.1.2 | exact hk.1.2.2.1 | exact hk.1.2.2.2 | exact hk.2.1.1.1 | exact hk.2.1.1.2 | exact hk.2.1.2.1 | exact hk.2.1.2.2 | exact hk.2.2.1.1 | exact hk.2.2.1.2 | exact hk.2.2.2.1 | exact hk.2.2.2.2 | exact hk.1.1.1.1.1 | exact hk.1.1.1.1.2 | exact hk.1.1.1.2.2 | exact hk.1.1.2.2.2 | exact hk.1.2.2.2.2 | exact hk.2.1.1.1.1 | exact hk.2.2.1.1.1 | exact hk.2.2.2.1.1 | exact hk.2.2.2.2.1 | exact hk.2.2.2.2.2 | exact hk.1.1.1.1.1.1 | exact hk.1.1.1.1.1.2 | exact hk.1.1.1.1.2.2 | exact hk.1.1.1.2.2.2 | exact hk.1.1.2.2.2.2 | exact hk.1.2.2.2.2.2 | exact hk.2.1.1.1.1.1 | exact hk.2.2.1.1.1.1 | exact hk.2.2.2.1.1.1 | exact hk.2.2.2.2.1.1 | exact hk.2.2.2.2.2.1 | exact hk.2.2.2.2.2.2 | exact .inr hk | exact .inr hk.1 | exact .inr hk.2 | exact .inr hk.1.1 | exact .inr hk.1.2 | exact .inr hk.2.1 | exact .inr hk.2.2 | exact .inr hk.1.1.1 | exact .inr hk.1.1.2 | exact .inr hk.1.2.1 | exact .inr hk.1.2.2 | exact .inr hk.2.1.1 | exact .inr hk.2.1.2 | exact .inr hk.2.2.1 | exact .inr hk.2.2.2 | exact .inl hk | exact .inl hk.1)), (by (with_reducible repeat (first | refine blk_drewN ?_ _ | refine blk_drew ?_ | refine blk_alloc ?_ _)); exact BK119.out), (by repeat (first | (with_reducible first | exact HB.out | apply below_alloc | apply pw_below_drewN | apply below_drew1 | refine below_set ?_ GE119.out) | exact HB.out)), z_HO138, z_HO141, fun _ _ => (by (with_reducible repeat (first | apply Kd.R_alloc | apply Kd.R_drewN | apply Kd.R_drew)); exact Kd.R_mono HO144.out (fun _ hk => by (repeat' (with_reducible apply And.intro)) <;> first | exact trivial | exact hk | exact hk.1 | exact hk.2 | exact hk.1.1 | exact hk.1.2 | exact hk.2.1 | exact hk.2.2 | exact hk.1.1.1 | exact hk.1.1.2 | exact hk.1.2.1 | exact hk.1.2.2 | exact hk.2.1.1 | exact hk.2.1.2 | exact hk.2.2.1 | exact hk.2.2.2 | exact hk.1.1.1.1 | exact hk.1.1.1.2 | exact hk.1.1.2.1 | exact hk.1.1.2.2 | exact hk.1.2.1.1 | exact hk.1.2.1.2 | exact hk.1.2.2.1 | exact hk.1.2.2.2 | exact hk.2.1.1.1 | exact hk.2.1.1.2 | exact hk.2.1.2.1 | exact hk.2.1.2.2 | exact hk.2.2.1.1 | exact hk.2.2.1.2 | exact hk.2.2.2.1 | exact hk.2.2.2.2 | exact hk.1.1.1.1.1 | exact hk.1.1.1.1.2 | exact hk.1.1.1.2.2 | exact hk.1.1.2.2.2 | exact hk.1.2.2.2.2 | exact hk.2.1.1.1.1 | exact hk.2.2.1.1.1 | exact hk.2.2.2.1.1 | exact hk.2.2.2.2.1 | exact hk.2.2.2.2.2 | exact hk.1.1.1.1.1.1 | exact hk.1.1.1.1.1.2 | exact hk.1.1.1.1.2.2 | exact hk.1.1.1.2.2.2 | exact hk.1.1.2.2.2.2 | exact hk.1.2.2.2.2.2 | exact hk.2.1.1.1.1.1 | exact hk.2.2.1.1.1.1 | exact hk.2.2.2.1.1.1 | exact hk.2.2.2.2.1.1 | exact hk.2.2.2.2.2.1 | exact hk.2.2.2.2.2.2 | exact .inr hk | exact .inr hk.1 | exact .inr hk.2 | exact .inr hk.1.1 | exact .inr hk.1.2 | exact .inr hk.2.1 | exact .inr hk.2.2 | exact .inr hk.1.1.1 | exact .inr hk.1.1.2 | exact .inr hk.1.2.1 | exact .inr hk.1.2.2 | exact .inr hk.2.1.1 | exact .inr hk.2.1.2 | exact .inr hk.2.2.1 | exact .inr hk.2.2.2 | exact .inl hk | exact .inl hk.1)), fun h0_ => absurd ((hoff 10 (by kernel_rfl)).symm.trans h0_) (by decide), fun h0_ => absurd ((hoff 11 (by kernel_rfl)).symm.trans h0_) (by decide), fun h0_ => absurd ((hoff 12 (by kernel_rfl)).symm.trans h0_) (by decide)⟩
    refine steps_cons ?_ ?_
    ·rintro b a w' ⟨v137, v140, v143, v146, v149, m12_, ha, Q_HO0_3, Q_BK119, Q_HB, Q_HO138, Q_HO141, Q_HO144, Q_HO147, Q_HO150, Q_X12_⟩ hb_ hon hoff
     refine ⟨_, rfl, fun K hK => ?_⟩
     have e19 : a.tmps[19]? = some (.pointer (some ⟨gb119, 3, none⟩)) := by rw [ha]; exact (putSel_off rfl).trans rfl
     replace ha := Aside0.mk ha
     have HO0_3 := Aside0.mk Q_HO0_3
     have BK119 := Aside0.mk Q_BK119
     have HB := Aside0.mk Q_HB
     have hc0_ : w'.cell? ⟨gb119, 0, none⟩ = some (.int .i64 a0_0) := (blk_cell BK119.out 0).trans rfl
     have hc1_ : w'.cell? ⟨gb119, 1, none⟩ = some (.int .i64 a0_1) := (blk_cell BK119.out 1).trans rfl
     have hc2_ : w'.cell? ⟨gb119, 2, none⟩ = some (.bool false) := (blk_cell BK119.out 2).trans rfl
     have hc3_ : w'.cell? ⟨gb119, 3, none⟩ = some (.slice A0_3 l0_3.length c0_3) := (blk_cell BK119.out 3).trans rfl
     refine value_ (w1 := w') (v := .slice A0_3 l0_3.length c0_3) (by rfl) rfl ?_ ?_
     ·go_simp
      (try simp only [i64_w])
      try rfl
     refine hK.out _ _ ⟨v137, v140, v143, v146, v149, m12_, (by rw [ha.out]; exact putSel_upk 5 hb_ rfl rfl rfl), Q_HO0_3, Q_BK119, Q_HB, Q_HO138, Q_HO141, Q_HO144, fun h0_ => absurd ((hoff 10 (by kernel_rfl)).symm.trans h0_) (by decide), fun h0_ => absurd ((hoff 11 (by kernel_rfl)).symm.trans h0_) (by decide), fun h0_ => absurd ((hoff 12 (by kernel_rfl)).symm.trans h0_) (by decide)⟩
    refine steps_cons ?_ ?_
    ·rintro b a w' ⟨v137, v140, v143, v146, v149, m12_, ha, Q_HO0_3, Q_BK119, Q_HB, Q_HO138, Q_HO141, Q_HO144, Q_HO147, Q_HO150, Q_X12_⟩ hb_ hon hoff
     refine ⟨_, rfl, fun K hK => ?_⟩
     have e13 : a.tmps[13]? = some (v137) := by rw [ha]; exact putSel_on (e := (2, 13, v137)) 1 rfl rfl (hon 2 (by kernel_rfl)) rfl
     have e16 : a.tmps[16]? = some (v140) := by rw [ha]; exact putSel_on (e := (5, 16, v140)) 3 rfl rfl (hon 5 (by kernel_rfl)) rfl
     have e18 : a.tmps[18]? = some (v143) := by rw [ha]; exact putSel_on (e := (7, 18, v143)) 4 rfl rfl (hon 7 (by kernel_rfl)) rfl
     have e20 : a.tmps[20]? = some (.slice A0_3 l0_3.length c0_3) := by rw [ha]; exact putSel_on (e := (9, 20, .slice A0_3 l0_3.length c0_3)) 5 rfl rfl (hon 9 (by kernel_rfl)) rfl
     replace ha := Aside0.mk ha
     have HO0_3 := Aside0.mk Q_HO0_3
     have BK119 := Aside0.mk Q_BK119
     have HB := Aside0.mk Q_HB
     have HO138 := Aside0.mk (Q_HO138 (hon 2 (by kernel_rfl)) hb_)
     have HO141 := Aside0.mk (Q_HO141 (hon 5 (by kernel_rfl)) hb_)
     have HO144 := Aside0.mk (Q_HO144 (hon 7 (by kernel_rfl)) hb_)
     obtain ⟨Ao38, co38, eo38⟩ := Kd.R_slice HO138.out
     (first | subst eo38 | (injection eo38 with f1_ f2_ f3_; have f4_ := f1_.symm; have f5_ := f3_.symm; clear f1_ f2_ f3_; subst f4_; subst f5_))
     obtain ⟨Ao39, co39, eo39⟩ := Kd.R_slice HO141.out
     (first | subst eo39 | (injection eo39 with f1_ f2_ f3_; have f4_ := f1_.symm; have f5_ := f3_.symm; clear f1_ f2_ f3_; subst f4_; subst f5_))
     obtain ⟨Ao40, co40, eo40⟩ := Kd.R_slice HO144.out
     (first | subst eo40 | (injection eo40 with f1_ f2_ f3_; have f4_ := f1_.symm; have f5_ := f3_.symm; clear f1_ f2_ f3_; subst f4_; subst f5_))
     refine Kd.N_lit_step (Kd.slice 5 (Kd.int .u8)) _ 32 ?hg (N' := 21) ?hd (xs := ([t136, t139, y142, l0_3] : List (List Int))) (inner := [.slice Ao38 t136.length co38, .slice Ao39 t139.length co39, .slice Ao40 y142.length co40, .slice A0_3 l0_3.length c0_3]) (ok := (fun k_ => (P0_3_ k_ ∨ w.heap.size ≤ k_) ∧ k_ ≠ gb119)) (okp := (fun k_ => (P0_3_ k_ ∨ w.heap.size ≤ k_) ∧ k_ ≠ gb119)) ?hr ?hp (fun _ hk => by (repeat' (with_reducible apply And.intro)) <;> first | exact trivial | exact hk | exact hk.1 | exact hk.2 | exact hk.1.1 | exact hk.1.2 | exact hk.2.1 | exact hk.2.2 | exact hk.1.1.1 | exact hk.1.1.2 | exact hk.1.2.1 | exact hk.1.2.2 | exact hk.2.1.1 | exact hk.2.1.2 | exact hk.2.2.1 | exact hk.2.2.2 | exact hk.1.1.1.1 | exact hk.1.1.1.2 | exact hk.1.1.2.1 | exact hk.1.1.2.2 | exact hk.1.2.1.1 | exact hk.1.2.1.2 | exact hk.1.2.2.1 | exact hk.1.2.2.2 | exact hk.2.1.1.1 | exact hk.2.1.1.2 | exact hk.2.1.2.1 | exact hk.2.1.2.2 | exact hk.2.2.1.1 | exact hk.2.2.1.2 | exact hk.2.2.2.1 | exact hk.2.2.2.2 | exact hk.1.1.1.1.1 | exact hk.1.1.1.1.2 | exact hk.1.1.1.2.2 | exact hk.1.1.2.2.2 | exact hk.1.2.2.2.2 | exact hk.2.1.1.1.1 | exact hk.2.2.1.1.1 | exact hk.2.2.2.1.1 | exact hk.2.2.2.2.1 | exact hk.2.2.2.2.2 | exact hk.1.1.1.1.1.1 | exact hk.1.1.1.1.1.2 | exact hk.1.1.1.1.2.2 | exact hk.1.1.1.2.2.2 | exact hk.1.1.2.2.2.2 | exact hk.1.2.2.2.2.2 | exact hk.2.1.1.1.1.1 | exact hk.2.2.1.1.1.1 | exact hk.2.2.2.1.1.1 | exact hk.2.2.2.2.1.1 | exact hk.2.2.2.2.2.1 | exact hk.2.2.2.2.2.2 | exact .inr hk | exact .inr hk.1 | exact .inr hk.2 | exact .inr hk.1.1 | exact .inr hk.1.2 | exact .inr hk.2.1 | exact .inr hk.2.2 | exact .inr hk.1.1.1 | exact .inr hk.1.1.2 | exact .inr hk.1.2.1 | exact .inr hk.1.2.2 | exact .inr hk.2.1.1 | exact .inr hk.2.1.2 | exact .inr hk.2.2.1 | exact .inr hk.2.2.2 | exact .inl hk | exact .inl hk.1) ((show ∀ k_, w'.heap.size ≤ k_ → (fun k_ => (P0_3_ k_ ∨ w.heap.size ≤ k_) ∧ k_ ≠ gb119) k_ from fun k_ hk => ⟨(.inr (Nat.le_trans (below_size (by repeat (first | (with_reducible first | exact HB.out | apply below_alloc | apply pw_below_drewN | apply below_drew1 | refine below_set ?_ GE119.out) | exact HB.out))) hk)), Kd.freshB (g := gb119) (o := .cells #[.int .i64 a0_0, .int .i64 a0_1, .bool false, .slice A0_3 l0_3.length c0_3] 37 (0, 0)) (by (with_reducible repeat (first | refine blk_drewN ?_ _ | refine blk_drew ?_ | refine blk_alloc ?_ _)); exact BK119.out) k_ hk⟩) _ (Nat.le_refl _)) (Below.refl _ _) (Nat.le_refl _) (by simp) ?_; (case hd => rfl); (case hg => rfl); (case hr => first | (go_simp; done) | (go_simp; rfl)); (case hp => exact (Reps.one (show Kd.FK (Kd.slice 5 (Kd.int .u8)) _ _ t136 [.slice Ao38 t136.length co38] from (Kd.FK_slice_mk (Kd.R_reads' (Kd.R_mono (ok' := (fun k_ => (P0_3_ k_ ∨ w.heap.size ≤ k_) ∧ k_ ≠ gb119)) (Kd.R_types (HO138.out) BK119.out (by decide)) (fun k_ hk => by (repeat' (with_reducible apply And.intro)) <;> first | exact trivial | exact hk | exact hk.1 | exact hk.2 | exact hk.1.1 | exact hk.1.2 | exact hk.2.1 | exact hk.2.2 | exact hk.1.1.1 | exact hk.1.1.2 | exact hk.1.2.1 | exact hk.1.2.2 | exact hk.2.1.1 | exact hk.2.1.2 | exact hk.2.2.1 | exact hk.2.2.2 | exact hk.1.1.1.1 | exact hk.1.1.1.2 | exact hk.1.1.2.1 | exact hk.1.1.2.2 | exact hk.1.2.1.1 | exact hk.1.2.1.2 | exact hk.1.2.2.1 | exact hk.1.2.2.2 | exact hk.2.1.1.1 | exact hk.2.1.1.2 | exact hk.2.1.2.1 | exact hk.2.1.2.2 | exact hk.2.2.1.1 | exact hk.2.2.1.2 | exact hk.2.2.2.1 | exact hk.2.2.2.2 | exact hk.1.1.1.1.1 | exact hk.1.1.1.1.2 | exact hk.1.1.1.2.2 | exact hk.1.1.2.2.2 | exact hk.1.2.2.2.2 | exact hk.2.1.1.1.1 | exact hk.2.2.1.1.1 | exact hk.2.2.2.1.1 | exact hk.2.2.2.2.1 | exact hk.2.2.2.2.2 | exact hk.1.1.1.1.1.1 | exact hk.1.1.1.1.1.2 | exact hk.1.1.1.1.2.2 | exact hk.1.1.1.2.2.2 | exact hk.1.1.2.2.2.2 | exact hk.1.2.2.2.2.2 | exact hk.2.1.1.1.1.1 | exact hk.2.2.1.1.1.1 | exact hk.2.2.2.1.1.1 | exact hk.2.2.2.2.1.1 | exact hk.2.2.2.2.2.1 | exact hk.2.2.2.2.2.2 | exact .inr hk | exact .inr hk.1 | exact .inr hk.2 | exact .inr hk.1.1 | exact .inr hk.1.2 | exact .inr hk.2.1 | exact .inr hk.2.2 | exact .inr hk.1.1.1 | exact .inr hk.1.1.2 | exact .inr hk.1.2.1 | exact .inr hk.1.2.2 | exact .inr hk.2.1.1 | exact .inr hk.2.1.2 | exact .inr hk.2.2.1 | exact .inr hk.2.2.2 | exact .inl hk | exact .inl hk.1))).2.1 (Kd.R_F (Kd.R_mono (ok' := (fun k_ => (P0_3_ k_ ∨ w.heap.size ≤ k_) ∧ k_ ≠ gb119)) (Kd.R_types (HO138.out) BK119.out (by decide)) (fun k_ hk => by (repeat' (with_reducible apply And.intro)) <;> first | exact trivial | exact hk | exact hk.1 | exact hk.2 | exact hk.1.1 | exact hk.1.2 | exact hk.2.1 | exact hk.2.2 | exact hk.1.1.1 | exact hk.1.1.2 | exact hk.1.2.1 | exact hk.1.2.2 | exact hk.2.1.1 | exact hk.2.1.2 | exact hk.2.2.1 | exact hk.2.2.2 | exact hk.1.1.1.1 | exact hk.1.1.1.2 | exact hk.1.1.2.1 | exact hk.1.1.2.2 | exact hk.1.2.1.1 | exact hk.1.2.1.2 | exact hk.1.2.2.1 | exact hk.1.2.2.2 | exact hk.2.1.1.1 | exact hk.2.1.1.2 | exact hk.2.1.2.1 | exact hk.2.1.2.2 | exact hk.2.2.1.1 | exact hk.2.2.1.2 | exact hk.2.2.2.1 | exact hk.2.2.2.2 | exact hk.1.1.1.1.1 | exact hk.1.1.1.1.2 | exact hk.1.1.1.2.2 | exact hk.1.1.2.2.2 | exact hk.1.2.2.2.2 | exact hk.2.1.1.1.1 | exact hk.2.2.1.1.1 | exact hk.2.2.2.1.1 | exact hk.2.2.2.2.1 | exact hk.2.2.2.2.2 | exact hk.1.1.1.1.1.1 | exact hk.1.1.1.1.1.2 | exact hk.1.1.1.1.2.2 | exact hk.1.1.1.2.2.2 | exact hk.1.1.2.2.2.2 | exact hk.1.2.2.2.2.2 | exact hk.2.1.1.1.1.1 | exact hk.2.2.1.1.1.1 | exact hk.2.2.2.1.1.1 | exact hk.2.2.2.2.1.1 | exact hk.2.2.2.2.2.1 | exact hk.2.2.2.2.2.2 | exact .inr hk | exact .inr hk.1 | exact .inr hk.2 | exact .inr hk.1.1 | exact .inr hk.1.2 | exact .inr hk.2.1 | exact .inr hk.2.2 | exact .inr hk.1.1.1 | exact .inr hk.1.1.2 | exact .inr hk.1.2.1 | exact .inr hk.1.2.2 | exact .inr hk.2.1.1 | exact .inr hk.2.1.2 | exact .inr hk.2.2.1 | exact .inr hk.2.2.2 | exact .inl hk | exact .inl hk.1))))) (Reps.one (show Kd.FK (Kd.slice 5 (Kd.int .u8)) _ _ t139 [.slice Ao39 t139.length co39] from (Kd.FK_slice_mk (Kd.R_reads' (Kd.R_mono (ok' := (fun k_ => (P0_3_ k_ ∨ w.heap.size ≤ k_) ∧ k_ ≠ gb119)) (Kd.R_types (HO141.out) BK119.out (by decide)) (fun k_ hk => by (repeat' (with_reducible apply And.intro)) <;> first | exact trivial | exact hk | exact hk.1 | exact hk.2 | exact hk.1.1 | exact hk.1.2 | exact hk.2.1 | exact hk.2.2 | exact hk.1.1.1 | exact hk.1.1.2 | exact hk.1.2.1 | exact hk.1.2.2 | exact hk.2.1.1 | exact hk.2.1.2 | exact hk.2.2.1 | exact hk.2.2.2 | exact hk.1.1.1.1 | exact hk.1.1.1.2 | exact hk.1.1.2.1 | exact hk.1.1.2.2 | exact hk.1.2.1.1 | exact hk.1.2.1.2 | exact hk.1.2.2.1 | exact hk.1.2.2.2 | exact hk.2.1.1.1 | exact hk.2.1.1.2 | exact hk.2.1.2.1 | exact hk.2.1.2.2 | exact hk.2.2.1.1 | exact hk.2.2.1.2 | exact hk.2.2.2.1 | exact hk.2.2.2.2 | exact hk.1.1.1.1.1 | exact hk.1.1.1.1.2 | exact hk.1.1.1.2.2 | exact hk.1.1.2.2.2 | exact hk.1.2.2.2.2 | exact hk.2.1.1.1.1 | exact hk.2.2.1.1.1 | exact hk.2.2.2.1.1 | exact hk.2.2.2.2.1 | exact hk.2.2.2.2.2 | exact hk.1.1.1.1.1.1 | exact hk.1.1.1.1.1.2 | exact hk.1.1.1.1.2.2 | exact hk.1.1.1.2.2.2 | exact hk.1.1.2.2.2.2 | exact hk.1.2.2.2.2.2 | exact hk.2.1.1.1.1.1 | exact hk.2.2.1.1.1.1 | exact hk.2.2.2.1.1.1 | exact hk.2.2.2.2.1.1 | exact hk.2.2.2.2.2.1 | exact hk.2.2.2.2.2.2 | exact .inr hk | exact .inr hk.1 | exact .inr hk.2 | exact .inr hk.1.1 | exact .inr hk.1.2 | exact .inr hk.2.1 | exact .inr hk.2.2 | exact .inr hk.1.1.1 | exact .inr hk.1.1.2 | exact .inr hk.1.2.1 | exact .inr hk.1.2.2 | exact .inr hk.2.1.1 | exact .inr hk.2.1.2 | exact .inr hk.2.2.1 | exact .inr hk.2.2.2 | exact .inl hk | exact .inl hk.1))).2.1 (Kd.R_F (Kd.R_mono (ok' := (fun k_ => (P0_3_ k_ ∨ w.heap.size ≤ k_) ∧ k_ ≠ gb119)) (Kd.R_types (HO141.out) BK119.out (by decide)) (fun k_ hk => by (repeat' (with_reducible apply And.intro)) <;> first | exact trivial | exact hk | exact hk.1 | exact hk.2 | exact hk.1.1 | exact hk.1.2 | exact hk.2.1 | exact hk.2.2 | exact hk.1.1.1 | exact hk.1.1.2 | exact hk.1.2.1 | exact hk.1.2.2 | exact hk.2.1.1 | exact hk.2.1.2 | exact hk.2.2.1 | exact hk.2.2.2 | exact hk.1.1.1.1 | exact hk.1.1.1.2 | exact hk.1.1.2.1 | exact hk.1.1.2.2 | exact hk.1.2.1.1 | exact hk.1.2.1.2 | exact hk.1.2.2.1 | exact hk.1.2.2.2 | exact hk.2.1.1.1 | exact hk.2.1.1.2 | exact hk.2.1.2.1 | exact hk.2.1.2.2 | exact hk.2.2.1.1 | exact hk.2.2.1.2 | exact hk.2.2.2.1 | exact hk.2.2.2.2 | exact hk.1.1.1.1.1 | exact hk.1.1.1.1.2 | exact hk.1.1.1.2.2 | exact hk.1.1.2.2.2 | exact hk.1.2.2.2.2 | exact hk.2.1.1.1.1 | exact hk.2.2.1.1.1 | exact hk.2.2.2.1.1 | exact hk.2.2.2.2.1 | exact hk.2.2.2.2.2 | exact hk.1.1.1.1.1.1 | exact hk.1.1.1.1.1.2 | exact hk.1.1.1.1.2.2 | exact hk.1.1.1.2.2.2 | exact hk.1.1.2.2.2.2 | exact hk.1.2.2.2.2.2 | exact hk.2.1.1.1.1.1 | exact hk.2.2.1.1.1.1 | exact hk.2.2.2.1.1.1 | exact hk.2.2.2.2.1.1 | exact hk.2.2.2.2.2.1 | exact hk.2.2.2.2.2.2 | exact .inr hk | exact .inr hk.1 | exact .inr hk.2 | exact .inr hk.1.1 | exact .inr hk.1.2 | exact .inr hk.2.1 | exact .inr hk.2.2 | exact .inr hk.1.1.1 | exact .inr hk.1.1.2 | exact .inr hk.1.2.1 | exact .inr hk.1.2.2 | exact .inr hk.2.1.1 | exact .inr hk.2.1.2 | exact .inr hk.2.2.1 | exact .inr hk.2.2.2 | exact .inl hk | exact .inl hk.1))))) (Reps.one (show Kd.FK (Kd.slice 5 (Kd.int .u8)) _ _ y142 [.slice Ao40 y142.length co40] from (Kd.FK_slice_mk (Kd.R_reads' (Kd.R_mono (ok' := (fun k_ => (P0_3_ k_ ∨ w.heap.size ≤ k_) ∧ k_ ≠ gb119)) (Kd.R_types (HO144.out) BK119.out (by decide)) (fun k_ hk => by (repeat' (with_reducible apply And.intro)) <;> first | exact trivial | exact hk | exact hk.1 | exact hk.2 | exact hk.1.1 | exact hk.1.2 | exact hk.2.1 | exact hk.2.2 | exact hk.1.1.1 | exact hk.1.1.2 | exact hk.1.2.1 | exact hk.1.2.2 | exact hk.2.1.1 | exact hk.2.1.2 | exact hk.2.2.1 | exact hk.2.2.2 | exact hk.1.1.1.1 | exact hk.1.1.1.2 | exact hk.1.1.2.1 | exact hk.1.1.2.2 | exact hk.1.2.1.1 | exact hk.1.2.1.2 | exact hk.1.2.2.1 | exact hk.1.2.2.2 | exact hk.2.1.1.1 | exact hk.2.1.1.2 | exact hk.2.1.2.1 | exact hk.2.1.2.2 | exact hk.2.2.1.1 | exact hk.2.2.1.2 | exact hk.2.2.2.1 | exact hk.2.2.2.2 | exact hk.1.1.1.1.1 | exact hk.1.1.1.1.2 | exact hk.1.1.1.2.2 | exact hk.1.1.2.2.2 | exact hk.1.2.2.2.2 | exact hk.2.1.1.1.1 | exact hk.2.2.1.1.1 | exact hk.2.2.2.1.1 | exact hk.2.2.2.2.1 | exact hk.2.2.2.2.2 | exact hk.1.1.1.1.1.1 | exact hk.1.1.1.1.1.2 | exact hk.1.1.1.1.2.2 | exact hk.1.1.1.2.2.2 | exact hk.1.1.2.2.2.2 | exact hk.1.2.2.2.2.2 | exact hk.2.1.1.1.1.1 | exact hk.2.2.1.1.1.1 | exact hk.2.2.2.1.1.1 | exact hk.2.2.2.2.1.1 | exact hk.2.2.2.2.2.1 | exact hk.2.2.2.2.2.2 | exact .inr hk | exact .inr hk.1 | exact .inr hk.2 | exact .inr hk.1.1 | exact .inr hk.1.2 | exact .inr hk.2.1 | exact .inr hk.2.2 | exact .inr hk.1.1.1 | exact .inr hk.1.1.2 | exact .inr hk.1.2.1 | exact .inr hk.1.2.2 | exact .inr hk.2.1.1 | exact .inr hk.2.1.2 | exact .inr hk.2.2.1 | exact .inr hk.2.2.2 | exact .inl hk | exact .inl hk.1))).2.1 (Kd.R_F (Kd.R_mono (ok' := (fun k_ => (P0_3_ k_ ∨ w.heap.size ≤ k_) ∧ k_ ≠ gb119)) (Kd.R_types (HO144.out) BK119.out (by decide)) (fun k_ hk => by (repeat' (with_reducible apply And.intro)) <;> first | exact trivial | exact hk | exact hk.1 | exact hk.2 | exact hk.1.1 | exact hk.1.2 | exact hk.2.1 | exact hk.2.2 | exact hk.1.1.1 | exact hk.1.1.2 | exact hk.1.2.1 | exact hk.1.2.2 | exact hk.2.1.1 | exact hk.2.1.2 | exact hk.2.2.1 | exact hk.2.2.2 | exact hk.1.1.1.1 | exact hk.1.1.1.2 | exact hk.1.1.2.1 | exact hk.1.1.2.2 | exact hk.1.2.1.1 | exact hk.1.2.1.2 | exact hk.1.2.2.1 | exact hk.1.2.2.2 | exact hk.2.1.1.1 | exact hk.2.1.1.2 | exact hk.2.1.2.1 | exact hk.2.1.2.2 | exact hk.2.2.1.1 | exact hk.2.2.1.2 | exact hk.2.2.2.1 | exact hk.2.2.2.2 | exact hk.1.1.1.1.1 | exact hk.1.1.1.1.2 | exact hk.1.1.1.2.2 | exact hk.1.1.2.2.2 | exact hk.1.2.2.2.2 | exact hk.2.1.1.1.1 | exact hk.2.2.1.1.1 | exact hk.2.2.2.1.1 | exact hk.2.2.2.2.1 | exact hk.2.2.2.2.2 | exact hk.1.1.1.1.1.1 | exact hk.1.1.1.1.1.2 | exact hk.1.1.1.1.2.2 | exact hk.1.1.1.2.2.2 | exact hk.1.1.2.2.2.2 | exact hk.1.2.2.2.2.2 | exact hk.2.1.1.1.1.1 | exact hk.2.2.1.1.1.1 | exact hk.2.2.2.1.1.1 | exact hk.2.2.2.2.1.1 | exact hk.2.2.2.2.2.1 | exact hk.2.2.2.2.2.2 | exact .inr hk | exact .inr hk.1 | exact .inr hk.2 | exact .inr hk.1.1 | exact .inr hk.1.2 | exact .inr hk.2.1 | exact .inr hk.2.2 | exact .inr hk.1.1.1 | exact .inr hk.1.1.2 | exact .inr hk.1.2.1 | exact .inr hk.1.2.2 | exact .inr hk.2.1.1 | exact .inr hk.2.1.2 | exact .inr hk.2.2.1 | exact .inr hk.2.2.2 | exact .inl hk | exact .inl hk.1))))) (Reps.one (show Kd.FK (Kd.slice 5 (Kd.int .u8)) _ _ l0_3 [.slice A0_3 l0_3.length c0_3] from (Kd.FK_slice_mk (Kd.V_reads' (Kd.V_mono (ok' := (fun k_ => (P0_3_ k_ ∨ w.heap.size ≤ k_) ∧ k_ ≠ gb119)) (HO0_3.out) (fun k_ hk => by (repeat' (with_reducible apply And.intro)) <;> first | exact trivial | exact hk | exact hk.1 | exact hk.2 | exact hk.1.1 | exact hk.1.2 | exact hk.2.1 | exact hk.2.2 | exact hk.1.1.1 | exact hk.1.1.2 | exact hk.1.2.1 | exact hk.1.2.2 | exact hk.2.1.1 | exact hk.2.1.2 | exact hk.2.2.1 | exact hk.2.2.2 | exact hk.1.1.1.1 | exact hk.1.1.1.2 | exact hk.1.1.2.1 | exact hk.1.1.2.2 | exact hk.1.2.1.1 | exact hk.1.2.1.2 | exact hk.1.2.2.1 | exact hk.1.2.2.2 | exact hk.2.1.1.1 | exact hk.2.1.1.2 | exact hk.2.1.2.1 | exact hk.2.1.2.2 | exact hk.2.2.1.1 | exact hk.2.2.1.2 | exact hk.2.2.2.1 | exact hk.2.2.2.2 | exact hk.1.1.1.1.1 | exact hk.1.1.1.1.2 | exact hk.1.1.1.2.2 | exact hk.1.1.2.2.2 | exact hk.1.2.2.2.2 | exact hk.2.1.1.1.1 | exact hk.2.2.1.1.1 | exact hk.2.2.2.1.1 | exact hk.2.2.2.2.1 | exact hk.2.2.2.2.2 | exact hk.1.1.1.1.1.1 | exact hk.1.1.1.1.1.2 | exact hk.1.1.1.1.2.2 | exact hk.1.1.1.2.2.2 | exact hk.1.1.2.2.2.2 | exact hk.1.2.2.2.2.2 | exact hk.2.1.1.1.1.1 | exact hk.2.2.1.1.1.1 | exact hk.2.2.2.1.1.1 | exact hk.2.2.2.2.1.1 | exact hk.2.2.2.2.2.1 | exact hk.2.2.2.2.2.2 | exact .inr hk | exact .inr hk.1 | exact .inr hk.2 | exact .inr hk.1.1 | exact .inr hk.1.2 | exact .inr hk.2.1 | exact .inr hk.2.2 | exact .inr hk.1.1.1 | exact .inr hk.1.1.2 | exact .inr hk.1.2.1 | exact .inr hk.1.2.2 | exact .inr hk.2.1.1 | exact .inr hk.2.1.2 | exact .inr hk.2.2.1 | exact .inr hk.2.2.2 | exact .inl hk | exact .inl hk.1))).2.1 (Kd.V_F (Kd.V_mono (ok' := (fun k_ => (P0_3_ k_ ∨ w.heap.size ≤ k_) ∧ k_ ≠ gb119)) (HO0_3.out) (fun k_ hk => by (repeat' (with_reducible apply And.intro)) <;> first | exact trivial | exact hk | exact hk.1 | exact hk.2 | exact hk.1.1 | exact hk.1.2 | exact hk.2.1 | exact hk.2.2 | exact hk.1.1.1 | exact hk.1.1.2 | exact hk.1.2.1 | exact hk.1.2.2 | exact hk.2.1.1 | exact hk.2.1.2 | exact hk.2.2.1 | exact hk.2.2.2 | exact hk.1.1.1.1 | exact hk.1.1.1.2 | exact hk.1.1.2.1 | exact hk.1.1.2.2 | exact hk.1.2.1.1 | exact hk.1.2.1.2 | exact hk.1.2.2.1 | exact hk.1.2.2.2 | exact hk.2.1.1.1 | exact hk.2.1.1.2 | exact hk.2.1.2.1 | exact hk.2.1.2.2 | exact hk.2.2.1.1 | exact hk.2.2.1.2 | exact hk.2.2.2.1 | exact hk.2.2.2.2 | exact hk.1.1.1.1.1 | exact hk.1.1.1.1.2 | exact hk.1.1.1.2.2 | exact hk.1.1.2.2.2 | exact hk.1.2.2.2.2 | exact hk.2.1.1.1.1 | exact hk.2.2.1.1.1 | exact hk.2.2.2.1.1 | exact hk.2.2.2.2.1 | exact hk.2.2.2.2.2 | exact hk.1.1.1.1.1.1 | exact hk.1.1.1.1.1.2 | exact hk.1.1.1.1.2.2 | exact hk.1.1.1.2.2.2 | exact hk.1.1.2.2.2.2 | exact hk.1.2.2.2.2.2 | exact hk.2.1.1.1.1.1 | exact hk.2.2.1.1.1.1 | exact hk.2.2.2.1.1.1 | exact hk.2.2.2.2.1.1 | exact hk.2.2.2.2.2.1 | exact hk.2.2.2.2.2.2 | exact .inr hk | exact .inr hk.1 | exact .inr hk.2 | exact .inr hk.1.1 | exact .inr hk.1.2 | exact .inr hk.2.1 | exact .inr hk.2.2 | exact .inr hk.1.1.1 | exact .inr hk.1.1.2 | exact .inr hk.1.2.1 | exact .inr hk.1.2.2 | exact .inr hk.2.1.1 | exact .inr hk.2.1.2 | exact .inr hk.2.2.1 | exact .inr hk.2.2.2 | exact .inl hk | exact .inl hk.1))))) (Reps.none _ _))))))
     intro v146 w41 ho42 hb hg_ hnew_
     clear hg_ hnew_
     (first | rw [← Ny145.out] at ho42 | (simp only [Int.reduceToNat] at ho42; rw [← Ny145.out] at ho42))
     have n0_ := Aside0.mk (Kd.V_elder' (by (with_reducible repeat (first | apply Kd.V_alloc | apply Kd.V_drewN | apply Kd.V_drew)); first | exact HO0_3.out | exact Kd.V_mono HO0_3.out (fun _ hk => by (repeat' (with_reducible apply And.intro)) <;> first | exact trivial | exact hk | exact hk.1 | exact hk.2 | exact hk.1.1 | exact hk.1.2 | exact hk.2.1 | exact hk.2.2 | exact hk.1.1.1 | exact hk.1.1.2 | exact hk.1.2.1 | exact hk.1.2.2 | exact hk.2.1.1 | exact hk.2.1.2 | exact hk.2.2.1 | exact hk.2.2.2 | exact hk.1.1.1.1 | exact hk.1.1.1.2 | exact hk.1.1.2.1 | exact hk.1.1.2.2 | exact hk.1.2.1.1 | exact hk.1.2.1.2 | exact hk.1.2.2.1 | exact hk.1.2.2.2 | exact hk.2.1.1.1 | exact hk.2.1.1.2 | exact hk.2.1.2.1 | exact hk.2.1.2.2 | exact hk.2.2.1.1 | exact hk.2.2.1.2 | exact hk.2.2.2.1 | exact hk.2.2.2.2 | exact hk.1.1.1.1.1 | exact hk.1.1.1.1.2 | exact hk.1.1.1.2.2 | exact hk.1.1.2.2.2 | exact hk.1.2.2.2.2 | exact hk.2.1.1.1.1 | exact hk.2.2.1.1.1 | exact hk.2.2.2.1.1 | exact hk.2.2.2.2.1 | exact hk.2.2.2.2.2 | exact hk.1.1.1.1.1.1 | exact hk.1.1.1.1.1.2 | exact hk.1.1.1.1.2.2 | exact hk.1.1.1.2.2.2 | exact hk.1.1.2.2.2.2 | exact hk.1.2.2.2.2.2 | exact hk.2.1.1.1.1.1 | exact hk.2.2.1.1.1.1 | exact hk.2.2.2.1.1.1 | exact hk.2.2.2.2.1.1 | exact hk.2.2.2.2.2.1 | exact hk.2.2.2.2.2.2 | exact .inr hk | exact .inr hk.1 | exact .inr hk.2 | exact .inr hk.1.1 | exact .inr hk.1.2 | exact .inr hk.2.1 | exact .inr hk.2.2 | exact .inr hk.1.1.1 | exact .inr hk.1.1.2 | exact .inr hk.1.2.1 | exact .inr hk.1.2.2 | exact .inr hk.2.1.1 | exact .inr hk.2.1.2 | exact .inr hk.2.2.1 | exact .inr hk.2.2.2 | exact .inl hk | exact .inl hk.1)) (Kd.N_base ho42) hb)
     have n1_ := Aside0.mk (Kd.N_lower ho42 (below_size (by repeat (first | (with_reducible first | exact HB.out | apply below_alloc | apply pw_below_drewN | apply below_drew1 | refine below_set ?_ GE119.out) | exact HB.out))))
     have n2_ := Aside0.mk (blk_below (g := gb119) (o := .cells #[.int .i64 a0_0, .int .i64 a0_1, .bool false, .slice A0_3 l0_3.length c0_3] 37 (0, 0)) (by (with_reducible repeat (first | refine blk_drewN ?_ _ | refine blk_drew ?_ | refine blk_alloc ?_ _)); exact BK119.out) hb)
     have n3_ := Aside0.mk (below_step (by repeat (first | (with_reducible first | exact HB.out | apply below_alloc | apply pw_below_drewN | apply below_drew1 | refine below_set ?_ GE119.out) | exact HB.out)) hb)
     clear HO0_3
     clear BK119
     clear HB
     clear HO138
     clear HO141
     clear HO144
     have HO0_3 := n0_
     have HO147 := n1_
     have BK119 := n2_
     have HB := n3_
     clear n0_ n1_ n2_ n3_
     clear hb ho42
     refine hK.out _ _ ⟨.slice Ao38 t136.length co38, .slice Ao39 t139.length co39, .slice Ao40 y142.length co40, v146, v149, m12_, (by rw [ha.out]; exact putSel_upk 6 hb_ rfl rfl rfl), (by (with_reducible repeat (first | apply Kd.V_alloc | apply Kd.V_drewN | apply Kd.V_drew)); exact Kd.V_mono HO0_3.out (fun _ hk => by (repeat' (with_reducible apply And.intro)) <;> first | exact trivial | exact hk | exact hk.1 | exact hk.2 | exact hk.1.1 | exact hk.1.2 | exact hk.2.1 | exact hk.2.2 | exact hk.1.1.1 | exact hk.1.1.2 | exact hk.1.2.1 | exact hk.1.2.2 | exact hk.2.1.1 | exact hk.2.1.2 | exact hk.2.2.1 | exact hk.2.2.2 | exact hk.1.1.1.1 | exact hk.1.1.1.2 | exact hk.1.1.2.1 | exact hk.1.1.2.2 | exact hk.1.2.1.1 | exact hk.1.2.1.2 | exact hk.1.2.2.1 | exact hk.1.2.2.2 | exact hk.2.1.1.1 | exact hk.2.1.1.2 | exact hk.2.1.2.1 | exact hk.2.1.2.2 | exact hk.2.2.1.1 | exact hk.2.2.1.2 | exact hk.2.2.2.1 | exact hk.2.2.2.2 | exact hk.1.1.1.1.1 | exact hk.1.1.1.1.2 | exact hk.1.1.1.2.2 | exact hk.1.1.2.2.2 | exact hk.1.2.2.2.2 | exact hk.2.1.1.1.1 | exact hk.2.2.1.1.1 | exact hk.2.2.2.1.1 | exact hk.2.2.2.2.1 | exact hk.2.2.2.2.2 | exact hk.1.1.1.1.1.1 | exact hk.1.1.1.1.1.2 | exact hk.1.1.1.1.2.2 | exact hk.1.1.1.2.2.2 | exact hk.1.1.2.2.2.2 | exact hk.1.2.2.2.2.2 | exact hk.2.1.1.1.1.1 | exact hk.2.2.1.1.1.1 | exact hk.2.2.2.1.1.1 | exact hk.2.2.2.2.1.1 | exact hk.2.2.2.2.2.1 | exact hk.2.2.2.2.2.2 | exact .inr hk | exact .inr hk.1 | exact .inr hk.2 | exact .inr hk.1.1 | exact .inr hk.1.2 | exact .inr hk.2.1 | exact .inr hk.2.2 | exact .inr hk.1.1.1 | exact .inr hk.1.1.2 | exact .inr hk.1.2.1 | exact .inr hk.1.2.2 | exact .inr hk.2.1.1 | exact .inr hk.2.1.2 | exact .inr hk.2.2.1 | exact .inr hk.2.2.2 | exact .inl hk | exact .inl hk.1)), (by (with_reducible repeat (first | refine blk_drewN ?_ _ | refine blk_drew ?_ | refine blk_alloc ?_ _)); exact BK119.out), (by repeat (first | (with_reducible first | exact HB.out | apply below_alloc | apply pw_below_drewN | apply below_drew1 | refine below_set ?_ GE119.out) | exact HB.out)), fun _ h1_ => absurd ((up_self b 10).symm.trans h1_) (by decide), fun _ h1_ => absurd ((up_self b 10).symm.trans h1_) (by decide), fun _ h1_ => absurd ((up_self b 10).symm.trans h1_) (by decide), fun _ => (by (with_reducible repeat (first | apply Kd.N_alloc | apply Kd.N_drewN | apply Kd.N_drew)); first | exact HO147.out | exact Kd.N_mono HO147.out (fun _ hk => by (repeat' (with_reducible apply And.intro)) <;> first | exact trivial | exact hk | exact hk.1 | exact hk.2 | exact hk.1.1 | exact hk.1.2 | exact hk.2.1 | exact hk.2.2 | exact hk.1.1.1 | exact hk.1.1.2 | exact hk.1.2.1 | exact hk.1.2.2 | exact hk.2.1.1 | exact hk.2.1.2 | exact hk.2.2.1 | exact hk.2.2.2 | exact hk.1.1.1.1 | exact hk.1.1.1.2 | exact hk.1.1.2.1 | exact hk.1.1.2.2 | exact hk.1.2.1.1 | exact hk.1.2.1.2 | exact hk.1.2.2.1 | exact hk.1.2.2.2 | exact hk.2.1.1.1 | exact hk.2.1.1.2 | exact hk.2.1.2.1 | exact hk.2.1.2.2 | exact hk.2.2.1.1 | exact hk.2.2.1.2 | exact hk.2.2.2.1 | exact hk.2.2.2.2 | exact hk.1.1.1.1.1 | exact hk.1.1.1.1.2 | exact hk.1.1.1.2.2 | exact hk.1.1.2.2.2 | exact hk.1.2.2.2.2 | exact hk.2.1.1.1.1 | exact hk.2.2.1.1.1 | exact hk.2.2.2.1.1 | exact hk.2.2.2.2.1 | exact hk.2.2.2.2.2 | exact hk.1.1.1.1.1.1 | exact hk.1.1.1.1.1.2 | exact hk.1.1.1.1.2.2 | exact hk.1.1.1.2.2.2 | exact hk.1.1.2.2.2.2 | exact hk.1.2.2.2.2.2 | exact hk.2.1.1.1.1.1 | exact hk.2.2.1.1.1.1 | exact hk.2.2.2.1.1.1 | exact hk.2.2.2.2.1.1 | exact hk.2.2.2.2.2.1 | exact hk.2.2.2.2.2.2 | exact .inr hk | exact .inr hk.1 | exact .inr hk.2 | exact .inr hk.1.1 | exact .inr hk.1.2 | exact .inr hk.2.1 | exact .inr hk.2.2 | exact .inr hk.1.1.1 | exact .inr hk.1.1.2 | exact .inr hk.1.2.1 | exact .inr hk.1.2.2 | exact .inr hk.2.1.1 | exact .inr hk.2.1.2 | exact .inr hk.2.2.1 | exact .inr hk.2.2.2 | exact .inl hk | exact .inl hk.1)), fun h0_ => absurd ((hoff 11 (by kernel_rfl)).symm.trans h0_) (by decide), fun h0_ => absurd ((hoff 12 (by kernel_rfl)).symm.trans h0_) (by decide)⟩
    refine steps_cons ?_ ?_
    ·rintro b a w' ⟨v137, v140, v143, v146, v149, m12_, ha, Q_HO0_3, Q_BK119, Q_HB, Q_HO138, Q_HO141, Q_HO144, Q_HO147, Q_HO150, Q_X12_⟩ hb_ hon hoff
     refine ⟨_, rfl, fun K hK => ?_⟩
     have e21 : a.tmps[21]? = some (v146) := by rw [ha]; exact putSel_on (e := (10, 21, v146)) 6 rfl rfl (hon 10 (by kernel_rfl)) rfl
     replace ha := Aside0.mk ha
     have HO0_3 := Aside0.mk Q_HO0_3
     have BK119 := Aside0.mk Q_BK119
     have HB := Aside0.mk Q_HB
     have HO147 := Aside0.mk (Q_HO147 (hon 10 (by kernel_rfl)))
     obtain ⟨Ao43, co43, eo43⟩ := Kd.N_slice HO147.out
     (first | subst eo43 | (injection eo43 with f1_ f2_ f3_; have f4_ := f1_.symm; have f5_ := f3_.symm; clear f1_ f2_ f3_; subst f4_; subst f5_))
     refine goes_ Tryd.func40 (by kernel_rfl) rfl #[.slice Ao43 y145.length co43] (by rfl) rfl rfl (by first | (simp only [List.map_toArray, List.map_cons, List.map_nil, Act.eval, Array.getD_eq_getD_getElem?, Option.getD_some, e21]; done) | (simp only [List.map_toArray, List.map_cons, List.map_nil, Act.eval, Array.getD_eq_getD_getElem?, Option.getD_some, e21]; rfl)) ?_
     with_reducible refine (slices_Concat_byte_byte.calls k _ _ y145 t148 _ ?side1 ?side2 A27.out).mono ?_
     (case side1 => repeat (first | exact (Kd.N_reads' HO147.out).2.2 | (with_reducible refine Kd.C_alloc ?_ _) | (with_reducible refine Kd.C_drewN ?_ _) | (with_reducible refine Kd.C_drew ?_)))
     (case side2 => exact (Kd.N_reads' HO147.out).2.1)
     rintro e w44 ⟨v149, rfl, ho0, hb⟩
     refine ⟨_, rfl, ?_⟩
     have n0_ := Aside0.mk (Kd.V_elder' (by (with_reducible repeat (first | apply Kd.V_alloc | apply Kd.V_drewN | apply Kd.V_drew)); first | exact HO0_3.out | exact Kd.V_mono HO0_3.out (fun _ hk => by (repeat' (with_reducible apply And.intro)) <;> first | exact trivial | exact hk | exact hk.1 | exact hk.2 | exact hk.1.1 | exact hk.1.2 | exact hk.2.1 | exact hk.2.2 | exact hk.1.1.1 | exact hk.1.1.2 | exact hk.1.2.1 | exact hk.1.2.2 | exact hk.2.1.1 | exact hk.2.1.2 | exact hk.2.2.1 | exact hk.2.2.2 | exact hk.1.1.1.1 | exact hk.1.1.1.2 | exact hk.1.1.2.1 | exact hk.1.1.2.2 | exact hk.1.2.1.1 | exact hk.1.2.1.2 | exact hk.1.2.2.1 | exact hk.1.2.2.2 | exact hk.2.1.1.1 | exact hk.2.1.1.2 | exact hk.2.1.2.1 | exact hk.2.1.2.2 | exact hk.2.2.1.1 | exact hk.2.2.1.2 | exact hk.2.2.2.1 | exact hk.2.2.2.2 | exact hk.1.1.1.1.1 | exact hk.1.1.1.1.2 | exact hk.1.1.1.2.2 | exact hk.1.1.2.2.2 | exact hk.1.2.2.2.2 | exact hk.2.1.1.1.1 | exact hk.2.2.1.1.1 | exact hk.2.2.2.1.1 | exact hk.2.2.2.2.1 | exact hk.2.2.2.2.2 | exact hk.1.1.1.1.1.1 | exact hk.1.1.1.1.1.2 | exact hk.1.1.1.1.2.2 | exact hk.1.1.1.2.2.2 | exact hk.1.1.2.2.2.2 | exact hk.1.2.2.2.2.2 | exact hk.2.1.1.1.1.1 | exact hk.2.2.1.1.1.1 | exact hk.2.2.2.1.1.1 | exact hk.2.2.2.2.1.1 | exact hk.2.2.2.2.2.1 | exact hk.2.2.2.2.2.2 | exact .inr hk | exact .inr hk.1 | exact .inr hk.2 | exact .inr hk.1.1 | exact .inr hk.1.2 | exact .inr hk.2.1 | exact .inr hk.2.2 | exact .inr hk.1.1.1 | exact .inr hk.1.1.2 | exact .inr hk.1.2.1 | exact .inr hk.1.2.2 | exact .inr hk.2.1.1 | exact .inr hk.2.1.2 | exact .inr hk.2.2.1 | exact .inr hk.2.2.2 | exact .inl hk | exact .inl hk.1)) (Kd.R_base ho0) hb)
     have n1_ := Aside0.mk (Kd.N_elder' (by (with_reducible repeat (first | apply Kd.N_alloc | apply Kd.N_drewN | apply Kd.N_drew)); first | exact HO147.out | exact Kd.N_mono HO147.out (fun _ hk => by (repeat' (with_reducible apply And.intro)) <;> first | exact trivial | exact hk | exact hk.1 | exact hk.2 | exact hk.1.1 | exact hk.1.2 | exact hk.2.1 | exact hk.2.2 | exact hk.1.1.1 | exact hk.1.1.2 | exact hk.1.2.1 | exact hk.1.2.2 | exact hk.2.1.1 | exact hk.2.1.2 | exact hk.2.2.1 | exact hk.2.2.2 | exact hk.1.1.1.1 | exact hk.1.1.1.2 | exact hk.1.1.2.1 | exact hk.1.1.2.2 | exact hk.1.2.1.1 | exact hk.1.2.1.2 | exact hk.1.2.2.1 | exact hk.1.2.2.2 | exact hk.2.1.1.1 | exact hk.2.1.1.2 | exact hk.2.1.2.1 | exact hk.2.1.2.2 | exact hk.2.2.1.1 | exact hk.2.2.1.2 | exact hk.2.2.2.1 | exact hk.2.2.2.2 | exact hk.1.1.1.1.1 | exact hk.1.1.1.1.2 | exact hk.1.1.1.2.2 | exact hk.1.1.2.2.2 | exact hk.1.2.2.2.2 | exact hk.2.1.1.1.1 | exact hk.2.2.1.1.1 | exact hk.2.2.2.1.1 | exact hk.2.2.2.2.1 | exact hk.2.2.2.2.2 | exact hk.1.1.1.1.1.1 | exact hk.1.1.1.1.1.2 | exact hk.1.1.1.1.2.2 | exact hk.1.1.1.2.2.2 | exact hk.1.1.2.2.2.2 | exact hk.1.2.2.2.2.2 | exact hk.2.1.1.1.1.1 | exact hk.2.2.1.1.1.1 | exact hk.2.2.2.1.1.1 | exact hk.2.2.2.2.1.1 | exact hk.2.2.2.2.2.1 | exact hk.2.2.2.2.2.2 | exact .inr hk | exact .inr hk.1 | exact .inr hk.2 | exact .inr hk.1.1 | exact .inr hk.1.2 | exact .inr hk.2.1 | exact .inr hk.2.2 | exact .inr hk.1.1.1 | exact .inr hk.1.1.2 | exact .inr hk.1.2.1 | exact .inr hk.1.2.2 | exact .inr hk.2.1.1 | exact .inr hk.2.1.2 | exact .inr hk.2.2.1 | exact .inr hk.2.2.2 | exact .inl hk | exact .inl hk.1)) (Kd.R_base ho0) hb)
     have n2_ := Aside0.mk (Kd.R_lower (Kd.R_newM (M := fun k_ => (w.heap.size ≤ k_)) ho0 (below_size (by repeat (first | (with_reducible first | exact HB.out | apply below_alloc | apply pw_below_drewN | apply below_drew1 | refine below_set ?_ GE119.out) | exact HB.out))) (fun k_ h_ => h_)) (below_size (by repeat (first | (with_reducible first | exact HB.out | apply below_alloc | apply pw_below_drewN | apply below_drew1 | refine below_set ?_ GE119.out) | exact HB.out))))
     have n3_ := Aside0.mk (blk_below (g := gb119) (o := .cells #[.int .i64 a0_0, .int .i64 a0_1, .bool false, .slice A0_3 l0_3.length c0_3] 37 (0, 0)) (by (with_reducible repeat (first | refine blk_drewN ?_ _ | refine blk_drew ?_ | refine blk_alloc ?_ _)); exact BK119.out) hb)
     have n4_ := Aside0.mk (below_step (by repeat (first | (with_reducible first | exact HB.out | apply below_alloc | apply pw_below_drewN | apply below_drew1 | refine below_set ?_ GE119.out) | exact HB.out)) hb)
     clear HO0_3
     clear HO147
     clear BK119
     clear HB
     have HO0_3 := n0_
     have HO147 := n1_
     have HO150 := n2_
     have BK119 := n3_
     have HB := n4_
     clear n0_ n1_ n2_ n3_ n4_
     (try clear hb)
     (try clear hb2)
     (try clear hk)
     (try clear hi)
     (try clear ho0)
     refine hK.out _ _ ⟨v137, v140, v143, .slice Ao43 y145.length co43, v149, m12_, (by rw [ha.out]; exact putSel_upk 7 hb_ rfl rfl rfl), (by (with_reducible repeat (first | apply Kd.V_alloc | apply Kd.V_drewN | apply Kd.V_drew)); exact Kd.V_mono HO0_3.out (fun _ hk => by (repeat' (with_reducible apply And.intro)) <;> first | exact trivial | exact hk | exact hk.1 | exact hk.2 | exact hk.1.1 | exact hk.1.2 | exact hk.2.1 | exact hk.2.2 | exact hk.1.1.1 | exact hk.1.1.2 | exact hk.1.2.1 | exact hk.1.2.2 | exact hk.2.1.1 | exact hk.2.1.2 | exact hk.2.2.1 | exact hk.2.2.2 | exact hk.1.1.1.1 | exact hk.1.1.1.2 | exact hk.1.1.2.1 | exact hk.1.1.2.2 | exact hk.1.2.1.1 | exact hk.1.2.1.2 | exact hk.1.2.2.1 | exact hk.1.2.2.2 | exact hk.2.1.1.1 | exact hk.2.1.1.2 | exact hk.2.1.2.1 | exact hk.2.1.2.2 | exact hk.2.2.1.1 | exact hk.2.2.1.2 | exact hk.2.2.2.1 | exact hk.2.2.2.2 | exact hk.1.1.1.1.1 | exact hk.1.1.1.1.2 | exact hk.1.1.1.2.2 | exact hk.1.1.2.2.2 | exact hk.1.2.2.2.2 | exact hk.2.1.1.1.1 | exact hk.2.2.1.1.1 | exact hk.2.2.2.1.1 | exact hk.2.2.2.2.1 | exact hk.2.2.2.2.2 | exact hk.1.1.1.1.1.1 | exact hk.1.1.1.1.1.2 | exact hk.1.1.1.1.2.2 | exact hk.1.1.1.2.2.2 | exact hk.1.1.2.2.2.2 | exact hk.1.2.2.2.2.2 | exact hk.2.1.1.1.1.1 | exact hk.2.2.1.1.1.1 | exact hk.2.2.2.1.1.1 | exact hk.2.2.2.2.1.1 | exact hk.2.2.2.2.2.1 | exact hk.2.2.2.2.2.2 | exact .inr hk | exact .inr hk.1 | exact .inr hk.2 | exact .inr hk.1.1 | exact .inr hk.1.2 | exact .inr hk.2.1 | exact .inr hk.2.2 | exact .inr hk.1.1.1 | exact .inr hk.1.1.2 | exact .inr hk.1.2.1 | exact .inr hk.1.2.2 | exact .inr hk.2.1.1 | exact .inr hk.2.1.2 | exact .inr hk.2.2.1 | exact .inr hk.2.2.2 | exact .inl hk | exact .inl hk.1)), (by (with_reducible repeat (first | refine blk_drewN ?_ _ | refine blk_drew ?_ | refine blk_alloc ?_ _)); exact BK119.out), (by repeat (first | (with_reducible first | exact HB.out | apply below_alloc | apply pw_below_drewN | apply below_drew1 | refine below_set ?_ GE119.out) | exact HB.out)), fun _ h1_ => absurd ((hon 10 (by kernel_rfl)).symm.trans h1_) (by decide), fun _ h1_ => absurd ((hon 10 (by kernel_rfl)).symm.trans h1_) (by decide), fun _ h1_ => absurd ((hon 10 (by kernel_rfl)).symm.trans h1_) (by decide), fun _ => (by (with_reducible repeat (first | apply Kd.N_alloc | apply Kd.N_drewN | apply Kd.N_drew)); exact Kd.N_mono HO147.out (fun _ hk => by (repeat' (with_reducible apply And.intro)) <;> first | exact trivial | exact hk | exact hk.1 | exact hk.2 | exact hk.1.1 | exact hk.1.2 | exact hk.2.1 | exact hk.2.2 | exact hk.1.1.1 | exact hk.1.1.2 | exact hk.1.2.1 | exact hk.1.2.2 | exact hk.2.1.1 | exact hk.2.1.2 | exact hk.2.2.1 | exact hk.2.2.2 | exact hk.1.1.1.1 | exact hk.1.1.1.2 | exact hk.1.1.2.1 | exact hk.1.1.2.2 | exact hk.1.2.1.1 | exact hk.1.2.1.2 | exact hk.1.2.2.1 | exact hk.1.2.2.2 | exact hk.2.1.1.1 | exact hk.2.1.1.2 | exact hk.2.1.2.1 | exact hk.2.1.2.2 | exact hk.2.2.1.1 | exact hk.2.2.1.2 | exact hk.2.2.2.1 | exact hk.2.2.2.2 | exact hk.1.1.1.1.1 | exact hk.1.1.1.1.2 | exact hk.1.1.1.2.2 | exact hk.1.1.2.2.2 | exact hk.1.2.2.2.2 | exact hk.2.1.1.1.1 | exact hk.2.2.1.1.1 | exact hk.2.2.2.1.1 | exact hk.2.2.2.2.1 | exact hk.2.2.2.2.2 | exact hk.1.1.1.1.1.1 | exact hk.1.1.1.1.1.2 | exact hk.1.1.1.1.2.2 | exact hk.1.1.1.2.2.2 | exact hk.1.1.2.2.2.2 | exact hk.1.2.2.2.2.2 | exact hk.2.1.1.1.1.1 | exact hk.2.2.1.1.1.1 | exact hk.2.2.2.1.1.1 | exact hk.2.2.2.2.1.1 | exact hk.2.2.2.2.2.1 | exact hk.2.2.2.2.2.2 | exact .inr hk | exact .inr hk.1 | exact .inr hk.2 | exact .inr hk.1.1 | exact .inr hk.1.2 | exact .inr hk.2.1 | exact .inr hk.2.2 | exact .inr hk.1.1.1 | exact .inr hk.1.1.2 | exact .inr hk.1.2.1 | exact .inr hk.1.2.2 | exact .inr hk.2.1.1 | exact .inr hk.2.1.2 | exact .inr hk.2.2.1 | exact .inr hk.2.2.2 | exact .inl hk | exact .inl hk.1)), fun _ => (by (with_reducible repeat (first | apply Kd.R_alloc | apply Kd.R_drewN | apply Kd.R_drew)); exact Kd.R_mono HO150.out (fun _ hk => by (repeat' (with_reducible apply And.intro)) <;> first | exact trivial | exact hk | exact hk.1 | exact hk.2 | exact hk.1.1 | exact hk.1.2 | exact hk.2.1 | exact hk.2.2 | exact hk.1.1.1 | exact hk.1.1.2 | exact hk.1.2.1 | exact hk.1.2.2 | exact hk.2.1.1 | exact hk.2.1.2 | exact hk.2.2.1 | exact hk.2.2.2 | exact hk.1.1.1.1 | exact hk.1.1.1.2 | exact hk.1.1.2.1 | exact hk.1.1.2.2 | exact hk.1.2.1.1 | exact hk.1.2.1.2 | exact hk.1.2.2.1 | exact hk.1.2.2.2 | exact hk.2.1.1.1 | exact hk.2.1.1.2 | exact hk.2.1.2.1 | exact hk.2.1.2.2 | exact hk.2.2.1.1 | exact hk.2.2.1.2 | exact hk.2.2.2.1 | exact hk.2.2.2.2 | exact hk.1.1.1.1.1 | exact hk.1.1.1.1.2 | exact hk.1.1.1.2.2 | exact hk.1.1.2.2.2 | exact hk.1.2.2.2.2 | exact hk.2.1.1.1.1 | exact hk.2.2.1.1.1 | exact hk.2.2.2.1.1 | exact hk.2.2.2.2.1 | exact hk.2.2.2.2.2 | exact hk.1.1.1.1.1.1 | exact hk.1.1.1.1.1.2 | exact hk.1.1.1.1.2.2 | exact hk.1.1.1.2.2.2 | exact hk.1.1.2.2.2.2 | exact hk.1.2.2.2.2.2 | exact hk.2.1.1.1.1.1 | exact hk.2.2.1.1.1.1 | exact hk.2.2.2.1.1.1 | exact hk.2.2.2.2.1.1 | exact hk.2.2.2.2.2.1 | exact hk.2.2.2.2.2.2 | exact .inr hk | exact .inr hk.1 | exact .inr hk.2 | exact .inr hk.1.1 | exact .inr hk.1.2 | exact .inr hk.2.1 | exact .inr hk.2.2 | exact .inr hk.1.1.1 | exact .inr hk.1.1.2 | exact .inr hk.1.2.1 | exact .inr hk.1.2.2 | exact .inr hk.2.1.1 | exact .inr hk.2.1.2 | exact .inr hk.2.2.1 | exact .inr hk.2.2.2 | exact .inl hk | exact .inl hk.1)), fun h0_ => absurd ((hoff 12 (by kernel_rfl)).symm.trans h0_) (by decide)⟩
    refine steps_cons ?_ ?_
    ·rintro b a w' ⟨v137, v140, v143, v146, v149, m12_, ha, Q_HO0_3, Q_BK119, Q_HB, Q_HO138, Q_HO141, Q_HO144, Q_HO147, Q_HO150, Q_X12_⟩ hb_ hon hoff
     refine ⟨_, rfl, fun K hK => ?_⟩
     have e22 : a.tmps[22]? = some (v149) := by rw [ha]; exact putSel_on (e := (11, 22, v149)) 7 rfl rfl (hon 11 (by kernel_rfl)) rfl
     replace ha := Aside0.mk ha
     have HO0_3 := Aside0.mk Q_HO0_3
     have BK119 := Aside0.mk Q_BK119
     have HB := Aside0.mk Q_HB
     have HO147 := Aside0.mk (Q_HO147 (hon 10 (by kernel_rfl)))
     have HO150 := Aside0.mk (Q_HO150 (hon 11 (by kernel_rfl)))
     refine value_ (w1 := w') (v := v149) (by rfl) rfl ?_ ?_
     ·go_simp
      (try simp only [i64_w])
      try rfl
     refine hK.out _ _ ⟨v137, v140, v143, v146, v149, (v149), (by rw [ha.out]; exact putSel_upk 8 hb_ rfl rfl rfl), Q_HO0_3, Q_BK119, Q_HB, fun _ h1_ => absurd ((hon 10 (by kernel_rfl)).symm.trans h1_) (by decide), fun _ h1_ => absurd ((hon 10 (by kernel_rfl)).symm.trans h1_) (by decide), fun _ h1_ => absurd ((hon 10 (by kernel_rfl)).symm.trans h1_) (by decide), Q_HO147, Q_HO150, fun _ => rfl⟩
    refine steps_cons ?_ ?_
    ·rintro b a w' ⟨v137, v140, v143, v146, v149, m12_, ha, Q_HO0_3, Q_BK119, Q_HB, Q_HO138, Q_HO141, Q_HO144, Q_HO147, Q_HO150, Q_X12_⟩ hb_ hon hoff
     refine ⟨_, rfl, fun K hK => ?_⟩
     replace ha := Aside0.mk ha
     have HO0_3 := Aside0.mk Q_HO0_3
     have BK119 := Aside0.mk Q_BK119
     have HB := Aside0.mk Q_HB
     have HO147 := Aside0.mk (Q_HO147 (hon 10 (by kernel_rfl)))
     have HO150 := Aside0.mk (Q_HO150 (hon 11 (by kernel_rfl)))
     refine value_ (w1 := w') (v := errW none) (by rfl) rfl ?_ ?_
     ·go_simp
      (try simp only [i64_w])
      try rfl
     refine hK.out _ _ ⟨v137, v140, v143, v146, v149, m12_, (by rw [ha.out]; exact putSel_upk 9 hb_ rfl rfl rfl), Q_HO0_3, Q_BK119, Q_HB, fun _ h1_ => absurd ((hon 10 (by kernel_rfl)).symm.trans h1_) (by decide), fun _ h1_ => absurd ((hon 10 (by kernel_rfl)).symm.trans h1_) (by decide), fun _ h1_ => absurd ((hon 10 (by kernel_rfl)).symm.trans h1_) (by decide), Q_HO147, Q_HO150, Q_X12_⟩
    exact steps_nil
   rintro b a w44 hall ⟨v137, v140, v143, v146, v149, m12_, ha, Q_HO0_3, Q_BK119, Q_HB, Q_HO138, Q_HO141, Q_HO144, Q_HO147, Q_HO150, Q_X12_⟩
   clear BK119 HB HO0_3
   have hb1_ := hall 1 (by kernel_rfl)
   have hb2_ := hall 2 (by kernel_rfl)
   have hb4_ := hall 4 (by kernel_rfl)
   have hb5_ := hall 5 (by kernel_rfl)
   have hb7_ := hall 7 (by kernel_rfl)
   have hb9_ := hall 9 (by kernel_rfl)
   have hb10_ := hall 10 (by kernel_rfl)
   have hb11_ := hall 11 (by kernel_rfl)
   have hb12_ := hall 12 (by kernel_rfl)
   have hb13_ := hall 13 (by kernel_rfl)
   subst ha
   obtain rfl := Q_X12_ hb12_
   simp only [putSel, hb1_, hb2_, hb4_, hb5_, hb7_, hb9_, hb10_, hb11_, hb12_, hb13_, if_true, Act.put, List.setIfInBounds_toArray, List.set_cons_zero, List.set_cons_succ]
   have HO0_3 := Aside0.mk Q_HO0_3
   clear Q_HO0_3
   have BK119 := Aside0.mk Q_BK119
   clear Q_BK119
   have HB := Aside0.mk Q_HB
   clear Q_HB
   clear Q_HO138
   clear Q_HO141
   clear Q_HO144
   have HO147 := Aside0.mk (Q_HO147 hb10_)
   clear Q_HO147
   have HO150 := Aside0.mk (Q_HO150 hb11_)
   clear Q_HO150
   clear hall hb1_ hb2_ hb4_ hb5_ hb7_ hb9_ hb10_ hb11_ hb12_ hb13_
   try go_wp2
   go_ret2
   exact ⟨_, by first | rfl | (simp [errW_none, errW_some] <;> rfl) | (simp [*, errW_none, errW_some] <;> rfl), by (with_reducible repeat (first | apply Kd.R_alloc | apply Kd.R_drewN | apply Kd.R_drew)); exact HO150.out, by repeat (first | (with_reducible first | exact HB.out | apply below_alloc | apply pw_below_drewN | apply below_drew1 | refine below_set ?_ GE119.out) | exact HB.out)⟩
 ·replace c3 := Bool.eq_false_iff.mpr c3
  subst c3
  have H1 : (some (([] : List Int), some 1)) = some (r1, r2) := by rw [if_neg (show ¬ (false = true) by decide)] at H; exact H
  clear H
  have H := H1
  clear H1
  simp only [Option.some.injEq, Prod.mk.injEq] at H
  obtain ⟨rfl, rfl⟩ := H
  go_enter Tryd.func29, Tryd.ntmps29
  go_wp2_with (first | ((with_reducible refine gate_dst (N := 1) rfl ?_); refine box_event ?hg (N := 1) ?hd (cs := #[.int .i64 a0_0, .int .i64 a0_1, .bool a0_2, .slice A0_3 l0_3.length c0_3]) (t := 37) ?hr ?_; (case hd => rfl); (case hg => rfl); (case hr => first | (go_simp; done) | (go_simp; rfl)); intro gb119 hg w45 hbox hb; have n0_ := Aside0.mk (Kd.V_below (Kd.V_elderB (by (with_reducible repeat (first | apply Kd.V_alloc | apply Kd.V_drewN | apply Kd.V_drew)); first | exact HO0_3.out | exact Kd.V_mono HO0_3.out (fun _ hk => by (repeat' (with_reducible apply And.intro)) <;> first | exact trivial | exact hk | exact hk.1 | exact hk.2 | exact hk.1.1 | exact hk.1.2 | exact hk.2.1 | exact hk.2.2 | exact hk.1.1.1 | exact hk.1.1.2 | exact hk.1.2.1 | exact hk.1.2.2 | exact hk.2.1.1 | exact hk.2.1.2 | exact hk.2.2.1 | exact hk.2.2.2 | exact hk.1.1.1.1 | exact hk.1.1.1.2 | exact hk.1.1.2.1 | exact hk.1.1.2.2 | exact hk.1.2.1.1 | exact hk.1.2.1.2 | exact hk.1.2.2.1 | exact hk.1.2.2.2 | exact hk.2.1.1.1 | exact hk.2.1.1.2 | exact hk.2.1.2.1 | exact hk.2.1.2.2 | exact hk.2.2.1.1 | exact hk.2.2.1.2 | exact hk.2.2.2.1 | exact hk.2.2.2.2 | exact hk.1.1.1.1.1 | exact hk.1.1.1.1.2 | exact hk.1.1.1.2.2 | exact hk.1.1.2.2.2 | exact hk.1.2.2.2.2 | exact hk.2.1.1.1.1 | exact hk.2.2.1.1.1 | exact hk.2.2.2.1.1 | exact hk.2.2.2.2.1 | exact hk.2.2.2.2.2 | exact hk.1.1.1.1.1.1 | exact hk.1.1.1.1.1.2 | exact hk.1.1.1.1.2.2 | exact hk.1.1.1.2.2.2 | exact hk.1.1.2.2.2.2 | exact hk.1.2.2.2.2.2 | exact hk.2.1.1.1.1.1 | exact hk.2.2.1.1.1.1 | exact hk.2.2.2.1.1.1 | exact hk.2.2.2.2.1.1 | exact hk.2.2.2.2.2.1 | exact hk.2.2.2.2.2.2 | exact .inr hk | exact .inr hk.1 | exact .inr hk.2 | exact .inr hk.1.1 | exact .inr hk.1.2 | exact .inr hk.2.1 | exact .inr hk.2.2 | exact .inr hk.1.1.1 | exact .inr hk.1.1.2 | exact .inr hk.1.2.1 | exact .inr hk.1.2.2 | exact .inr hk.2.1.1 | exact .inr hk.2.1.2 | exact .inr hk.2.2.1 | exact .inr hk.2.2.2 | exact .inl hk | exact .inl hk.1)) gb119 (Nat.le_of_eq hg.symm)) hb); have n1_ := Aside0.mk (below_step (by repeat (first | (with_reducible first | exact HB.out | apply below_alloc | apply pw_below_drewN | apply below_drew1) | exact HB.out)) hb); have n2_ := Aside0.mk (hbox); have n3_ := Aside0.mk ((by rw [hg]; exact (below_size (by repeat (first | (with_reducible first | exact HB.out | apply below_alloc | apply pw_below_drewN | apply below_drew1) | exact HB.out))) : w.heap.size ≤ gb119)); have n4_ := Aside0.mk ((by rw [hg]; exact (below_size (by repeat (first | (with_reducible first | exact HB.out | apply below_alloc | apply pw_below_drewN | apply below_drew1) | exact HB.out))) : w.heap.size ≤ gb119)); clear HO0_3; clear HB; have HO0_3 := n0_; have HB := n1_; have BK119 := n2_; have GW119 := n3_; have GE119 := n4_; clear n0_ n1_ n2_ n3_ n4_; clear hb hbox hg; have hcz46_0 : w45.cell? ⟨gb119, 0, none⟩ = some (.int .i64 a0_0) := (blk_cell BK119.out 0).trans rfl; have hcz46_1 : w45.cell? ⟨gb119, 1, none⟩ = some (.int .i64 a0_1) := (blk_cell BK119.out 1).trans rfl; have hcz46_2 : w45.cell? ⟨gb119, 2, none⟩ = some (.bool a0_2) := (blk_cell BK119.out 2).trans rfl; have hcz46_3 : w45.cell? ⟨gb119, 3, none⟩ = some (.slice A0_3 l0_3.length c0_3) := (blk_cell BK119.out 3).trans rfl; have hfz46_0 := blk_frozen BK119.out 0; have hfz46_1 := blk_frozen BK119.out 1; have hfz46_2 := blk_frozen BK119.out 2; have hfz46_3 := blk_frozen BK119.out 3) | ((with_reducible refine gate_callee (f := 39) rfl ?_); refine goesL_ (some 6) rfl rfl Tryd.func39 (by kernel_rfl) rfl #[.agg #[.int .i64 a0_0, .int .i64 a0_1, .bool a0_2, .slice A0_3 l0_3.length c0_3]] rfl (by (try simp only [List.map_toArray, List.map_cons, List.map_nil]); first | done | rfl | (simp only [List.length_drop, List.length_take]; rfl)) ?_; (with_reducible refine (piece_may.calls k a0_0 a0_1 a0_2 _ _ l0_3 false _ ?side1 ?side2 A2.out).mono ?_); (case side1 => repeat (first | exact (Kd.V_reads' HO0_3.out).2.2 | (with_reducible refine Kd.C_alloc ?_ _) | (with_reducible refine Kd.C_drewN ?_ _) | (with_reducible refine Kd.C_drew ?_))); (case side2 => exact (Kd.V_reads' HO0_3.out).2.1); rintro e w47 ⟨rfl, hb⟩; refine ⟨_, rfl, ?_⟩; have n0_ := Aside0.mk (Kd.V_below (by (with_reducible repeat (first | apply Kd.V_alloc | apply Kd.V_drewN | apply Kd.V_drew)); first | exact HO0_3.out | exact Kd.V_mono HO0_3.out (fun _ hk => by (repeat' (with_reducible apply And.intro)) <;> first | exact trivial | exact hk | exact hk.1 | exact hk.2 | exact hk.1.1 | exact hk.1.2 | exact hk.2.1 | exact hk.2.2 | exact hk.1.1.1 | exact hk.1.1.2 | exact hk.1.2.1 | exact hk.1.2.2 | exact hk.2.1.1 | exact hk.2.1.2 | exact hk.2.2.1 | exact hk.2.2.2 | exact hk.1.1.1.1 | exact hk.1.1.1.2 | exact hk.1.1.2.1 | exact hk.1.1.2.2 | exact hk.1.2.1.1 | exact hk.1.2.1.2 | exact hk.1.2.2.1 | exact hk.1.2.2.2 | exact hk.2.1.1.1 | exact hk.2.1.1.2 | exact hk.2.1.2.1 | exact hk.2.1.2.2 | exact hk.2.2.1.1 | exact hk.2.2.1.2 | exact hk.2.2.2.1 | exact hk.2.2.2.2 | exact hk.1.1.1.1.1 | exact hk.1.1.1.1.2 | exact hk.1.1.1.2.2 | exact hk.1.1.2.2.2 | exact hk.1.2.2.2.2 | exact hk.2.1.1.1.1 | exact hk.2.2.1.1.1 | exact hk.2.2.2.1.1 | exact hk.2.2.2.2.1 | exact hk.2.2.2.2.2 | exact hk.1.1.1.1.1.1 | exact hk.1.1.1.1.1.2 | exact hk.1.1.1.1.2.2 | exact hk.1.1.1.2.2.2 | exact hk.1.1.2.2.2.2 | exact hk.1.2.2.2.2.2 | exact hk.2.1.1.1.1.1 | exact hk.2.2.1.1.1.1 | exact hk.2.2.2.1.1.1 | exact hk.2.2.2.2.1.1 | exact hk.2.2.2.2.2.1 | exact hk.2.2.2.2.2.2 | exact .inr hk | exact .inr hk.1 | exact .inr hk.2 | exact .inr hk.1.1 | exact .inr hk.1.2 | exact .inr hk.2.1 | exact .inr hk.2.2 | exact .inr hk.1.1.1 | exact .inr hk.1.1.2 | exact .inr hk.1.2.1 | exact .inr hk.1.2.2 | exact .inr hk.2.1.1 | exact .inr hk.2.1.2 | exact .inr hk.2.2.1 | exact .inr hk.2.2.2 | exact .inl hk | exact .inl hk.1)) hb); have n1_ := Aside0.mk (blk_below (g := gb119) (o := .cells #[.int .i64 a0_0, .int .i64 a0_1, .bool a0_2, .slice A0_3 l0_3.length c0_3] 37 (0, 0)) (by (with_reducible repeat (first | refine blk_drewN ?_ _ | refine blk_drew ?_ | refine blk_alloc ?_ _)); exact BK119.out) hb); have n2_ := Aside0.mk (below_step (by repeat (first | (with_reducible first | exact HB.out | apply below_alloc | apply pw_below_drewN | apply below_drew1 | refine below_set ?_ GE119.out) | exact HB.out)) hb); clear HO0_3; clear BK119; clear HB; have HO0_3 := n0_; have BK119 := n1_; have HB := n2_; clear n0_ n1_ n2_; (try clear hb); (try clear hb2); (try clear hk); (try clear hi)))
  go_ret2
  exact ⟨_, by first | rfl | (simp [errW_none, errW_some] <;> rfl) | (simp [*, errW_none, errW_some] <;> rfl), by first | exact Kd.R_nil _ _ _ _ _ | exact Kd.N_nil _ _ _ _ _ | exact Kd.V_nil _ _ _ _ _ | exact Kd.Q_nil _ _ _ _ _ | exact Kd.S_nil _ _ _ _ _, by repeat (first | (with_reducible first | exact HB.out | apply below_alloc | apply pw_below_drewN | apply below_drew1 | refine below_set ?_ GE119.out) | exact HB.out)⟩

-- NOT PRINTED: function 42 (api_Pack_42)

-- NOT PRINTED: function 43 (line_Line_acked_1)

-- NOT PRINTED: function 44 (api_Pack_44)

-- NOT PRINTED: function 30 (line_Line_acked)

-- NOT PRINTED: function 32 (line_Line_drain)

-- NOT PRINTED: function 13 (line_Line_Hear)

-- NOT PRINTED: function 15 (line_Line_Room)

-- NOT PRINTED: function 16 (line_Line_Waits)

-- NOT PRINTED: function 45 (reflectlite_ValueOf)

-- NOT PRINTED: function 46 (reflectlite_Value_Type)

-- NOT PRINTED: function 47 (reflectlite_Value_IsNil)

-- NOT PRINTED: function 52 (reflectlite_TypeOf)

-- NOT PRINTED: function 53 (reflectlite_Value_Elem)

-- NOT PRINTED: function 54 (reflectlite_Value_Set)

-- NOT PRINTED: function 48 (errors_as)

-- NOT PRINTED: function 35 (errors_As)
def api_Code.f (a0 : Option Int) : Option (Int) := some (a0.getD 0)
theorem api_Code.calls (a0 : Option Int) (r : Int) (w : World) (hGl : Aside0 (Code.Gl w)) (h : api_Code.f a0 = some r) :
    Calls Tryd.prog 20 #[errW a0] w fun e w' => e = .returned (.int .i64 r) ∧ Below w.heap.size w w' := by
  obtain rfl := Option.some.inj h
  cases a0 with
  | none => exact Code.code_nil w
  | some c => exact Code.code_some c w hGl.out

-- NOT PRINTED: function 8 (shutterlaw23_awake)
end Go.Proofs.YtafjegfmmnjpfaaDoor.YLine
end

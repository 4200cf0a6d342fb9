-- Own text, made by this session out of the translation by wip/tools/xprint.sh: Lean functions with the answers of Go functions, and their walks.
import Derived.Test.YtafjegfmmnjpfaaDoorYLinex0
namespace Go.Proofs.YtafjegfmmnjpfaaDoor.YLine
open Go.RowKit Go.Proofs.YtafjegfmmnjpfaaDoorW.PrintWords Go.Proofs.YtafjegfmmnjpfaaDoorW.PrintLast Go.Proofs.YtafjegfmmnjpfaaDoorW.PrintMore
attribute [local go_sem] max2_int min2_int max_two min_two max_three min_three max_four min_four   -- for this text's walks alone
set_option linter.unusedVariables false
set_option linter.unusedSimpArgs false

-- NOT PRINTED: function 10 (line_New)

/-! ### slices_Clone_byte_byte: function 31 -/
def slices_Clone_byte_byte.f (l0 : List Int) : Option (List Int) := (some (([] : List Int) : List Int)).bind fun y101 => (if y101.length + l0.length < 140737488355328 then (some (y101 ++ l0)) else (none))
set_option maxHeartbeats 8000000 in
set_option maxRecDepth 100000 in
theorem slices_Clone_byte_byte.calls_some (A0 : Option Addr) (c0 : Nat) (l0 : List Int) (r : List Int) (w : World) (hA : A0.isNone = false) (hr0 : Kd.C (Kd.int .u8) w A0 l0.length l0) (hc0 : l0.length ≤ c0) (h : slices_Clone_byte_byte.f l0 = some r) :
  Calls Tryd.prog 31 #[.slice A0 l0.length c0] w fun e w' => ∃ v0_ : Value, e = .returned (v0_) ∧ Kd.R (Kd.int .u8) 5 w' w.heap.size (fun _ => True) v0_ r ∧ Below w.heap.size w w' := by
 have HR0 := Aside0.mk hr0
 have HC0 := Aside0.mk hc0
 clear hr0 hc0
 have HB := Aside0.mk (Below.refl w.heap.size w)
 have H : ((some (([] : List Int) : List Int)).bind fun y101 => (if y101.length + l0.length < 140737488355328 then (some (y101 ++ l0)) else (none))) = some r := h
 clear h
 obtain ⟨y101, hy101⟩ : ∃ y_ : List Int, y_ = (([] : List Int)) := ⟨_, rfl⟩
 replace H : (if y101.length + l0.length < 140737488355328 then (some (y101 ++ l0)) else (none)) = some r := by first | (rw [hy101]; with_reducible exact H) | (have H2_ := (Option.bind_some _ _).symm.trans H; rw [hy101]; with_reducible exact H2_) | (have H2_ := (Option.bind_some _ _).symm.trans H; with_reducible exact H2_) | with_reducible exact H | (rw [hy101]; exact H) | exact H
 have Ny101 := Aside0.mk hy101
 clear hy101
 by_cases c2 : y101.length + l0.length < 140737488355328
 ·rw [if_pos c2] at H
  have LMc2 := Aside0.mk c2
  clear c2
  obtain ⟨y104, hy104⟩ : ∃ y_ : List Int, y_ = (y101 ++ l0) := ⟨_, rfl⟩
  replace H : (some y104) = some r := by first | (rw [hy104]; with_reducible exact H) | (have H2_ := (Option.bind_some _ _).symm.trans H; rw [hy104]; with_reducible exact H2_) | (have H2_ := (Option.bind_some _ _).symm.trans H; with_reducible exact H2_) | with_reducible exact H | (rw [hy104]; exact H) | exact H
  have Ny104 := Aside0.mk hy104
  clear hy104
  obtain rfl := Option.some.inj H
  have hq := fun (W : World) => Lib.run_eql_slice_nil (P := Tryd.prog) W 32 5 A0 l0.length c0 0 0 Tryd.underlying32
  go_enter Tryd.func31, Tryd.ntmps31
  go_wp2_with (first | ((with_reducible refine gate_dst (N := 5) rfl ?_); refine Kd.R_lit (Kd.int .u8) _ 5 ?hg (N := 5) ?hd (xs := ([] : List Int)) (inner := []) (ok := fun _ => True) (okp := fun _ => True) ?hr ?hp (fun _ hk => hk) trivial (Below.refl _ _) (Nat.le_refl _) (by simp) ?_; (case hd => rfl); (case hg => rfl); (case hr => first | (go_simp; done) | (go_simp; rfl)); (case hp => exact (Reps.none _ _)); intro v102 w3 ho4 hb hg_ hnew_; clear hg_ hnew_; (first | rw [← Ny101.out] at ho4 | (simp only [Int.reduceToNat] at ho4; rw [← Ny101.out] at ho4)); have n0_ := Aside0.mk (Kd.R_lower ho4 (below_size (by repeat (first | (with_reducible first | exact HB.out | apply below_alloc | apply pw_below_drewN | apply below_drew1) | exact HB.out)))); have n1_ := Aside0.mk (below_step (by repeat (first | (with_reducible first | exact HB.out | apply below_alloc | apply pw_below_drewN | apply below_drew1) | exact HB.out)) hb); clear HB; have HO103 := n0_; have HB := n1_; clear n0_ n1_; clear hb ho4) | ((with_reducible refine gate_builtin (b := .append) (xs := #[.tmp 5, .tmp 6]) rfl ?_); at_builtin; refine Kd.R_append_rows (Kd.int .u8) (w0 := w) w.heap.size rfl (.tmp 5) (.tmp 6) 32 5 (.int .u8 0) 1 rfl Tryd.underlying32 info5 rfl (by decide) (by omega) v102 y101 l0 _ _ _ (fun _ => True) (fun _ => False) rfl rfl ?aO ?aR (fun _ _ h => h) (fun _ h => h.elim) ?aF ?aB ?aS ?aL ?_; (case aR => repeat (first | exact (Kd.C_below HR0.out HB.out) | (with_reducible refine Kd.C_alloc ?_ _) | (with_reducible refine Kd.C_drewN ?_ _) | (with_reducible refine Kd.C_drew ?_))); (case aB => exact (by repeat (first | (with_reducible first | exact HB.out | apply below_alloc | apply pw_below_drewN | apply below_drew1) | exact HB.out))); (case aF => exact (fun _ _ => trivial)); (case aO => exact (by (with_reducible repeat (first | apply Kd.R_alloc | apply Kd.R_drewN | apply Kd.R_drew)); exact HO103.out)); (case aS => exact (below_size (by repeat (first | (with_reducible first | exact HB.out | apply below_alloc | apply pw_below_drewN | apply below_drew1) | exact HB.out)))); (case aL => have := LMc2.out; omega); intro v105 w5 ho hb hg hat; rw [← Ny104.out] at ho; have n0_ := Aside0.mk (hb); have n1_ := Aside0.mk (ho); clear HB; clear HO103; have HB := n0_; have HO106 := n1_; clear n0_ n1_; clear ho hb hg hat))
  go_ret
  exact ⟨_, by first | rfl | (simp [errW_none, errW_some] <;> rfl) | (simp [*, errW_none, errW_some] <;> rfl), by (with_reducible repeat (first | apply Kd.R_alloc | apply Kd.R_drewN | apply Kd.R_drew)); exact HO106.out, by repeat (first | (with_reducible first | exact HB.out | apply below_alloc | apply pw_below_drewN | apply below_drew1) | exact HB.out)⟩
 ·rw [if_neg c2] at H
  exact absurd H (by simp)


theorem slices_Clone_byte_byte.calls (A0 : Option Addr) (c0 : Nat) (l0 : List Int) (r : List Int) (w : World) (hr0 : Kd.C (Kd.int .u8) w A0 l0.length l0) (hc0 : l0.length ≤ c0) (h : slices_Clone_byte_byte.f l0 = some r) :
  Calls Tryd.prog 31 #[.slice A0 l0.length c0] w fun e w' => ∃ v0_ : Value, e = .returned (v0_) ∧ Kd.R (Kd.int .u8) 5 w' w.heap.size (fun _ => True) v0_ r ∧ Below w.heap.size w w' := by
 rcases hA : A0.isNone with _ | _
 ·exact slices_Clone_byte_byte.calls_some A0 c0 l0 r w hA hr0 hc0 h
 ·have e0 : A0 = none := by cases A0 with | none => rfl | some a => cases hA
  subst e0
  have e1 : l0 = [] := by
   rcases l0 with _ | ⟨x, xs⟩
   ·rfl
   ·obtain ⟨ad, hh, _⟩ := hr0.2.2 (by simp)
    cases hh
  subst e1
  have e2 : r = [] := by
   have h2 := h
   simp [slices_Clone_byte_byte.f] at h2
   first | exact h2 | exact h2.symm
  subst e2
  have hq := fun (W : World) (m c : Nat) => Lib.run_eql_slice_nil (P := Tryd.prog) W 32 5 none m c 0 0 Tryd.underlying32
  clear h hr0
  go_enter Tryd.func31, Tryd.ntmps31
  go_wp2
  go_ret
  exact ⟨_, rfl, Kd.R_nil _ _ _ _ _, Below.refl _ _⟩

-- NOT PRINTED: function 50 (slices_Chunk_byte_byte_1)

-- NOT PRINTED: function 38 (slices_Chunk_byte_byte)

/-! ### piece_Cut: function 25 -/
section
open Go.Shelf
attribute [local go_sem] Oper.semAt_some
namespace Chunk
/-- What has come behind k rounds. -/
def upto (k : Nat) : List Nat := List.range k
/-- What a round must keep: the two variables that the iterator reads. -/
def Kp (Bs Bn : Nat) (W W' : World) : Prop := W'.heap[Bs]? = W.heap[Bs]? ∧ W'.heap[Bn]? = W.heap[Bn]?
def size (L j : Nat) : Nat := min 64 (L - 64 * j)
def part (ad : Addr) (L j : Nat) : Value := .slice (some (ad.add (64 * j))) (size L j) (size L j)

theorem size_int (L k : Nat) (h : 64 * k < L) : (if ((L - 64 * k : Nat) : Int) < 64 then ((L - 64 * k : Nat) : Int) else 64) = (size L k : Int) := by
  unfold size
  split <;> omega
set_option maxRecDepth 100000 in
set_option maxHeartbeats 4000000 in
theorem chunk1_in (F : Fence) (n : Nat) (h30 : F.fn 50) (hro : F.round = none) (hn : 1 ≤ n) (l Bs Bn L c : Nat) (ad : Addr) (hL : 0 < L) (hLc : L ≤ c) (hreach : L ≤ 140737488351232) (J Jx : List Nat → World → Prop) (hJ : ∀ s W, J s W → J s W.drew)
    (hY : ∀ pre x W, J pre W → pre.length < (L + 63) / 64 → YieldAt F (n - 1) Tryd.prog l #[part ad L x] W fun e W' =>
      (e = .returned (.bool true) ∧ J (pre ++ [x]) W' ∧ Kp Bs Bn W W') ∨ (e = .returned (.bool false) ∧ Jx (pre ++ [x]) W'))
    (W : World) (hBs : W.cell? ⟨Bs, 0, none⟩ = some (.slice (some ad) L c)) (hBn : W.cell? ⟨Bn, 0, none⟩ = some (.int .i64 64)) (h0 : J [] W) :
    CallsIn F n Tryd.prog 50 #[.func (.yield l) #[] #[], .pointer (some ⟨Bs, 0, none⟩), .pointer (some ⟨Bn, 0, none⟩)] W fun e W' => (∃ v, e = .returned v) ∧
      ((∃ ys, ys = List.range ((L + 63) / 64) ∧ J ys W') ∨ (∃ pre, True ∧ Jx pre W')) := by
  refine callsIn_of_wp Tryd.func50 rfl h30 ?_ hro
  simp only [Tryd.ntmps50, List.size_toArray, List.length_cons, List.length_nil, Nat.reduceAdd, Nat.reduceSub, Array.replicate_succ, Array.replicate_zero, List.push_toArray, List.append_toArray, List.nil_append, List.cons_append]
  gi_wp2
  gi_loopw [4, 5] (fun i _ wr => ∃ k : Nat, k ≤ (L + 63) / 64 ∧ i = .int .i64 (64 * (k : Int)) ∧ J (List.range k) wr ∧ Kp Bs Bn W wr)
    (fun i _ _ => 64 * L + 64 - (intOf i).toNat)
  case atStart => exact ⟨0, Nat.zero_le _, rfl, h0, rfl, rfl⟩
  case round =>
    obtain ⟨k, hk, rfl, hJs, hnx⟩ := hrel
    have hcs : wr.cell? ⟨Bs, 0, none⟩ = some (.slice (some ad) L c) := (World.cell?_of_block hnx.1).trans hBs
    have hcn : wr.cell? ⟨Bn, 0, none⟩ = some (.int .i64 64) := (World.cell?_of_block hnx.2).trans hBn
    by_cases hlt : 64 * k < L
    · have hd : decide (64 * (k : Int) < (L : Int)) = true := decide_eq_true (by omega)
      have f1 : 0 ≤ 64 * (k : Int) := by omega
      have f2 : 64 * (k : Int) ≤ (L : Int) := by omega
      have f3 := Aside0.mk (show ¬ c = 64 * k by omega)
      have hto := Lib.hid (show (64 * (k : Int)).toNat = 64 * k by omega)
      have hmin := Lib.hid (size_int L k hlt)
      have g0 : (0 : Int) ≤ (size L k : Int) := by omega
      have g1 : 64 * (k : Int) ≤ 64 * (k : Int) + (size L k : Int) := by omega
      have g2 : 64 * (k : Int) + (size L k : Int) ≤ (c : Int) := by unfold size; omega
      have g3 : 64 * (k : Int) + (size L k : Int) ≤ 140737488351232 := by unfold size; omega
      have g4 : 64 * (k : Int) ≤ (c : Int) := by omega
      have g5 : ¬ size L k = 0 := by unfold size; omega
      obtain ⟨fn, tmps, assign, body, hy, hR⟩ := hY _ k wr.drew (hJ _ _ hJs) (by rw [List.length_range]; omega)
      unfold part at hy
      gi_wp2
      gi_region
      all_goals (simp only [hto.out, if_neg f3.out, hmin.out])
      all_goals gi_wp2
      all_goals
        refine hR.mono ?_
        rintro e W3 (⟨rfl, hJ3, hk3⟩ | ⟨rfl, hJx3⟩)
        · have hcn3 : W3.cell? ⟨Bn, 0, none⟩ = some (.int .i64 64) := (World.cell?_of_block hk3.2).trans (by simpa using hcn)
          gi_wp2
          go_roundw
          case rel => exact ⟨k + 1, by omega, by go_num, by rw [List.range_succ]; exact hJ3, hk3.1.trans hnx.1, hk3.2.trans hnx.2⟩
          case measure => simp [intOf]; omega
        · gi_wp2
          refine bodyPost_ret (results_none rfl _ _ _) rfl ?_
          exact ⟨⟨_, rfl⟩, .inr ⟨_, trivial, hJx3⟩⟩
    · obtain rfl : k = (L + 63) / 64 := by omega
      have hd : decide (64 * (((L + 63) / 64 : Nat) : Int) < (L : Int)) = false := decide_eq_false (by omega)
      gi_wp2
      go_end0
      exact ⟨⟨_, rfl⟩, .inl ⟨_, rfl, hJs⟩⟩
section
variable {P : Program} {ops : Array Oper} {Q : Exit → Act → World → Prop} {md : Region.Mode}
/-- In a round of a loop, at the wide fence, an operation goes as everywhere. -/
theorem oper_in {l n : Nat} {o : Oper} {a : Act} {w : World} {K : Act → World → Prop} (hd : ∀ c, o.op ≠ .defer c) (h : o.wp P a w K Q) : o.wpIn (Fence.wide.inRound l) n P a w K Q := by
  refine ⟨fun f _ => trivial, ?_⟩
  rw [Fence.inRound_round, Oper.semAt_some l _ _ hd]
  unfold Oper.wp at h
  generalize (execOp a.eval o).run P w = r at *
  cases r with
  | ok x w' =>
    cases x with
    | enter f args =>
      refine ⟨(fun hh => absurd hh (by simp [Fence.inRound, Fence.wide])), CallsIn.inRound l (callsIn_wide.2 (Calls.mono h ?_))⟩
      intro e w2 he
      cases e <;> exact he
    | row r args => exact ⟨(fun hh => absurd hh (by simp [Fence.inRound, Fence.wide])), (fun c cs _ => let ⟨v, w', r, s⟩ := h c cs; ⟨v, w', r, stepsIn_wide.2 s⟩)⟩
    | _ => first | exact h | exact h.elim
  | halt x w' => cases x <;> simp only [Oper.upon, Oper.uponIn] at h ⊢ <;> exact h
theorem any_in {l n : Nat} (hd : ∀ (i : Nat) (o : Oper), ops[i]? = some o → ∀ c, o.op ≠ .defer c) (hQ : ¬ LetsOut Q) : ∀ (fuel : Nat) (listed : Array Bool) (a : Act) (w : World), wpAny P md ops Q fuel listed a w → wpAnyIn (Fence.wide.inRound l) n P md ops Q fuel listed a w
  | 0, _, _, _, h => h
  | fuel + 1, listed, a, w, h => by
    refine ⟨h.1, fun i hi => ?_⟩
    have h1 := h.2 i hi
    unfold wpOp at h1
    unfold wpOpIn
    cases ho : ops[i]? with
    | none => simp only [ho] at h1 ⊢; exact any_in hd hQ fuel _ _ _ h1
    | some o =>
      simp only [ho] at h1 ⊢
      split
      · rename_i hw
        rw [if_pos hw] at h1
        rcases h1 with h1 | h1
        · exact oper_in (hd i o ho) (Oper.wp_mono (fun a' w' => any_in hd hQ fuel _ a' w') h1)
        · exact absurd h1.2 hQ
      · rename_i hw
        rw [if_neg hw] at h1
        exact ⟨fun f _ => trivial, any_in hd hQ fuel _ _ _ h1⟩
end

set_option maxHeartbeats 1000000 in
theorem chunk_in (n : Nat) (A : Option Addr) (L c : Nat) (w : World) :
    CallsIn Fence.wide n Tryd.prog 38 #[.slice A L c, .int .i64 64] w fun e w' => e = .returned (.func (.func 50) #[] #[.pointer (some ⟨w.heap.size, 0, none⟩), .pointer (some ⟨w.heap.size + 1, 0, none⟩)]) ∧ w' = (w.alloc (.cells #[.slice A L c] 32)).alloc (.cells #[.int .i64 64] 3) := by
  refine callsIn_of_wp Tryd.func38 rfl trivial ?_ rfl
  simp only [Tryd.ntmps38, List.size_toArray, List.length_cons, List.length_nil, Nat.reduceAdd, Nat.reduceSub, Array.replicate_succ, Array.replicate_zero, List.push_toArray, List.append_toArray, List.nil_append, List.cons_append]
  gi_wp2
  go_ret
  exact ⟨rfl, rfl⟩

theorem chunk_stops (n : Nat) (hn : 1 ≤ n) (Bs Bn L c : Nat) (ad : Addr) (hL : 0 < L) (hLc : L ≤ c) (hreach : L ≤ 140737488351232) (w : World) (hb : Bs < w.heap.size) (hb2 : Bn < w.heap.size) (hBs : w.cell? ⟨Bs, 0, none⟩ = some (.slice (some ad) L c)) (hBn : w.cell? ⟨Bn, 0, none⟩ = some (.int .i64 64)) :
    SeqStopsK Fence.wide n Tryd.prog 50 #[.pointer (some ⟨Bs, 0, none⟩), .pointer (some ⟨Bn, 0, none⟩)] (fun j : Nat => #[part ad L j]) (Kp Bs Bn) (fun ys => ys = List.range ((L + 63) / 64)) (fun _ => True) ((L + 63) / 64) w := fun l J Jx W hW hJ _ hY h0 => by
  refine (chunk1_in Fence.wide n trivial rfl hn l Bs Bn L c ad hL hLc hreach J Jx (fun s W' h => hJ s W' W'.drew none h ⟨rfl, rfl, rfl, Nat.le_refl _, fun k hk _ => rfl⟩ (fun r e => by cases e)) hY W ((hW.cell (p := ⟨Bs, 0, none⟩) hb).trans hBs) ((hW.cell (p := ⟨Bn, 0, none⟩) hb2).trans hBn) h0).mono ?_
  rintro e W' ⟨he, ⟨ys, hy, hj⟩ | ⟨pre, _, hj⟩⟩
  · exact ⟨he, .inl ⟨ys, hy, hj⟩⟩
  · exact ⟨he, .inr ⟨pre, trivial, hj⟩⟩
theorem kp_t {Bs Bn : Nat} {A B C : World} (h : Kp Bs Bn A B) (k : Kp Bs Bn B C) : Kp Bs Bn A C := ⟨k.1.trans h.1, k.2.trans h.2⟩
theorem kp_b {Bs Bn : Nat} {w : World} (h1 : Bs < w.heap.size) (h2 : Bn < w.heap.size) (W : World) (l : Nat) (o o' : Obj) (hl : w.heap.size ≤ l) (h : W.heap[l]? = some o) (_ : o.isCells = false) (_ : o.isWalk = false) : Kp Bs Bn W (W.putObj l o') :=
  ⟨World.putObj_heap_other (by omega), World.putObj_heap_other (by omega)⟩
def chunk (l0 : List Int) (j : Nat) : List Int := (l0.drop (64 * j)).take 64
theorem chunk_length (l0 : List Int) (j : Nat) : (chunk l0 j).length = size l0.length j := by
  unfold chunk size; rw [List.length_take, List.length_drop]
def piece (l0 : List Int) (e : Nat × Nat) : S37 := ⟨0, (e.2 : Int) + 1, false, chunk l0 e.1⟩
def packs (l0 : List Int) (pre : List Nat) : List S37 := pre.zipIdx.map (piece l0)
/-- The pieces of a message that may be. -/
def cutL (l0 : List Int) : List S37 := (List.range ((l0.length + 63) / 64)).map fun (j : Nat) => (⟨0, (j : Int) + 1, decide (j + 1 = (l0.length + 63) / 64), chunk l0 j⟩ : S37)
theorem packs_length (l0 : List Int) (pre : List Nat) : (packs l0 pre).length = pre.length := by unfold packs; rw [List.length_map, List.length_zipIdx]
theorem packs_snoc (l0 : List Int) (pre : List Nat) (x : Nat) : packs l0 (pre ++ [x]) = packs l0 pre ++ [⟨0, ((packs l0 pre).length : Int) + 1, false, chunk l0 x⟩] := by
  rw [packs_length]; unfold packs; rw [List.zipIdx_append, List.map_append]; simp [piece]
theorem chunk_C {w : World} {ad : Addr} {l0 : List Int} (h : Kd.C (Kd.int .u8) w (some ad) l0.length l0) (j : Nat) : Kd.C (Kd.int .u8) w (some (ad.add (64 * j))) (chunk l0 j).length (chunk l0 j) := by
  obtain ⟨h1, h2, h3⟩ := h
  have hl := chunk_length l0 j
  have hle : size l0.length j ≤ l0.length := by unfold size; omega
  refine ⟨rfl, by omega, fun hp => ⟨_, rfl, fun i p hi => ?_⟩⟩
  have hpos : 0 < l0.length := by omega
  obtain ⟨ad', e, hc⟩ := h3 hpos
  cases e
  have hi2 : l0[64 * j + i]? = some p := by
    unfold chunk at hi
    rw [List.getElem?_take] at hi
    split at hi
    · rw [List.getElem?_drop] at hi; exact hi
    · cases hi
  obtain ⟨c, hcl, hr, hcc⟩ := hc _ _ hi2
  refine ⟨c, hcl, hr, fun t u hu => ?_⟩
  have := hcc t u hu
  rw [add_add]
  rw [show 64 * j + (i * (Kd.int .u8).sz + t) = (64 * j + i) * (Kd.int .u8).sz + t by show 64 * j + (i * 1 + t) = (64 * j + i) * 1 + t; omega]
  exact this
theorem keeps_below {W W' : World} (h : Below W.heap.size W W') : KeepsOthers W W' := ⟨h.size, fun k o hk _ => (h.block k (Array.getElem?_eq_some_iff.1 hk).1).trans hk⟩
theorem zipIdx_set {α : Type} (xs : List α) (i : Nat) (x : α) : xs.zipIdx.set i (x, i) = (xs.set i x).zipIdx := by
  apply List.ext_getElem?
  intro j
  rw [List.getElem?_set, List.getElem?_zipIdx, List.getElem?_zipIdx, List.getElem?_set, List.length_zipIdx]
  by_cases h : i = j
  · subst h
    by_cases h2 : i < xs.length
    · simp [h2]
    · simp [h2]
  · simp [h]
theorem cutL_eq (l0 : List Int) (n : Nat) (hn : n + 1 = (l0.length + 63) / 64) : (packs l0 (List.range (n + 1))).set n ⟨0, (n : Int) + 1, true, chunk l0 n⟩ = cutL l0 := by
  unfold cutL packs
  rw [← hn]
  apply List.ext_getElem?
  intro j
  by_cases hj : j < n + 1
  · by_cases h : n = j
    · subst h
      rw [List.getElem?_set_self (by simp), List.getElem?_map, List.getElem?_range hj]; simp
    · rw [List.getElem?_set_ne h, List.getElem?_map, List.getElem?_zipIdx, List.getElem?_map, List.getElem?_range hj]
      simp [piece]; omega
  · rw [List.getElem?_eq_none (by simp <;> omega), List.getElem?_eq_none (by simp <;> omega)]
def noDefer (ops : Array Oper) : Bool := ops.all fun o => match o.op with | .defer _ => false | _ => true
theorem noDefer_spec {ops : Array Oper} (h : noDefer ops = true) : ∀ (i : Nat) (o : Oper), ops[i]? = some o → ∀ c, o.op ≠ .defer c := by
  intro i o ho c hc
  have := Array.all_eq_true_iff_forall_mem.1 h o (Array.mem_of_getElem? ho)
  rw [hc] at this
  cases this
theorem clone_f {l : List Int} (h : l.length ≤ 8192) : slices_Clone_byte_byte.f l = some l := by
  unfold slices_Clone_byte_byte.f
  simp only [Option.bind_some, List.length_nil, List.nil_append]
  rw [if_pos (by omega)]
/-- What the loop's box and the row in it are. -/
def Inv (l0 : List Int) (w : World) (B base Y : Nat) (pre : List Nat) (W : World) : Prop :=
  (∃ v, Boxed W B 28 v ∧ Kd.S k37 37 W Y (fun _ => True) v (packs l0 pre)) ∧ Below base w W ∧ Y ≤ W.heap.size
theorem inv_own (l0 : List Int) (w : World) (B base Y Z : Nat) (hb : base ≤ w.heap.size) (hY : base ≤ Z) : OwnFrom Z (Inv l0 w B base Y) := by
  rintro pre X Z row ⟨⟨v, hv, hS⟩, hB, hZ⟩ hg hr
  refine ⟨⟨v, hv.kept hg (fun e => ?_), Kd.S_mono (Kd.S_step (Kd.S_bound hS) (fun k hk hlt => hg.block k hlt (fun e => ?_))) (fun _ _ => trivial)⟩, hB.grown hg (Nat.le_trans hb hB.size) (fun k e => Nat.le_trans hY (hr k e).1), Nat.le_trans hZ hg.size⟩
  · obtain ⟨_, o, ho, hc⟩ := hr B e.symm
    rw [show X.heap[B]? = _ from hv] at ho; cases ho; cases hc
  · obtain ⟨_, _, _, q, _, cells, hc⟩ := hk
    obtain ⟨_, o, ho, hn⟩ := hr k e.symm
    rw [hc] at ho; cases ho; cases hn

set_option maxRecDepth 100000 in
set_option maxHeartbeats 8000000 in
theorem cut_good (ad : Addr) (c : Nat) (l0 : List Int) (w : World) (hr0 : Kd.C (Kd.int .u8) w (some ad) l0.length l0) (hc0 : l0.length ≤ c) (h1 : 0 < l0.length) (h2 : l0.length ≤ 8192) :
    CallsIn Fence.wide 5 Tryd.prog 25 #[.slice (some ad) l0.length c] w fun e w' => ∃ v0_ : Value, e = .returned (.tuple #[v0_, .nilIface]) ∧ Kd.S k37 37 w' w.heap.size (fun _ => True) v0_ (cutL l0) ∧ Below w.heap.size w w' := by
  have k1 : ((l0.length : Int) == 0) = false := beq_eq_false_iff_ne.2 (by omega)
  have k2 : decide (8192 < (l0.length : Int)) = false := decide_eq_false (by omega)
  have H1 := Aside0.mk h1
  have H2 := Aside0.mk h2
  clear h1 h2
  refine callsIn_of_wp_marks Tryd.func25 rfl trivial ?_ rfl
  simp only [Tryd.ntmps25, List.size_toArray, List.length_cons, List.length_nil, Nat.reduceAdd, Nat.reduceSub, Array.replicate_succ, Array.replicate_zero, List.push_toArray, List.append_toArray, List.nil_append, List.cons_append]
  gi_wp2_with (refine ⟨trivial, ?_⟩; gi_at_call 38; refine (chunk_in _ _ _ _ _).mono ?_; rintro e w' ⟨rfl, rfl⟩)
  have hs : ((w.alloc (.cells #[.slice none 0 0] 28)).alloc (.cells #[.slice (some ad) l0.length c] 32)).cell? ⟨w.heap.size + 1, 0, none⟩ = some (.slice (some ad) l0.length c) := by
    have := (Boxed.new (w.alloc (.cells #[.slice none 0 0] 28)) 32 (.slice (some ad) l0.length c)).cell
    rwa [World.size_alloc] at this
  have hs2 : (((w.alloc (.cells #[.slice none 0 0] 28)).alloc (.cells #[.slice (some ad) l0.length c] 32)).alloc (.cells #[.int .i64 64] 3)).cell? ⟨w.heap.size + 1, 0, none⟩ = some (.slice (some ad) l0.length c) := by
    rw [World.cell?_alloc_lt _ _ _ (by simp)]; exact hs
  have hn : (((w.alloc (.cells #[.slice none 0 0] 28)).alloc (.cells #[.slice (some ad) l0.length c] 32)).alloc (.cells #[.int .i64 64] 3)).cell? ⟨w.heap.size + 1 + 1, 0, none⟩ = some (.int .i64 64) := by
    have := (Boxed.new ((w.alloc (.cells #[.slice none 0 0] 28)).alloc (.cells #[.slice (some ad) l0.length c] 32)) 3 (.int .i64 64)).cell
    rwa [World.size_alloc, World.size_alloc] at this
  have hstops := chunk_stops 4 (by omega) (w.heap.size + 1) (w.heap.size + 1 + 1) l0.length c ad H1.out hc0 (by have := H2.out; omega) (((w.alloc (.cells #[.slice none 0 0] 28)).alloc (.cells #[.slice (some ad) l0.length c] 32)).alloc (.cells #[.int .i64 64] 3)) (by simp <;> omega) (by simp) hs2 hn
  clear hs hs2 hn
  refine wpIn_rangeFunc_ownF rfl (by omega) (gf := 50) (lb := #[.pointer (some ⟨w.heap.size + 1, 0, none⟩), .pointer (some ⟨w.heap.size + 1 + 1, 0, none⟩)]) rfl trivial (enters_of Tryd.func50 (by kernel_rfl) rfl)
    hstops kp_t (kp_b (by simp <;> omega) (by simp)) (Below.refl _ _) (fun _ => rfl)
    (Inv l0 w w.heap.size w.heap.size (w.heap.size + 3)) (fun _ _ _ => False) (inv_own l0 w _ _ _ _ (Nat.le_refl _) (by simp <;> omega)) (fun _ _ _ _ _ hs _ _ => hs)
    ?start (fun x => { tmps := #[.slice (some ad) l0.length c, undef, .slice none 0 0, .nilIface, .pointer (some ⟨w.heap.size, 0, none⟩), part ad l0.length x, .bool false, .slice (some ad) l0.length c, .int .i64 l0.length, .bool false, undef, .bool false, .slice (some ad) l0.length c, .int .i64 l0.length, .bool false, undef, .slice (some ad) l0.length c, .func (.func 50) #[] #[.pointer (some ⟨w.heap.size + 1, 0, none⟩), .pointer (some ⟨w.heap.size + 1 + 1, 0, none⟩)], part ad l0.length x, undef, undef, undef, undef, undef, undef, undef, undef, undef, undef, undef, undef, undef, undef, undef, undef], defers := [] }) ?assign ?body ?done ?stop
  case start => exact ⟨⟨_, ((Boxed.new w 28 (.slice none 0 0)).alloc _).alloc _, Kd.S_nil _ _ _ _ _⟩, (((Below.refl _ _).alloc (Nat.le_refl _) _).alloc (by simp) _).alloc (by simp <;> omega) _, by simp⟩
  case assign =>
    intro l x W K hK
    gi_wp2
    exact hK
  case stop =>
    rintro D c pre W _ _ h _
    exact h.elim
  case body =>
    rintro l pre x W ⟨⟨v, hbx, hS⟩, hB, hZ⟩ hlen
    gi_wp2
    refine wpIn_region_any (by kernel_rfl) ?_
    refine any_in (noDefer_spec (by kernel_rfl)) (by rintro ⟨a, w, h⟩; exact h) _ _ _ _ ?_
    obtain ⟨Ao, co, rfl⟩ := Kd.S_slice hS
    have hlen' := packs_length l0 pre
    have hnl := Aside0.mk (show (packs l0 pre).length ≤ 128 by have := H2.out; omega)
    obtain ⟨xs, hxs⟩ : ∃ xs, packs l0 pre = xs := ⟨_, rfl⟩
    have hx0 : (0 : Int) ≤ (xs.length : Int) := by omega
    have hx1 : (xs.length : Int) ≤ 128 := by have := hnl.out; rw [hxs] at this; omega
    have hw1 := Aside0.mk (show wrap64 ((xs.length : Int) + 1) = (xs.length : Int) + 1 by unfold wrap64; omega)
    have hsn := Lib.hid (packs_snoc l0 pre x)
    rw [hxs] at hS hnl hsn hbx
    clear hlen hlen'
    refine wpAny_of_last (S := fun w' => w'.cell? ⟨w.heap.size, 0, none⟩ = some (.slice Ao xs.length co)) (ds := [9]) _ _ _ _ ?_
    change wpAnyLast _ .any _ _ _ _ 10 #[false, false, false, false, false, false, false, false, false, false] _ W.drew
    refine with_tabW (T := rtab .any (opsOf Tryd.f25 8)) (B := [0, 0, 2, 6, 0, 16, 62, 126, 255, 511]) (by kernel_rfl) (by kernel_rfl) (fun HT_ HW_ => ?_)
    have HBX : Aside0 (Boxed W.drew w.heap.size 28 (.slice Ao xs.length co)) := ⟨hbx⟩
    have HS := Aside0.mk (Kd.S_drew hS)
    have HB := Aside0.mk (hB.drew)
    have HKO := Aside0.mk (KeepsOthers.drew W)
    have HZ := Aside0.mk (show w.heap.size + 3 ≤ W.drew.heap.size from hZ)
    have HKP := Aside0.mk (show Kp (w.heap.size + 1) (w.heap.size + 1 + 1) W W.drew from ⟨rfl, rfl⟩)
    have hHeld : W.drew.cell? ⟨w.heap.size, 0, none⟩ = some (.slice Ao xs.length co) := HBX.out.cell
    have HC := Aside0.mk (chunk_C (Kd.C_below hr0 HB.out) x)
    have HSZ := Aside0.mk (chunk_length l0 x)
    have hpart : part ad l0.length x = .slice (some (ad.add (64 * x))) (chunk l0 x).length (chunk l0 x).length := by unfold part; rw [chunk_length]
    rw [hpart]
    clear hS hbx hB hpart hZ
    generalize W.drew = W1 at HBX HS HB HKO HZ HKP hHeld HC ⊢
    refine take_ (i := 0) (N := some 19) (v := ?_) (a' := ?_) #[true, false, false, false, false, false, false, false, false, false] rfl rfl (take_ofW HT_.out HW_.out (by kernel_rfl)) (fun _ _ _ h => h) (Or.inl ⟨by rfl, ?_⟩) hHeld ?_ ?_
    rotate_left
    · intro w' s0
      go_simp
      with_reducible rfl
    rotate_left
    · simp only [Act.put, List.setIfInBounds_toArray, List.set_cons_zero, List.set_cons_succ, i64_w, i32_w]
      rfl
    refine take_ (i := 1) (N := some 20) (v := ?_) (a' := ?_) #[true, true, false, false, false, false, false, false, false, false] rfl rfl (take_ofW HT_.out HW_.out (by kernel_rfl)) (fun _ _ _ h => h) (Or.inl ⟨by rfl, ?_⟩) hHeld ?_ ?_
    rotate_left
    · intro w' s0
      go_simp
      with_reducible rfl
    rotate_left
    · simp only [Act.put, List.setIfInBounds_toArray, List.set_cons_zero, List.set_cons_succ, i64_w, i32_w]
      rfl
    refine pure_ (i := 2) (N := some 21) (v := ?_) (a' := ?_) #[true, true, true, false, false, false, false, false, false, false] rfl rfl (any_of HT_.out (by kernel_rfl)) (fun _ _ _ h => h) (Or.inl ⟨by rfl, ?_⟩) ?_ ?_
    rotate_left
    · intro w'
      go_simp
      with_reducible rfl
    rotate_left
    · simp only [Act.put, List.setIfInBounds_toArray, List.set_cons_zero, List.set_cons_succ, i64_w, i32_w]
      rfl
    refine pure_ (i := 3) (N := some 22) (v := ?_) (a' := ?_) #[true, true, true, true, false, false, false, false, false, false] rfl rfl (any_of HT_.out (by kernel_rfl)) (fun _ _ _ h => h) (Or.inl ⟨by rfl, ?_⟩) ?_ ?_
    rotate_left
    · intro w'
      go_simp
      with_reducible rfl
    rotate_left
    · simp only [Act.put, List.setIfInBounds_toArray, List.set_cons_zero, List.set_cons_succ, i64_w, i32_w, hw1.out]
      rfl
    refine pure_ (i := 4) (N := some 23) (v := ?_) (a' := ?_) #[true, true, true, true, true, false, false, false, false, false] rfl rfl (any_of HT_.out (by kernel_rfl)) (fun _ _ _ h => h) (Or.inl ⟨by rfl, ?_⟩) ?_ ?_
    rotate_left
    · intro w'
      go_simp
      with_reducible rfl
    rotate_left
    · simp only [Act.put, List.setIfInBounds_toArray, List.set_cons_zero, List.set_cons_succ, i64_w, i32_w]
      rfl
    refine one_ (i := 5) (N := some 24) #[true, true, true, true, true, true, false, false, false, false] rfl rfl (one_of HT_.out (by kernel_rfl)) (by decide) (fun K hK => ?_)
    refine goes_ Tryd.func31 (by kernel_rfl) rfl #[.slice (some (ad.add (64 * x))) (chunk l0 x).length (chunk l0 x).length] (by rfl) rfl rfl (by (try simp only [List.map_toArray, List.map_cons, List.map_nil]); first | done | rfl) ?_
    refine (slices_Clone_byte_byte.calls _ _ (chunk l0 x) (chunk l0 x) _ HC.out (Nat.le_refl _) (clone_f (by have := HSZ.out; unfold size at this; omega))).mono ?_
    rintro e w6 ⟨v24, rfl, ho, hb⟩
    refine ⟨_, rfl, ?_⟩
    obtain ⟨A24, c24, rfl⟩ := Kd.R_slice ho
    have hnb : ∀ k, (Value.slice A24 (chunk l0 x).length c24).ownBlock = some k → W1.heap.size ≤ k := Kd.R_base ho
    have hbs := HB.out.size
    have n0 := Aside0.mk (Kd.S_elder' HS.out hnb hb)
    have n1 := Aside0.mk (Kd.R_tight rfl (Kd.R_lower ho HZ.out))
    have n2 : Aside0 (Boxed w6 w.heap.size 28 (.slice Ao xs.length co)) := ⟨(hb.block _ HBX.out.lt).trans HBX.out⟩
    have n3 := Aside0.mk (below_step HB.out hb)
    have n4 := Aside0.mk (HKO.out.trans (keeps_below hb))
    have n5 := Aside0.mk (kp_t HKP.out ⟨hb.block _ (by have := HZ.out; omega), hb.block _ (by have := HZ.out; omega)⟩)
    have n7 := Aside0.mk (Nat.le_trans HZ.out hb.size)
    have hlt := Kd.S_lt HS.out
    have n6 : Aside0 (∀ k, some k = (Value.slice A24 (chunk l0 x).length c24).ownBlock → True ∧ some k ≠ (Value.slice Ao xs.length co).ownBlock) := ⟨fun k hk => ⟨trivial, fun e => by have a1 := hnb k hk.symm; have a2 := hlt k e.symm; omega⟩⟩
    clear HS HBX HB HKO HKP HZ HC hnb hbs hlt ho hb
    refine hK.out _ _ n2.out.cell (fun hHeld => ?_)
    clear hK K
    refine norm_ (a' := ?_) ?_ ?_
    rotate_left
    · show Act.put _ (some 24) _ = _
      simp only [Act.put, List.setIfInBounds_toArray, List.set_cons_zero, List.set_cons_succ, i64_w, i32_w]
      rfl
    refine pure_ (i := 6) (N := some 25) (v := ?_) (a' := ?_) #[true, true, true, true, true, true, true, false, false, false] rfl rfl (any_of HT_.out (by kernel_rfl)) (fun _ _ _ h => h) (Or.inl ⟨by rfl, ?_⟩) ?_ ?_
    rotate_left
    · intro w'
      go_simp
      with_reducible rfl
    rotate_left
    · simp only [Act.put, List.setIfInBounds_toArray, List.set_cons_zero, List.set_cons_succ, i64_w, i32_w]
      rfl
    refine one_ (i := 7) (N := some 26) #[true, true, true, true, true, true, true, true, false, false] rfl rfl (one_of HT_.out (by kernel_rfl)) (by decide) (fun K hK => ?_)
    refine value_ (v := .slice (some ⟨w6.heap.size, 0, none⟩) 1 1) (w1 := w6.alloc (.cells #[.int .i64 0, .int .i64 ((xs.length : Int) + 1), .bool false, .slice A24 (chunk l0 x).length c24] 37)) rfl rfl ?run7 ?_
    case run7 =>
      first | (go_simp; done) | (go_simp; rfl)
    refine hK.out _ _ (by rw [World.cell?_alloc_lt _ _ _ n2.out.lt]; exact n2.out.cell) (fun hHeld => ?_)
    clear hK K
    refine norm_ (a' := ?_) ?_ ?_
    rotate_left
    · show Act.put _ (some 26) _ = _
      simp only [Act.put, List.setIfInBounds_toArray, List.set_cons_zero, List.set_cons_succ, i64_w, i32_w]
      rfl
    refine one_ (i := 8) (N := some 27) #[true, true, true, true, true, true, true, true, true, false] rfl rfl (one_of HT_.out (by kernel_rfl)) (by decide) (fun K hK => ?_)
    refine Kd.S_append_step k37 (w0 := w6) (w.heap.size + 3) rfl (.tmp 19) (.tmp 26) 28 37 (.agg #[.int .i64 0, .int .i64 0, .bool false, .slice none 0 0]) 48 rfl Tryd.underlying28 info37 rfl (by decide) (by omega) (.slice Ao xs.length co) xs ⟨0, (xs.length : Int) + 1, false, chunk l0 x⟩ [.int .i64 0, .int .i64 ((xs.length : Int) + 1), .bool false, .slice A24 (chunk l0 x).length c24] (fun _ => True) (fun k => some k = (Value.slice A24 (chunk l0 x).length c24).ownBlock) rfl rfl (k37_mkM _ _ _ _ n1.out) n6.out (fun _ _ => trivial) (Kd.S_mono n0.out (fun k hk => ⟨trivial, hk.2⟩)) (Below.refl _ _) n7.out (by have := hnl.out; omega) ?_
    intro v1 w8 hs8 hb8 hg8 hat8
    obtain ⟨A1, c1, rfl⟩ := Kd.S_slice hs8
    have hne : some w.heap.size ≠ (Value.slice Ao xs.length co).ownBlock := Kd.S_ne (Kd.S_drop n0.out) n2.out (by decide)
    have m0 : Aside0 (Boxed w8 w.heap.size 28 (.slice Ao xs.length co)) := ⟨n2.out.kept hg8 hne⟩
    have m1 := Aside0.mk (n4.out.trans (KeepsOthers.of_grownBy hg8 (fun j o e ho => by obtain ⟨cells, hc⟩ := Kd.S_typed n0.out j e; rw [hc] at ho; cases ho; rfl)))
    have m2 := Aside0.mk (kp_t n5.out ⟨hg8.block _ (by have := n7.out; omega) (fun e => by have := Kd.S_base n0.out _ e.symm; omega), hg8.block _ (by have := n7.out; omega) (fun e => by have := Kd.S_base n0.out _ e.symm; omega)⟩)
    have m3 := Aside0.mk (n3.out.grown hg8 n3.out.size (fun k e => by have := Kd.S_base n0.out k e; omega))
    refine hK.out _ _ m0.out.cell (fun hHeld => ?_)
    clear hK K
    refine norm_ (a' := ?_) ?_ ?_
    rotate_left
    · show Act.put _ (some 27) _ = _
      simp only [Act.put, List.setIfInBounds_toArray, List.set_cons_zero, List.set_cons_succ, i64_w, i32_w]
      rfl
    refine last_ (i := 9) (N := none) #[true, true, true, true, true, true, true, true, true, true] rfl rfl (one_of HT_.out (by kernel_rfl)) (by decide) (fun K hK => ?_)
    have hf9 := m0.out.frozen
    refine skip_ (w1 := w8.setCell ⟨w.heap.size, 0, none⟩ (.slice A1 (xs ++ [(⟨0, (xs.length : Int) + 1, false, chunk l0 x⟩ : S37)]).length c1)) rfl rfl (by go_simp) ?_
    refine hK.out _ _ ?_
    clear hK K
    refine done_ (done_of HT_.out (by kernel_rfl)) ?_
    refine ⟨m1.out.trans (KeepsOthers.setCell _ _ _), kp_t m2.out ⟨Below.heap_setCell _ _ _ _ (by show w.heap.size + 1 ≠ w.heap.size; omega), Below.heap_setCell _ _ _ _ (by show w.heap.size + 1 + 1 ≠ w.heap.size; omega)⟩, ⟨_, m0.out.set _, ?_⟩, m3.out.setCell (p := ⟨w.heap.size, 0, none⟩) (Nat.le_refl _) _, Nat.le_trans n7.out (Nat.le_trans hg8.size (KeepsOthers.setCell w8 ⟨w.heap.size, 0, none⟩ _).size)⟩
    rw [hsn.out]
    exact Kd.S_set hs8 m0.out (by decide) 0 _
  case done =>
    rintro D xs W hD rfl ⟨⟨v, hbx, hS⟩, hB, hZ⟩ hK
    have hlen' := packs_length l0 (List.range ((l0.length + 63) / 64))
    obtain ⟨n, hn⟩ : ∃ n, n + 1 = (l0.length + 63) / 64 := ⟨(l0.length + 63) / 64 - 1, by have := H1.out; omega⟩
    rw [← hn] at hS hlen'
    rw [List.length_range] at hlen'
    have hfin := Lib.hid (cutL_eq l0 n hn)
    obtain ⟨g, cap, rfl, hg1, hg2, cells, hgc⟩ := Kd.S_form hS (by omega)
    obtain ⟨f, hR⟩ := hS
    rw [hlen'] at hbx hR
    have hget : (packs l0 (List.range (n + 1))).zipIdx.getD (n : Int).toNat (z37, 0) = ((⟨0, (n : Int) + 1, false, chunk l0 n⟩ : S37), n) := by
      rw [Int.toNat_natCast, List.getD_eq_getElem?_getD, List.getElem?_zipIdx]
      unfold packs
      rw [List.getElem?_map, List.getElem?_zipIdx, List.getElem?_range (by omega)]
      simp [piece]
    obtain ⟨cs, hcl, hM, hcc, hcf⟩ := Kd.R_elem hR (z37, 0) (n : Int) (by omega) (by omega)
    rw [hget] at hM
    obtain ⟨v3, rfl, h3⟩ := k37_openM hM
    have hdg : D ≠ g := fun e => by rw [e, hgc] at hK; cases hK
    have hbg : w.heap.size ≠ g := fun e => by have := hbx; unfold Boxed at this; rw [e, hgc] at this; cases this
    have hcb := hbx.cell
    have HBX := Aside0.mk hbx
    have HR := Aside0.mk hR
    have HCC := Aside0.mk hcc
    have H3 := Aside0.mk h3
    have HFIN := hfin
    have HGET := Aside0.mk (packs_length l0 (List.range (n + 1)))
    have HN := Aside0.mk hn
    have hn2 : (n : Int) ≤ 200 := by have := H2.out; omega
    clear hfin hget hM hcc hcf h3 hR hbx hlen' hn
    rename_i hgo
    refine hgo _ _ (wpIn_wide.2 ?_)
    go_wp2_with ((with_reducible refine gate_store (t := 4) (p := 33) rfl ?_); refine Kd.R_store (Kd.tag f k37) (w0 := W) (w.heap.size + 3) rfl rfl 4 (.tmp 33) (.const (.bool true)) rfl 37 (g := g) (n := n + 1) (cap := cap) (n : Int) 2 (packs l0 (List.range (n + 1))).zipIdx ((⟨0, (n : Int) + 1, true, chunk l0 n⟩ : S37), n) (.bool true) [.bool true] [.int .i64 0, .int .i64 ((n : Int) + 1), .bool false, v3] (fun _ => True) (fun k => True ∧ k ≠ g) rfl ?hoff rfl rfl ?ht ?h1 HR.out (by omega) (by omega) hcl HCC.out (show 2 + 1 ≤ 4 by omega) (k37_mkM _ _ _ (⟨0, (n : Int) + 1, true, chunk l0 n⟩ : S37) H3.out) (fun _ h => h) (Below.refl _ _) ?_; (case hoff => rfl); (case ht => kernel_rfl); (case h1 => intro q hq; rw [List.mem_singleton.1 hq]; rfl); intro w1 hs1 hb1 hg1x; have hcb1 : w1.cell? ⟨w.heap.size, 0, none⟩ = some (.slice (some ⟨g, 0, none⟩) (n + 1) cap) := (World.cell?_of_block (hg1x.block _ HBX.out.lt (fun e => hbg (by injection e)))).trans hcb; have HS1 := Aside0.mk hs1; have HG1 := Aside0.mk hg1x; clear hs1 hg1x hb1)
    have hD1 : w1.heap[D]? = some (.deferred (some [])) := (HG1.out.block D (Array.getElem?_eq_some_iff.1 hK).1 (fun e => hdg (by injection e))).trans hK
    refine ⟨by simp, .inl ⟨_, _, rfl, run_takeDeferred hD1, ?_⟩⟩
    refine ⟨_, results_tmp2 rfl _ _ _, _, rfl, ?_, ?_⟩
    · have hs2 : Kd.S k37 37 w1 w.heap.size (fun _ => True) (.slice (some ⟨g, 0, none⟩) (n + 1) cap) (cutL l0) := by
        refine Kd.S_lower (base := w.heap.size + 3) ⟨f, ?_⟩ (by omega)
        have := HS1.out
        rw [Int.toNat_natCast, zipIdx_set, HFIN.out] at this
        exact this
      refine Kd.S_mono (Kd.S_step (Kd.S_bound hs2) (fun k hk hlt => World.putObj_heap_other (fun e => ?_))) (fun _ _ => trivial)
      obtain ⟨_, _, _, q, _, cells, hc⟩ := hk
      rw [e, hD1] at hc; cases hc
    · exact (hB.grown HG1.out hB.size (fun k e => by cases e; omega)).grown (grownBy_putObj' w1 D _) (Nat.le_trans hB.size HG1.out.size) (fun k e => by cases e; simp at hD; omega)

/-- What piece.Cut answers. -/
theorem cut_calls (A0 : Option Addr) (c0 : Nat) (l0 : List Int) (w : World) (hr0 : Kd.C (Kd.int .u8) w A0 l0.length l0) (hc0 : l0.length ≤ c0) (h1 : 0 < l0.length) (h2 : l0.length ≤ 8192) :
    Calls Tryd.prog 25 #[.slice A0 l0.length c0] w fun e w' => ∃ v0_ : Value, e = .returned (.tuple #[v0_, .nilIface]) ∧ Kd.S k37 37 w' w.heap.size (fun _ => True) v0_ (cutL l0) ∧ Below w.heap.size w w' := by
  obtain ⟨ad, rfl, _⟩ := hr0.2.2 h1
  exact callsIn_wide.1 (cut_good ad c0 l0 w hr0 hc0 h1 h2)
end Chunk

def piece_Cut.f (l0 : List Int) : Option (List S37 × Option Int) := if l0.length = 0 then some ([], some 2) else (if l0.length ≤ 8192 then some (Chunk.cutL l0, none) else some ([], some 6))
set_option maxHeartbeats 4000000 in
theorem piece_Cut.calls (A0 : Option Addr) (c0 : Nat) (l0 : List Int) (r1 : List S37) (r2 : Option Int) (w : World) (hr0 : Kd.C (Kd.int .u8) w A0 l0.length l0) (hc0 : l0.length ≤ c0) (h : piece_Cut.f l0 = some (r1, r2)) :
    Calls Tryd.prog 25 #[.slice A0 l0.length c0] w fun e w' => ∃ v0_ : Value, e = .returned (.tuple #[v0_, errW r2]) ∧ Kd.S k37 37 w' w.heap.size (fun _ => True) v0_ r1 ∧ Below w.heap.size w w' := by
  unfold piece_Cut.f at h
  by_cases h1 : l0.length = 0
  · rw [if_pos h1] at h
    simp only [Option.some.injEq, Prod.mk.injEq] at h
    obtain ⟨rfl, rfl⟩ := h
    clear hr0 hc0
    have k1 : ((l0.length : Int) == 0) = true := beq_iff_eq.2 (by omega)
    have e0 : l0.length = 0 := h1
    have hB := Aside0.mk (Below.refl w.heap.size w)
    rw [e0] at k1 ⊢
    clear h1 e0
    go_enter Tryd.func25, Tryd.ntmps25
    go_wp2
    go_ret2
    exact ⟨_, rfl, Kd.S_nil _ _ _ _ _, hB.out⟩
  · rw [if_neg h1] at h
    by_cases h2 : l0.length ≤ 8192
    · rw [if_pos h2] at h
      simp only [Option.some.injEq, Prod.mk.injEq] at h
      obtain ⟨rfl, rfl⟩ := h
      exact Chunk.cut_calls A0 c0 l0 w hr0 hc0 (by omega) h2
    · rw [if_neg h2] at h
      simp only [Option.some.injEq, Prod.mk.injEq] at h
      obtain ⟨rfl, rfl⟩ := h
      clear hr0 hc0
      have k1 : ((l0.length : Int) == 0) = false := beq_eq_false_iff_ne.2 (by omega)
      have k2 : decide (8192 < (l0.length : Int)) = true := decide_eq_true (by omega)
      have hB := Aside0.mk (Below.refl w.heap.size w)
      clear h1 h2
      go_enter Tryd.func25, Tryd.ntmps25
      go_wp2
      go_ret2
      exact ⟨_, rfl, Kd.S_nil _ _ _ _ _, hB.out⟩
end

-- NOT PRINTED: function 26 (line_Line_room)

-- NOT PRINTED: function 27 (line_Line_now)

-- NOT PRINTED: function 11 (line_Line_Send)

-- NOT PRINTED: function 28 (line_Line_told)

-- NOT PRINTED: function 12 (line_Line_Tick)

/-! ### piece_may: function 39 -/
def piece_may.j0 : Nat → Int → Bool → Int → Int → Bool → List Int → Option (Bool)
 | 0, _, _, _, _, _, _ => none
 | k + 1, x3, x7, x108000, x108001, x108002, x108003 => if x7 = true then (some false) else (if x108001 = 0 then (if x108002 = true then (some false) else (some (x3 == 0))) else (if x3 = 64 then (some true) else (if x108002 = true then (if x3 ≥ 1 then (some (decide (x3 < 64))) else (some false)) else (some false))))
def piece_may.f (k : Nat) (a0_0 : Int) (a0_1 : Int) (a0_2 : Bool) (l0_3 : List Int) : Option (Bool) := if a0_0 < 0 then (piece_may.j0 k (l0_3.length : Int) true a0_0 a0_1 a0_2 l0_3) else (if a0_0 > 2147483647 then (piece_may.j0 k (l0_3.length : Int) true a0_0 a0_1 a0_2 l0_3) else (if a0_1 < 0 then (piece_may.j0 k (l0_3.length : Int) true a0_0 a0_1 a0_2 l0_3) else (piece_may.j0 k (l0_3.length : Int) (decide (a0_1 > 2147483647)) a0_0 a0_1 a0_2 l0_3)))
theorem piece_may.mono_l : ∀ k, (∀ y0 y1 y2 y3 y4 y5, LeO (piece_may.j0 k y0 y1 y2 y3 y4 y5) (piece_may.j0 (k + 1) y0 y1 y2 y3 y4 y5))
 | 0 => fun _ _ _ _ _ _ r h => by simp [piece_may.j0] at h
 | k + 1 => by
  have ih0 := piece_may.mono_l k
  ·intro y0 y1 y2 y3 y4 y5
   unfold piece_may.j0
   repeat' first
   | (with_reducible exact ih0 _ _ _ _ _ _)
   | (with_reducible exact LeO.refl _)
   | (with_reducible exact LeO.none _)
   | (with_reducible refine LeO.ite ?_ ?_)
   | (with_reducible refine LeO.bind ?_ (fun _ => ?_))
   | exact ih0 _ _ _ _ _ _
   | exact LeO.none _
   | refine LeO.ite ?_ ?_
   | refine LeO.bind ?_ (fun _ => ?_)
theorem piece_may.mono : ∀ a0 a1 a2 a3 k, LeO (piece_may.f k a0 a1 a2 a3) (piece_may.f (k + 1) a0 a1 a2 a3) := by
 intro a0 a1 a2 a3 k
 have ih0 := piece_may.mono_l k
 unfold piece_may.f
 repeat' first
   | (with_reducible exact ih0 _ _ _ _ _ _)
   | (with_reducible exact LeO.refl _)
   | (with_reducible exact LeO.none _)
   | (with_reducible refine LeO.ite ?_ ?_)
   | (with_reducible refine LeO.bind ?_ (fun _ => ?_))
   | exact ih0 _ _ _ _ _ _
   | exact LeO.none _
   | refine LeO.ite ?_ ?_
   | refine LeO.bind ?_ (fun _ => ?_)
set_option maxHeartbeats 8000000 in
set_option maxRecDepth 100000 in
theorem piece_may.calls (k : Nat) (a0_0 : Int) (a0_1 : Int) (a0_2 : Bool) (A0_3 : Option Addr) (c0_3 : Nat) (l0_3 : List Int) (r : Bool) (w : World) (hr0_3 : Kd.C (Kd.int .u8) w A0_3 l0_3.length l0_3) (hc0_3 : l0_3.length ≤ c0_3) (h : piece_may.f k a0_0 a0_1 a0_2 l0_3 = some r) :
  Calls Tryd.prog 39 #[.agg #[.int .i64 a0_0, .int .i64 a0_1, .bool a0_2, .slice A0_3 l0_3.length c0_3]] w fun e w' => e = .returned (.bool r) ∧ Below w.heap.size w w' := by
 have hu37 := Tryd.underlying37
 have HR0_3 := Aside0.mk hr0_3
 have HC0_3 := Aside0.mk hc0_3
 clear hr0_3 hc0_3
 have HB := Aside0.mk (Below.refl w.heap.size w)
 have H : (if a0_0 < 0 then (piece_may.j0 k (l0_3.length : Int) true a0_0 a0_1 a0_2 l0_3) else (if a0_0 > 2147483647 then (piece_may.j0 k (l0_3.length : Int) true a0_0 a0_1 a0_2 l0_3) else (if a0_1 < 0 then (piece_may.j0 k (l0_3.length : Int) true a0_0 a0_1 a0_2 l0_3) else (piece_may.j0 k (l0_3.length : Int) (decide (a0_1 > 2147483647)) a0_0 a0_1 a0_2 l0_3)))) = some r := h
 clear h
 have HC2 := Aside0.mk H
 clear H
 go_enter Tryd.func39, Tryd.ntmps39
 go_upto_region 2 with (first | ((with_reducible refine gate_dst (N := 1) rfl ?_); refine box_event ?hg (N := 1) ?hd (cs := #[.int .i64 a0_0, .int .i64 a0_1, .bool a0_2, .slice A0_3 l0_3.length c0_3]) (t := 37) ?hr ?_; (case hd => rfl); (case hg => rfl); (case hr => first | (go_simp; done) | (go_simp; rfl)); intro gb107 hg w3 hbox hb; have n0_ := Aside0.mk (below_step (by repeat (first | (with_reducible first | exact HB.out | apply below_alloc | apply pw_below_drewN | apply below_drew1) | exact HB.out)) hb); have n1_ := Aside0.mk (hbox); have n2_ := Aside0.mk ((by rw [hg]; exact (below_size (by repeat (first | (with_reducible first | exact HB.out | apply below_alloc | apply pw_below_drewN | apply below_drew1) | exact HB.out))) : w.heap.size ≤ gb107)); have n3_ := Aside0.mk ((by rw [hg]; exact (below_size (by repeat (first | (with_reducible first | exact HB.out | apply below_alloc | apply pw_below_drewN | apply below_drew1) | exact HB.out))) : w.heap.size ≤ gb107)); clear HB; have HB := n0_; have BK107 := n1_; have GW107 := n2_; have GE107 := n3_; clear n0_ n1_ n2_ n3_; clear hb hbox hg; have hcz4_0 : w3.cell? ⟨gb107, 0, none⟩ = some (.int .i64 a0_0) := (blk_cell BK107.out 0).trans rfl; have hcz4_1 : w3.cell? ⟨gb107, 1, none⟩ = some (.int .i64 a0_1) := (blk_cell BK107.out 1).trans rfl; have hcz4_2 : w3.cell? ⟨gb107, 2, none⟩ = some (.bool a0_2) := (blk_cell BK107.out 2).trans rfl; have hcz4_3 : w3.cell? ⟨gb107, 3, none⟩ = some (.slice A0_3 l0_3.length c0_3) := (blk_cell BK107.out 3).trans rfl; have hfz4_0 := blk_frozen BK107.out 0; have hfz4_1 := blk_frozen BK107.out 1; have hfz4_2 := blk_frozen BK107.out 2; have hfz4_3 := blk_frozen BK107.out 3))
 (try simp only [Act.put, List.setIfInBounds_toArray, List.set_cons_zero, List.set_cons_succ])
 go_cut [7] (fun v7 wc => ∃ (kq : Nat) (x7_1 : Bool), v7 = .bool x7_1 ∧ Aside0 (piece_may.j0 kq (l0_3.length : Int) x7_1 a0_0 a0_1 a0_2 l0_3 = some r) ∧ Aside0 (kq ≤ k) ∧ Aside0 (wc.heap[gb107]? = some (.cells #[.int .i64 a0_0, .int .i64 a0_1, .bool a0_2, (.slice A0_3 l0_3.length c0_3)] 37 (0, 0))) ∧ Aside0 (Below w.heap.size w wc))
 case first =>
  have H := HC2.out
  clear HC2
  by_cases c5 : a0_0 < 0
  ·rw [if_pos c5] at H
   have c5b0 : decide (a0_0 < 0) = true := decide_eq_true c5
   clear c5
   (first | rw [c5b0] | (simp only [i64_w, i32_w]; rw [c5b0]) | skip)
   have H' := Aside0.mk H
   clear H
   have hcz6_0 : w3.cell? ⟨gb107, 0, none⟩ = some (.int .i64 a0_0) := (blk_cell BK107.out 0).trans rfl
   have hcz6_1 : w3.cell? ⟨gb107, 1, none⟩ = some (.int .i64 a0_1) := (blk_cell BK107.out 1).trans rfl
   have hcz6_2 : w3.cell? ⟨gb107, 2, none⟩ = some (.bool a0_2) := (blk_cell BK107.out 2).trans rfl
   have hcz6_3 : w3.cell? ⟨gb107, 3, none⟩ = some (.slice A0_3 l0_3.length c0_3) := (blk_cell BK107.out 3).trans rfl
   have hfz6_0 := blk_frozen BK107.out 0
   have hfz6_1 := blk_frozen BK107.out 1
   have hfz6_2 := blk_frozen BK107.out 2
   have hfz6_3 := blk_frozen BK107.out 3
   go_wp2
   go_meet
   case rel => exact ⟨_, (true), (by first | rfl | (simp; done) | (simp [*]; done)), H', ⟨by first | omega | exact Nat.le_refl _⟩, ⟨by (with_reducible repeat (first | refine blk_drewN ?_ _ | refine blk_drew ?_ | refine blk_alloc ?_ _)); exact BK107.out⟩, ⟨by repeat (first | (with_reducible first | exact HB.out | apply below_alloc | apply pw_below_drewN | apply below_drew1 | refine below_set ?_ GE107.out) | exact HB.out)⟩⟩
  ·rw [if_neg c5] at H
   have c5b0 : decide (a0_0 < 0) = false := decide_eq_false c5
   clear c5
   (first | rw [c5b0] | (simp only [i64_w, i32_w]; rw [c5b0]) | skip)
   by_cases c7 : a0_0 > 2147483647
   ·rw [if_pos c7] at H
    have c7b0 : decide (2147483647 < a0_0) = true := decide_eq_true c7
    clear c7
    have H' := Aside0.mk H
    clear H
    have hcz8_0 : w3.cell? ⟨gb107, 0, none⟩ = some (.int .i64 a0_0) := (blk_cell BK107.out 0).trans rfl
    have hcz8_1 : w3.cell? ⟨gb107, 1, none⟩ = some (.int .i64 a0_1) := (blk_cell BK107.out 1).trans rfl
    have hcz8_2 : w3.cell? ⟨gb107, 2, none⟩ = some (.bool a0_2) := (blk_cell BK107.out 2).trans rfl
    have hcz8_3 : w3.cell? ⟨gb107, 3, none⟩ = some (.slice A0_3 l0_3.length c0_3) := (blk_cell BK107.out 3).trans rfl
    have hfz8_0 := blk_frozen BK107.out 0
    have hfz8_1 := blk_frozen BK107.out 1
    have hfz8_2 := blk_frozen BK107.out 2
    have hfz8_3 := blk_frozen BK107.out 3
    go_wp2
    go_meet
    case rel => exact ⟨_, (true), (by first | rfl | (simp; done) | (simp [*]; done)), H', ⟨by first | omega | exact Nat.le_refl _⟩, ⟨by (with_reducible repeat (first | refine blk_drewN ?_ _ | refine blk_drew ?_ | refine blk_alloc ?_ _)); exact BK107.out⟩, ⟨by repeat (first | (with_reducible first | exact HB.out | apply below_alloc | apply pw_below_drewN | apply below_drew1 | refine below_set ?_ GE107.out) | exact HB.out)⟩⟩
   ·rw [if_neg c7] at H
    have c7b0 : decide (2147483647 < a0_0) = false := decide_eq_false c7
    clear c7
    by_cases c9 : a0_1 < 0
    ·rw [if_pos c9] at H
     have c9b0 : decide (a0_1 < 0) = true := decide_eq_true c9
     clear c9
     have H' := Aside0.mk H
     clear H
     have hcz10_0 : w3.cell? ⟨gb107, 0, none⟩ = some (.int .i64 a0_0) := (blk_cell BK107.out 0).trans rfl
     have hcz10_1 : w3.cell? ⟨gb107, 1, none⟩ = some (.int .i64 a0_1) := (blk_cell BK107.out 1).trans rfl
     have hcz10_2 : w3.cell? ⟨gb107, 2, none⟩ = some (.bool a0_2) := (blk_cell BK107.out 2).trans rfl
     have hcz10_3 : w3.cell? ⟨gb107, 3, none⟩ = some (.slice A0_3 l0_3.length c0_3) := (blk_cell BK107.out 3).trans rfl
     have hfz10_0 := blk_frozen BK107.out 0
     have hfz10_1 := blk_frozen BK107.out 1
     have hfz10_2 := blk_frozen BK107.out 2
     have hfz10_3 := blk_frozen BK107.out 3
     go_wp2
     go_meet
     case rel => exact ⟨_, (true), (by first | rfl | (simp; done) | (simp [*]; done)), H', ⟨by first | omega | exact Nat.le_refl _⟩, ⟨by (with_reducible repeat (first | refine blk_drewN ?_ _ | refine blk_drew ?_ | refine blk_alloc ?_ _)); exact BK107.out⟩, ⟨by repeat (first | (with_reducible first | exact HB.out | apply below_alloc | apply pw_below_drewN | apply below_drew1 | refine below_set ?_ GE107.out) | exact HB.out)⟩⟩
    ·rw [if_neg c9] at H
     have c9b0 : decide (a0_1 < 0) = false := decide_eq_false c9
     clear c9
     have H' := Aside0.mk H
     clear H
     have hcz11_0 : w3.cell? ⟨gb107, 0, none⟩ = some (.int .i64 a0_0) := (blk_cell BK107.out 0).trans rfl
     have hcz11_1 : w3.cell? ⟨gb107, 1, none⟩ = some (.int .i64 a0_1) := (blk_cell BK107.out 1).trans rfl
     have hcz11_2 : w3.cell? ⟨gb107, 2, none⟩ = some (.bool a0_2) := (blk_cell BK107.out 2).trans rfl
     have hcz11_3 : w3.cell? ⟨gb107, 3, none⟩ = some (.slice A0_3 l0_3.length c0_3) := (blk_cell BK107.out 3).trans rfl
     have hfz11_0 := blk_frozen BK107.out 0
     have hfz11_1 := blk_frozen BK107.out 1
     have hfz11_2 := blk_frozen BK107.out 2
     have hfz11_3 := blk_frozen BK107.out 3
     go_wp2
     go_meet
     case rel => exact ⟨_, (decide (a0_1 > 2147483647)), (by first | rfl | (simp; done) | (simp [*]; done)), H', ⟨by first | omega | exact Nat.le_refl _⟩, ⟨by (with_reducible repeat (first | refine blk_drewN ?_ _ | refine blk_drew ?_ | refine blk_alloc ?_ _)); exact BK107.out⟩, ⟨by repeat (first | (with_reducible first | exact HB.out | apply below_alloc | apply pw_below_drewN | apply below_drew1 | refine below_set ?_ GE107.out) | exact HB.out)⟩⟩
 case rest =>
  clear HC2
  try clear p2
  try clear c3
  try clear c5
  try clear c5b0
  try clear c7
  try clear c7b0
  try clear c9
  try clear c9b0
  try clear hcz10_0
  try clear hcz10_1
  try clear hcz10_2
  try clear hcz10_3
  try clear hcz11_0
  try clear hcz11_1
  try clear hcz11_2
  try clear hcz11_3
  try clear hcz4_0
  try clear hcz4_1
  try clear hcz4_2
  try clear hcz4_3
  try clear hcz6_0
  try clear hcz6_1
  try clear hcz6_2
  try clear hcz6_3
  try clear hcz8_0
  try clear hcz8_1
  try clear hcz8_2
  try clear hcz8_3
  try clear hfz10_0
  try clear hfz10_1
  try clear hfz10_2
  try clear hfz10_3
  try clear hfz11_0
  try clear hfz11_1
  try clear hfz11_2
  try clear hfz11_3
  try clear hfz4_0
  try clear hfz4_1
  try clear hfz4_2
  try clear hfz4_3
  try clear hfz6_0
  try clear hfz6_1
  try clear hfz6_2
  try clear hfz6_3
  try clear hfz8_0
  try clear hfz8_1
  try clear hfz8_2
  try clear hfz8_3
  obtain ⟨kq, x7_1, rfl, HA, HJ1, BK107, HB⟩ := hcut
  cases kq with
  | zero => exact absurd HA.out (by simp [piece_may.j0])
  | succ kj1 =>
   have H := HA.out
   clear HA
   simp only [piece_may.j0] at H
   by_cases c12 : x7_1 = true
   ·subst c12
    have H1 : (some false) = some r := by rw [if_pos rfl] at H; exact H
    clear H
    have H := H1
    clear H1
    obtain rfl := Option.some.inj H
    go_wp2
    go_ret
    exact ⟨by first | rfl | (simp [errW_none, errW_some] <;> rfl) | (simp [*, errW_none, errW_some] <;> rfl), by repeat (first | (with_reducible first | exact HB.out | apply below_alloc | apply pw_below_drewN | apply below_drew1 | refine below_set ?_ GE107.out) | exact HB.out)⟩
   ·replace c12 := Bool.eq_false_iff.mpr c12
    subst c12
    have H1 : (if a0_1 = 0 then (if a0_2 = true then (some false) else (some ((l0_3.length : Int) == 0))) else (if (l0_3.length : Int) = 64 then (some true) else (if a0_2 = true then (if (l0_3.length : Int) ≥ 1 then (some (decide ((l0_3.length : Int) < 64))) else (some false)) else (some false)))) = some r := by rw [if_neg (show ¬ (false = true) by decide)] at H; exact H
    clear H
    have H := H1
    clear H1
    by_cases c13 : a0_1 = 0
    ·rw [if_pos c13] at H
     have c13b0 : (a0_1 == 0) = true := beq_iff_eq.mpr c13
     have c13b1 : (a0_1 != 0) = false := bne_eq_false_iff_eq.mpr c13
     clear c13
     by_cases c14 : a0_2 = true
     ·subst c14
      have H1 : (some false) = some r := by rw [if_pos rfl] at H; exact H
      clear H
      have H := H1
      clear H1
      obtain rfl := Option.some.inj H
      have hcz15_0 : wc.cell? ⟨gb107, 0, none⟩ = some (.int .i64 a0_0) := (blk_cell BK107.out 0).trans rfl
      have hcz15_1 : wc.cell? ⟨gb107, 1, none⟩ = some (.int .i64 a0_1) := (blk_cell BK107.out 1).trans rfl
      have hcz15_2 : wc.cell? ⟨gb107, 2, none⟩ = some (.bool true) := (blk_cell BK107.out 2).trans rfl
      have hcz15_3 : wc.cell? ⟨gb107, 3, none⟩ = some (.slice A0_3 l0_3.length c0_3) := (blk_cell BK107.out 3).trans rfl
      have hfz15_0 := blk_frozen BK107.out 0
      have hfz15_1 := blk_frozen BK107.out 1
      have hfz15_2 := blk_frozen BK107.out 2
      have hfz15_3 := blk_frozen BK107.out 3
      go_wp2
      go_ret
      exact ⟨by first | rfl | (simp [errW_none, errW_some] <;> rfl) | (simp [*, errW_none, errW_some] <;> rfl), by repeat (first | (with_reducible first | exact HB.out | apply below_alloc | apply pw_below_drewN | apply below_drew1 | refine below_set ?_ GE107.out) | exact HB.out)⟩
     ·replace c14 := Bool.eq_false_iff.mpr c14
      subst c14
      have H1 : (some ((l0_3.length : Int) == 0)) = some r := by rw [if_neg (show ¬ (false = true) by decide)] at H; exact H
      clear H
      have H := H1
      clear H1
      obtain rfl := Option.some.inj H
      have hcz16_0 : wc.cell? ⟨gb107, 0, none⟩ = some (.int .i64 a0_0) := (blk_cell BK107.out 0).trans rfl
      have hcz16_1 : wc.cell? ⟨gb107, 1, none⟩ = some (.int .i64 a0_1) := (blk_cell BK107.out 1).trans rfl
      have hcz16_2 : wc.cell? ⟨gb107, 2, none⟩ = some (.bool false) := (blk_cell BK107.out 2).trans rfl
      have hcz16_3 : wc.cell? ⟨gb107, 3, none⟩ = some (.slice A0_3 l0_3.length c0_3) := (blk_cell BK107.out 3).trans rfl
      have hfz16_0 := blk_frozen BK107.out 0
      have hfz16_1 := blk_frozen BK107.out 1
      have hfz16_2 := blk_frozen BK107.out 2
      have hfz16_3 := blk_frozen BK107.out 3
      go_wp2
      go_ret
      exact ⟨by first | rfl | (simp [errW_none, errW_some] <;> rfl) | (simp [*, errW_none, errW_some] <;> rfl), by repeat (first | (with_reducible first | exact HB.out | apply below_alloc | apply pw_below_drewN | apply below_drew1 | refine below_set ?_ GE107.out) | exact HB.out)⟩
    ·rw [if_neg c13] at H
     have c13b0 : (a0_1 == 0) = false := beq_eq_false_iff_ne.mpr c13
     have c13b1 : (a0_1 != 0) = true := bne_iff_ne.mpr c13
     by_cases c17 : (l0_3.length : Int) = 64
     ·rw [if_pos c17] at H
      have c17b0 : ((l0_3.length : Int) == 64) = true := beq_iff_eq.mpr c17
      have c17b1 : ((l0_3.length : Int) != 64) = false := bne_eq_false_iff_eq.mpr c17
      clear c17
      obtain rfl := Option.some.inj H
      have hcz18_0 : wc.cell? ⟨gb107, 0, none⟩ = some (.int .i64 a0_0) := (blk_cell BK107.out 0).trans rfl
      have hcz18_1 : wc.cell? ⟨gb107, 1, none⟩ = some (.int .i64 a0_1) := (blk_cell BK107.out 1).trans rfl
      have hcz18_2 : wc.cell? ⟨gb107, 2, none⟩ = some (.bool a0_2) := (blk_cell BK107.out 2).trans rfl
      have hcz18_3 : wc.cell? ⟨gb107, 3, none⟩ = some (.slice A0_3 l0_3.length c0_3) := (blk_cell BK107.out 3).trans rfl
      have hfz18_0 := blk_frozen BK107.out 0
      have hfz18_1 := blk_frozen BK107.out 1
      have hfz18_2 := blk_frozen BK107.out 2
      have hfz18_3 := blk_frozen BK107.out 3
      go_wp2
      go_ret
      exact ⟨by first | rfl | (simp [errW_none, errW_some] <;> rfl) | (simp [*, errW_none, errW_some] <;> rfl), by repeat (first | (with_reducible first | exact HB.out | apply below_alloc | apply pw_below_drewN | apply below_drew1 | refine below_set ?_ GE107.out) | exact HB.out)⟩
     ·rw [if_neg c17] at H
      have c17b0 : ((l0_3.length : Int) == 64) = false := beq_eq_false_iff_ne.mpr c17
      have c17b1 : ((l0_3.length : Int) != 64) = true := bne_iff_ne.mpr c17
      by_cases c19 : a0_2 = true
      ·subst c19
       have H1 : (if (l0_3.length : Int) ≥ 1 then (some (decide ((l0_3.length : Int) < 64))) else (some false)) = some r := by rw [if_pos rfl] at H; exact H
       clear H
       have H := H1
       clear H1
       by_cases c20 : (l0_3.length : Int) ≥ 1
       ·rw [if_pos c20] at H
        have c20b0 : decide (1 ≤ (l0_3.length : Int)) = true := decide_eq_true c20
        have c20b1 : decide (1 ≤ l0_3.length) = true := decide_eq_true (by omega)
        clear c20
        obtain rfl := Option.some.inj H
        have hcz21_0 : wc.cell? ⟨gb107, 0, none⟩ = some (.int .i64 a0_0) := (blk_cell BK107.out 0).trans rfl
        have hcz21_1 : wc.cell? ⟨gb107, 1, none⟩ = some (.int .i64 a0_1) := (blk_cell BK107.out 1).trans rfl
        have hcz21_2 : wc.cell? ⟨gb107, 2, none⟩ = some (.bool true) := (blk_cell BK107.out 2).trans rfl
        have hcz21_3 : wc.cell? ⟨gb107, 3, none⟩ = some (.slice A0_3 l0_3.length c0_3) := (blk_cell BK107.out 3).trans rfl
        have hfz21_0 := blk_frozen BK107.out 0
        have hfz21_1 := blk_frozen BK107.out 1
        have hfz21_2 := blk_frozen BK107.out 2
        have hfz21_3 := blk_frozen BK107.out 3
        go_wp2
        go_ret
        exact ⟨by first | rfl | (simp [errW_none, errW_some] <;> rfl) | (simp [*, errW_none, errW_some] <;> rfl), by repeat (first | (with_reducible first | exact HB.out | apply below_alloc | apply pw_below_drewN | apply below_drew1 | refine below_set ?_ GE107.out) | exact HB.out)⟩
       ·rw [if_neg c20] at H
        have c20b0 : decide (1 ≤ (l0_3.length : Int)) = false := decide_eq_false c20
        have c20b1 : decide (1 ≤ l0_3.length) = false := decide_eq_false (by omega)
        clear c20
        obtain rfl := Option.some.inj H
        have hcz22_0 : wc.cell? ⟨gb107, 0, none⟩ = some (.int .i64 a0_0) := (blk_cell BK107.out 0).trans rfl
        have hcz22_1 : wc.cell? ⟨gb107, 1, none⟩ = some (.int .i64 a0_1) := (blk_cell BK107.out 1).trans rfl
        have hcz22_2 : wc.cell? ⟨gb107, 2, none⟩ = some (.bool true) := (blk_cell BK107.out 2).trans rfl
        have hcz22_3 : wc.cell? ⟨gb107, 3, none⟩ = some (.slice A0_3 l0_3.length c0_3) := (blk_cell BK107.out 3).trans rfl
        have hfz22_0 := blk_frozen BK107.out 0
        have hfz22_1 := blk_frozen BK107.out 1
        have hfz22_2 := blk_frozen BK107.out 2
        have hfz22_3 := blk_frozen BK107.out 3
        go_wp2
        go_ret
        exact ⟨by first | rfl | (simp [errW_none, errW_some] <;> rfl) | (simp [*, errW_none, errW_some] <;> rfl), by repeat (first | (with_reducible first | exact HB.out | apply below_alloc | apply pw_below_drewN | apply below_drew1 | refine below_set ?_ GE107.out) | exact HB.out)⟩
      ·replace c19 := Bool.eq_false_iff.mpr c19
       subst c19
       have H1 : (some false) = some r := by rw [if_neg (show ¬ (false = true) by decide)] at H; exact H
       clear H
       have H := H1
       clear H1
       obtain rfl := Option.some.inj H
       have hcz23_0 : wc.cell? ⟨gb107, 0, none⟩ = some (.int .i64 a0_0) := (blk_cell BK107.out 0).trans rfl
       have hcz23_1 : wc.cell? ⟨gb107, 1, none⟩ = some (.int .i64 a0_1) := (blk_cell BK107.out 1).trans rfl
       have hcz23_2 : wc.cell? ⟨gb107, 2, none⟩ = some (.bool false) := (blk_cell BK107.out 2).trans rfl
       have hcz23_3 : wc.cell? ⟨gb107, 3, none⟩ = some (.slice A0_3 l0_3.length c0_3) := (blk_cell BK107.out 3).trans rfl
       have hfz23_0 := blk_frozen BK107.out 0
       have hfz23_1 := blk_frozen BK107.out 1
       have hfz23_2 := blk_frozen BK107.out 2
       have hfz23_3 := blk_frozen BK107.out 3
       go_wp2
       go_ret
       exact ⟨by first | rfl | (simp [errW_none, errW_some] <;> rfl) | (simp [*, errW_none, errW_some] <;> rfl), by repeat (first | (with_reducible first | exact HB.out | apply below_alloc | apply pw_below_drewN | apply below_drew1 | refine below_set ?_ GE107.out) | exact HB.out)⟩

/-! ### slices_Grow_byte_byte: function 51 -/
/-- slices.Grow of nothing, by whatever number: an empty row of the call's own. -/
def slices_Grow_byte_byte.f (l0 : List Int) (a1 : Int) : Option (List Int) := if l0.length = 0 then (if 0 ≤ a1 then (if a1 < 140737488355328 then some [] else none) else none) else none
set_option maxHeartbeats 1000000 in
set_option maxRecDepth 100000 in
theorem slices_Grow_byte_byte.calls (A0 : Option Addr) (c0 : Nat) (l0 : List Int) (a1 : Int) (r : List Int) (w : World) (hr0 : Kd.C (Kd.int .u8) w A0 l0.length l0) (hc0 : l0.length ≤ c0) (h : slices_Grow_byte_byte.f l0 a1 = some r) (hA : A0 = none := by rfl) (hC : c0 = 0 := by rfl) :
    Calls Tryd.prog 51 #[.slice A0 l0.length c0, .int .i64 a1] w fun e w' => ∃ v0_ : Value, e = .returned (v0_) ∧ Kd.R (Kd.int .u8) 5 w' w.heap.size (fun _ => True) v0_ r ∧ Below w.heap.size w w' := by
  subst hA hC
  unfold slices_Grow_byte_byte.f at h
  by_cases h1 : l0.length = 0
  · rw [if_pos h1] at h
    by_cases h2 : 0 ≤ a1
    · rw [if_pos h2] at h
      by_cases h3 : a1 < 140737488355328
      · rw [if_pos h3] at h
        obtain rfl := Option.some.inj h
        obtain rfl : l0 = [] := List.eq_nil_of_length_eq_zero h1
        clear h h1 hr0 hc0
        have HB := Aside0.mk (Below.refl w.heap.size w)
        have k1 : decide (a1 < 0) = false := decide_eq_false (by omega)
        have kw : IntKind.i64.wrap (a1 - 0) = a1 := by rw [Int.sub_zero]; exact IntWalk.i64_in _ (by omega)
        have kw1 : IntKind.i64.wrap a1 = a1 := IntWalk.i64_in _ (by omega)
        have kw2 : wrap64 a1 = a1 := by unfold wrap64; omega
        by_cases h4 : a1 = 0
        · subst h4
          clear kw kw1 kw2 k1
          go_enter Tryd.func51, Tryd.ntmps51
          go_wp2
          go_ret
          exact ⟨_, rfl, Kd.R_nil _ _ _ _ _, HB.out⟩
        · have k2 : decide (0 < a1) = true := decide_eq_true (by omega)
          have k3 := Aside0.mk h2
          have k4 := Aside0.mk h3
          clear h4 h2 h3
          go_enter Tryd.func51, Tryd.ntmps51
          go_wp2_with ((with_reducible refine gate_builtin (b := .append) (xs := #[.tmp 20, .tmp 21]) rfl ?_); refine Kd.R_append_zeros (Kd.int .u8) (w0 := w) w.heap.size rfl (.tmp 20) (.tmp 21) 32 3 5 (.int .u8 0) 1 rfl Tryd.underlying32 Tryd.underlying3 info5 rfl (by decide) (by omega) (.slice none 0 0) [] 0 a1 (fun _ => True) rfl rfl ?zz (fun _ _ => trivial) (Kd.R_nil _ _ _ _ _) k3.out HB.out (Nat.le_refl _) ?zl ?_; (case zz => rfl); (case zl => have := k3.out; have := k4.out; simp; omega); intro v1 w1 ho hb hg hat; clear hg hat; obtain ⟨Ao, co, eo⟩ := Kd.R_slice ho; subst eo; have HO := Aside0.mk ho; have HB1 := Aside0.mk hb; clear ho hb)
          go_ret
          exact ⟨_, rfl, Kd.R_take HO.out (m := 0) (by simp), HB1.out⟩
      · rw [if_neg h3] at h; cases h
    · rw [if_neg h2] at h; cases h
  · rw [if_neg h1] at h; cases h

end Go.Proofs.YtafjegfmmnjpfaaDoor.YLine

/- Proved: the reference's lay of a datagram (shutterref24.lay); conditions: the theorems' own premises. -/
import Derived.Test.YtaciokdgoogpiaaNAny
namespace Go.Proofs.Ytaciokdgoogpiaa.NetT
open Go.RowKit Go.Proofs.Ytaciokdgoogpiaa.YNet Go.Proofs.YtaciokdgoogpiaaW.PrintWords Go.Proofs.YtaciokdgoogpiaaW.PrintLast Go.Proofs.YtaciokdgoogpiaaW.PrintMore
set_option linter.unusedVariables false
set_option linter.unusedSimpArgs false
def RawM (w : World) (B : Nat) (v : Value) (rows : List (List Value)) : Prop := (Kd.raw 4).R 32 w B (fun _ => True) v rows
def RowI (w : World) (B : Nat) (v : Value) (ts : List Int) : Prop := (Kd.int .i64).R 3 w B (fun _ => True) v ts
theorem RawM.below {w w1 : World} {B : Nat} {v : Value} {rows : List (List Value)} (h : RawM w B v rows) (hb : Below w.heap.size w w1) : RawM w1 B v rows := Kd.R_below h hb
theorem RowI.below {w w1 : World} {B : Nat} {v : Value} {ts : List Int} (h : RowI w B v ts) (hb : Below w.heap.size w w1) : RowI w1 B v ts := Kd.R_below h hb
theorem RawM.grown {w w1 : World} {B : Nat} {v : Value} {rows : List (List Value)} {row : Option Nat} (h : RawM w B v rows) (hg : w.grownBy w1 row) (hn : ∀ k, row = some k → some k ≠ v.ownBlock) : RawM w1 B v rows := Kd.R_grown2 h rfl hg hn
theorem RowI.grown {w w1 : World} {B : Nat} {v : Value} {ts : List Int} {row : Option Nat} (h : RowI w B v ts) (hg : w.grownBy w1 row) (hn : ∀ k, row = some k → some k ≠ v.ownBlock) : RowI w1 B v ts := Kd.R_grown2 h rfl hg hn
theorem mi_ne {w : World} {B : Nat} {u v : Value} {rows : List (List Value)} {ts : List Int} (h : RawM w B u rows) (k : RowI w B v ts) : ∀ b, u.ownBlock = some b → some b ≠ v.ownBlock := fun b e => by
  obtain ⟨_, hc⟩ := Kd.R_typed h b e
  exact Kd.R_ne k hc (by decide)
theorem im_ne {w : World} {B : Nat} {u v : Value} {rows : List (List Value)} {ts : List Int} (h : RawM w B u rows) (k : RowI w B v ts) : ∀ b, v.ownBlock = some b → some b ≠ u.ownBlock := fun b e => by
  obtain ⟨_, hc⟩ := Kd.R_typed k b e
  exact Kd.R_ne h hc (by decide)
theorem RawM.put {w : World} {B g i : Nat} {v u : Value} {rows : List (List Value)} {cs : Array Value} (h : RawM w B v rows) (hg : w.heap[g]? = some (.cells cs 29 (0, 0))) : RawM (w.setCell ⟨g, i, none⟩ u) B v rows :=
  Kd.R_mono (Kd.R_far (p := ⟨g, i, none⟩) (Kd.R_types h hg (by decide)) (fun _ hk => hk.2) u) (fun _ _ => trivial)
theorem RowI.put {w : World} {B g i : Nat} {v u : Value} {ts : List Int} {cs : Array Value} (h : RowI w B v ts) (hg : w.heap[g]? = some (.cells cs 29 (0, 0))) : RowI (w.setCell ⟨g, i, none⟩ u) B v ts :=
  Kd.R_mono (Kd.R_far (p := ⟨g, i, none⟩) (Kd.R_types h hg (by decide)) (fun _ hk => hk.2) u) (fun _ _ => trivial)
theorem below_of_grown {w w1 : World} (h : w.grownBy w1 none) : Below w.heap.size w w1 := ⟨h.os, h.tape, h.output, h.size, fun k hk => h.block k hk (by simp)⟩
theorem new_ne {v u : Value} {n k : Nat} (hat : ∃ b, v.ownBlock = some b ∧ n ≤ b) (hlt : ∀ k, u.ownBlock = some k → k < n) (hk : v.ownBlock = some k) (e : some k = u.ownBlock) : False := by
  obtain ⟨b, hb, hn⟩ := hat
  have := hlt k e.symm
  rw [hk] at hb
  injection hb with hb
  omega
def up (L : Nat → Bool) (i : Nat) : Nat → Bool := fun j => if j = i then true else L j
theorem up_self (L : Nat → Bool) (i : Nat) (h : up L i i = false) : False := by simp [up] at h
theorem tf {b : Bool} {p : Prop} (h : b = true) (k : b = false) : p := by rw [h] at k; cases k
def put1 (x : Nat → Value) (N : Nat) (v : Value) : Nat → Value := fun j => if j = N then v else x j
theorem up_at {l : Array Bool} {L : Nat → Bool} {i : Nat} (hi : i < l.size) (h : ∀ j, l.getD j false = L j) : ∀ j, (l.setIfInBounds i true).getD j false = up L i j := fun j => by
  rw [getD_up hi]
  unfold up
  by_cases e : i = j
  · rw [if_pos e, if_pos e.symm]
  · rw [if_neg e, if_neg (fun h => e h.symm)]; exact h j
/-- What is known of the region of lay, of what was done (L). -/
structure LayF (W : World) (g3 g6 : Nat) (A0 : Option Addr) (n0 c0 : Nat) (A1 : Option Addr) (n1 c1 : Nat) (mc : List Value) (rows : List (List Value)) (ts : List Int) (t : Int) (L : Nat → Bool) (x : Nat → Value) (w : World) : Prop where
  p13 : L 1 = true → x 13 = .pointer (some ⟨g3, 0, none⟩)
  p14 : L 2 = true → x 14 = .slice A0 n0 c0
  p16 : L 4 = true → x 16 = .agg ⟨mc⟩
  p20 : L 8 = true → x 20 = .pointer (some ⟨g3, 1, none⟩)
  p21 : L 9 = true → x 21 = .slice A1 n1 c1
  p23 : L 11 = true → x 23 = .int .i64 t
  p26 : L 14 = true → x 26 = .agg #[x 18, x 25]
  r12 : L 0 = true → L 3 = false → RawM w W.heap.size (x 12) []
  r15 : L 3 = true → L 6 = false → RawM w W.heap.size (x 15) rows
  r17 : L 5 = true → L 6 = false → RawM w W.heap.size (x 17) [mc]
  r18 : L 6 = true → RawM w W.heap.size (x 18) (rows ++ [mc])
  r19 : L 7 = true → L 10 = false → RowI w W.heap.size (x 19) []
  r22 : L 10 = true → L 13 = false → RowI w W.heap.size (x 22) ts
  r24 : L 12 = true → L 13 = false → RowI w W.heap.size (x 24) [t]
  r25 : L 13 = true → RowI w W.heap.size (x 25) (ts ++ [t])
  q1 : L 0 = true → L 5 = true → L 3 = false → L 6 = false → ∀ k, (x 12).ownBlock = some k → some k ≠ (x 17).ownBlock
  q2 : L 7 = true → L 12 = true → L 10 = false → L 13 = false → ∀ k, (x 19).ownBlock = some k → some k ≠ (x 24).ownBlock
  st : L 15 = true → w.heap[g6]? = some (.cells #[x 18, x 25] 29 (0, 0))
  bl : L 15 = false → Below W.heap.size W w
  e2_1 : L 2 = true → L 1 = true
  e3_0 : L 3 = true → L 0 = true
  e3_2 : L 3 = true → L 2 = true
  e5_4 : L 5 = true → L 4 = true
  e6_3 : L 6 = true → L 3 = true
  e6_5 : L 6 = true → L 5 = true
  e9_8 : L 9 = true → L 8 = true
  e10_7 : L 10 = true → L 7 = true
  e10_9 : L 10 = true → L 9 = true
  e10_6 : L 10 = true → L 6 = true
  e12_11 : L 12 = true → L 11 = true
  e13_10 : L 13 = true → L 10 = true
  e13_12 : L 13 = true → L 12 = true
  e14_6 : L 14 = true → L 6 = true
  e14_13 : L 14 = true → L 13 = true
  e15_0 : L 15 = true → L 0 = true
  e15_1 : L 15 = true → L 1 = true
  e15_2 : L 15 = true → L 2 = true
  e15_3 : L 15 = true → L 3 = true
  e15_4 : L 15 = true → L 4 = true
  e15_5 : L 15 = true → L 5 = true
  e15_6 : L 15 = true → L 6 = true
  e15_7 : L 15 = true → L 7 = true
  e15_8 : L 15 = true → L 8 = true
  e15_9 : L 15 = true → L 9 = true
  e15_10 : L 15 = true → L 10 = true
  e15_11 : L 15 = true → L 11 = true
  e15_12 : L 15 = true → L 12 = true
  e15_13 : L 15 = true → L 13 = true
  e15_14 : L 15 = true → L 14 = true
abbrev layA (t0 t1 t5 t7 t8 t9 t10 t11 : Value) (t : Int) (g3 g4 g6 : Nat) (x : Nat → Value) : Act := ⟨#[t0, t1, .int .i64 t, .pointer (some ⟨g3, 0, none⟩), .pointer (some ⟨g4, 0, none⟩), t5, .pointer (some ⟨g6, 0, none⟩), t7, t8, t9, t10, t11, x 12, x 13, x 14, x 15, x 16, x 17, x 18, x 19, x 20, x 21, x 22, x 23, x 24, x 25, x 26], []⟩
def LayG (w0 : World) (W : World) (g3 g4 g6 : Nat) (A0 : Option Addr) (n0 c0 : Nat) (A1 : Option Addr) (n1 c1 : Nat) (mc : List Value) (rows : List (List Value)) (ts : List Int) (t : Int) (t0 t1 t5 t7 t8 t9 t10 t11 : Value) (l : Array Bool) (a : Act) (w : World) : Prop :=
  l.size = 16 ∧ ∃ L x, (∀ j, l.getD j false = L j) ∧ a = layA t0 t1 t5 t7 t8 t9 t10 t11 t g3 g4 g6 x ∧ LayF W g3 g6 A0 n0 c0 A1 n1 c1 mc rows ts t L x w ∧ Below w0.heap.size w0 w
theorem LayF.below {W : World} {g3 g6 : Nat} {A0 : Option Addr} {n0 c0 : Nat} {A1 : Option Addr} {n1 c1 : Nat} {mc : List Value} {rows : List (List Value)} {ts : List Int} {t : Int} {L : Nat → Bool} {x : Nat → Value} {w w1 : World} (hF : LayF W g3 g6 A0 n0 c0 A1 n1 c1 mc rows ts t L x w) (hb : Below w.heap.size w w1) : LayF W g3 g6 A0 n0 c0 A1 n1 c1 mc rows ts t L x w1 :=
  ⟨hF.p13, hF.p14, hF.p16, hF.p20, hF.p21, hF.p23, hF.p26, (fun a0 a1 => (hF.r12 a0 a1).below hb), (fun a0 a1 => (hF.r15 a0 a1).below hb), (fun a0 a1 => (hF.r17 a0 a1).below hb), (fun a0 => (hF.r18 a0).below hb), (fun a0 a1 => (hF.r19 a0 a1).below hb), (fun a0 a1 => (hF.r22 a0 a1).below hb), (fun a0 a1 => (hF.r24 a0 a1).below hb), (fun a0 => (hF.r25 a0).below hb), hF.q1, hF.q2, (fun a0 => (blk_below (hF.st a0) hb)), (fun a0 => below_step (hF.bl a0) hb), hF.e2_1, hF.e3_0, hF.e3_2, hF.e5_4, hF.e6_3, hF.e6_5, hF.e9_8, hF.e10_7, hF.e10_9, hF.e10_6, hF.e12_11, hF.e13_10, hF.e13_12, hF.e14_6, hF.e14_13, hF.e15_0, hF.e15_1, hF.e15_2, hF.e15_3, hF.e15_4, hF.e15_5, hF.e15_6, hF.e15_7, hF.e15_8, hF.e15_9, hF.e15_10, hF.e15_11, hF.e15_12, hF.e15_13, hF.e15_14⟩
theorem rows_below {w W : World} {A : Option Addr} {n : Nat} {rows : List (List Value)} (h : (Kd.raw 4).C W A n rows) (hb : Below W.heap.size W w) : (Kd.raw 4).C w A n rows := Kd.C_below h hb
theorem ints_below {w W : World} {A : Option Addr} {n : Nat} {ts : List Int} (h : (Kd.int .i64).C W A n ts) (hb : Below W.heap.size W w) : (Kd.int .i64).C w A n ts := Kd.C_below h hb
def LayEnd (w0 W : World) (g6 : Nat) (mc : List Value) (rows : List (List Value)) (ts : List Int) (t : Int) (v18 v25 : Value) (w : World) : Prop := RawM w W.heap.size v18 (rows ++ [mc]) ∧ RowI w W.heap.size v25 (ts ++ [t]) ∧ w.heap[g6]? = some (.cells #[v18, v25] 29 (0, 0)) ∧ Below w0.heap.size w0 w
/-- The reference's air: its datagrams, and the ticks that each has to go; both are read alone, in ok. -/
def IsRef (w : World) (ok : Nat → Prop) (v0 v1 : Value) (ms : List S32) (ts : List Int) : Prop := Kd.V k32 32 w 0 ok v0 ms ∧ Kd.V (Kd.int .i64) 3 w 0 ok v1 ts
def RefAns (w : World) (e : Ending) (ok : Nat → Prop) (ms : List S32) (ts : List Int) : Prop := ∃ v0 v1, e = .returned (.agg #[v0, v1]) ∧ IsRef w ok v0 v1 ms ts
theorem IsRef.below {w w1 : World} {ok : Nat → Prop} {v0 v1 : Value} {ms : List S32} {ts : List Int} (h : IsRef w ok v0 v1 ms ts) (hb : Below w.heap.size w w1) : IsRef w1 ok v0 v1 ms ts := ⟨Kd.V_below h.1 hb, Kd.V_below h.2 hb⟩
theorem IsRef.mono {w : World} {ok ok' : Nat → Prop} {v0 v1 : Value} {ms : List S32} {ts : List Int} (h : IsRef w ok v0 v1 ms ts) (hk : ∀ k, ok k → ok' k) : IsRef w ok' v0 v1 ms ts := ⟨Kd.V_mono h.1 hk, Kd.V_mono h.2 hk⟩
def layM (ms : List S32) (m : S32) : List S32 := if ms.length = 200 then ms else ms ++ [m]
def layT (ms : List S32) (ts : List Int) (t : Int) : List Int := if ms.length = 200 then ts else ts ++ [t]
theorem two_one (A B : Option Addr) (n c m d : Nat) : (#[Value.slice A n c, .slice B m d] : Array Value).all (·.oneCell') = true := by
  rw [List.all_toArray, List.all_eq_true]
  intro u hu
  simp only [List.mem_cons, List.not_mem_nil, or_false] at hu
  rcases hu with rfl | rfl <;> rfl
set_option maxHeartbeats 4000000 in
set_option maxRecDepth 100000 in
theorem rlay_calls (w : World) (ok : Nat → Prop) (v0 v1 : Value) (ms : List S32) (ts : List Int) (s : ByteArray) (d : Int) (o : ByteArray) (A : Option Addr) (c : Nat) (b : List Int) (t : Int) (hR : IsRef w ok v0 v1 ms ts) (hM : Kd.V (Kd.int .u8) 5 w 0 ok (.slice A b.length c) b) (hms : ms.length ≤ 200) (hts : ts.length ≤ 200) :
    Calls Try.prog 20 #[.agg #[v0, v1], .agg #[.string s, .int .i64 d, .string o, .slice A b.length c], .int .i64 t] w fun e w' => RefAns w' e (fun k => ok k ∨ w.heap.size ≤ k) (layM ms ⟨s, d, o, b⟩) (layT ms ts t) ∧ Below w.heap.size w w' := by
  have R0 := Aside0.mk hR
  have M0 := Aside0.mk hM
  have HB := Aside0.mk (Below.refl w.heap.size w)
  clear hR hM
  obtain ⟨A0, c0, hv0⟩ := Kd.V_slice R0.out.1
  obtain ⟨A1, c1, hv1⟩ := Kd.V_slice R0.out.2
  subst hv0
  subst hv1
  go_enter Try.func20, Try.ntmps20
  go_wp2_with ((with_reducible refine gate_dst (N := 3) rfl ?_); refine stop_here ?_)
  refine ⟨?_⟩
  refine box_event rfl (N := 3) rfl (cs := #[.slice A0 ms.length c0, .slice A1 ts.length c1]) (t := 29) ?hr3 ?_
  case hr3 => first | (go_simp; done) | (go_simp; rfl)
  intro g3 hg3 w3 hbox hb
  have B3 := Aside0.mk hbox
  have L3 := Aside0.mk (show w.heap.size ≤ g3 by rw [hg3]; exact Nat.le_refl _)
  have H3 := Aside0.mk (below_step HB.out hb)
  clear hg3 hbox hb HB
  go_wp2_with ((with_reducible refine gate_dst (N := 4) rfl ?_); refine stop_here ?_)
  refine ⟨?_⟩
  refine box_event rfl (N := 4) rfl (cs := ⟨[.string s, .int .i64 d, .string o, .slice A b.length c]⟩) (t := 32) ?hr4 ?_
  case hr4 => first | (go_simp; done) | (go_simp; rfl)
  intro g4 hg4 w4 hbox hb
  have B4 := Aside0.mk hbox
  have B34 := Aside0.mk (blk_below B3.out hb)
  have H4 := Aside0.mk (below_step H3.out hb)
  clear hg4 hbox hb H3 B3
  go_wp2_with ((with_reducible refine gate_dst (N := 6) rfl ?_); refine stop_here ?_)
  refine ⟨?_⟩
  refine box_event rfl (N := 6) rfl (cs := #[.slice none 0 0, .slice none 0 0]) (t := 29) ?hr6 ?_
  case hr6 => first | (go_simp; done) | (go_simp; rfl)
  intro g6 hg6 w6 hbox hb
  have B6 := Aside0.mk hbox
  have L6 := Aside0.mk (show w.heap.size ≤ g6 by rw [hg6]; exact H4.out.size)
  have B36 := Aside0.mk (blk_below B34.out hb)
  have B46 := Aside0.mk (blk_below B4.out hb)
  have H6 := Aside0.mk (below_step H4.out hb)
  clear hg6 hbox hb H4 B34 B4
  have k0 := (blk_cell B36.out 0).trans (show (#[Value.slice A0 ms.length c0, .slice A1 ts.length c1] : Array Value)[0]? = some _ from rfl)
  have zl : (ms.length : Int) ≤ 200 := by omega
  by_cases hlen : ms.length = 200
  · have lt : ((ms.length : Int) == 200) = true := by simpa using (by omega : (ms.length : Int) = 200)
    have HL := Aside0.mk hlen
    clear hlen
    go_wp2_with ((with_reducible refine gate_dst (N := 11) rfl ?_); refine stop_here ?_)
    refine ⟨?_⟩
    refine wpList_load_row rfl 29 (.tmp 3) rfl g3 rfl 29 #[.slice A0 ms.length c0, .slice A1 ts.length c1] (0, 0) _ B36.out Try.underlying29 rfl rfl ?_
    go_wp2_with ((with_reducible refine gate_store (t := 29) (p := 6) rfl ?_); refine stop_here ?_)
    refine ⟨?_⟩
    refine wpList_store_mid rfl 29 (.tmp 6) (.tmp 11) rfl g6 0 #[.slice A0 ms.length c0, .slice A1 ts.length c1] rfl rfl (by have h := box_there B6.out; exact h) rfl (two_one _ _ _ _ _ _) ?_
    have B7 := Aside0.mk (box_put [.slice A0 ms.length c0, .slice A1 ts.length c1] B6.out rfl)
    have F7 := Aside0.mk (below_frame H6.out (Frame.of_setCells w6 g6 0 [.slice A0 ms.length c0, .slice A1 ts.length c1]) H6.out.size (fun k e => by rw [e]; exact L6.out))
    obtain ⟨w7, hw7⟩ : ∃ w7, w6.setCells g6 0 [.slice A0 ms.length c0, .slice A1 ts.length c1] = w7 := ⟨_, rfl⟩
    have e7 : w6.setCells g6 0 (#[.slice A0 ms.length c0, .slice A1 ts.length c1] : Array Value).toList = w7 := hw7
    rw [e7]
    rw [hw7] at B7 F7
    clear hw7 e7
    go_wp2
    refine bodyPost_ret (results_cell_row rfl _ _ g6 29 ⟨[.slice A0 ms.length c0, .slice A1 ts.length c1]⟩ (0, 0) _ rfl B7.out Try.underlying29 rfl (by kernel_rfl)) rfl ⟨⟨_, _, rfl, ?_⟩, F7.out⟩
    unfold layM layT
    rw [if_pos HL.out, if_pos HL.out]
    exact (R0.out.below F7.out).mono (fun _ h => .inl h)
  · have lt : ((ms.length : Int) == 200) = false := by simpa using (by omega : ¬ (ms.length : Int) = 200)
    have HL := Aside0.mk hlen
    clear hlen
    obtain ⟨rows, hrl, hrr, hrf⟩ := Kd.reads_raw (Kd.F_rows (Kd.V_F R0.out.1)) (fun y c hk => ⟨k32.K_len (Kd.FK_now hk), k32.K_one (Kd.FK_now hk)⟩)
    have HRF := Aside0.mk hrf
    have HRR := Aside0.mk hrr
    have HRL := Aside0.mk hrl
    have HTS := Aside0.mk (Kd.V_reads' R0.out.2).2.2
    clear hrl hrr hrf
    go_wp2
    obtain ⟨W, hWd⟩ : ∃ W, w6.drew = W := ⟨_, rfl⟩
    have hW : Below w.heap.size w W := by rw [← hWd]; exact below_drew1 H6.out
    have W3 : W.heap[g3]? = some (.cells #[.slice A0 ms.length c0, .slice A1 ts.length c1] 29 (0, 0)) := by rw [← hWd]; exact blk_drew B36.out
    have W4 : W.heap[g4]? = some (.cells ⟨[.string s, .int .i64 d, .string o, .slice A b.length c]⟩ 32 (0, 0)) := by rw [← hWd]; exact blk_drew B46.out
    have W6 : W.heap[g6]? = some (.cells #[.slice none 0 0, .slice none 0 0] 29 (0, 0)) := by rw [← hWd]; exact blk_drew B6.out
    have h6 := L6.out
    have hrows : (Kd.raw 4).C W A0 ms.length rows := by exact rows_below HRR.out hW
    have hts' : (Kd.int .i64).C W A1 ts.length ts := by exact ints_below HTS.out hW
    refine region_inv (P := Try.prog) ?hm (LayG w W g3 g4 g6 A0 ms.length c0 A1 ts.length c1 [.string s, .int .i64 d, .string o, .slice A b.length c] rows ts t (.agg #[.slice A0 ms.length c0, .slice A1 ts.length c1]) (.agg #[.string s, .int .i64 d, .string o, .slice A b.length c]) undef (.pointer (some ⟨g3, 0, none⟩)) (.slice A0 ms.length c0) (.int .i64 (ms.length : Int)) (.bool false) undef) ?hz ?hd ?he ?hs ?h0
    case hm => kernel_rfl
    case hz => exact fun _ _ _ h => h.1
    case hd => kernel_rfl
    case h0 =>
      rw [hWd]
      refine ⟨rfl, fun _ => false, fun _ => undef, fun j => ?_, rfl, ?_, hW⟩
      · rw [Array.getD_eq_getD_getElem?, Array.getElem?_replicate]
        split <;> rfl
      · refine ⟨?_, ?_, ?_, ?_, ?_, ?_, ?_, ?_, ?_, ?_, ?_, ?_, ?_, ?_, ?_, ?_, ?_, ?_, fun _ => Below.refl _ _, ?_, ?_, ?_, ?_, ?_, ?_, ?_, ?_, ?_, ?_, ?_, ?_, ?_, ?_, ?_, ?_, ?_, ?_, ?_, ?_, ?_, ?_, ?_, ?_, ?_, ?_, ?_, ?_, ?_, ?_⟩ <;> (intro h; cases h)
    case he =>
      intro l a w' hG hall
      obtain ⟨hsz, L, x, hL, rfl, hF, hB0⟩ := hG
      have hA : ∀ j, j < 16 → L j = true := fun j hj => (hL j).symm.trans (hall j hj)
      have E18 := Aside0.mk (hF.r18 (hA 6 (by omega)))
      have E25 := Aside0.mk (hF.r25 (hA 13 (by omega)))
      have ES := Aside0.mk (hF.st (hA 15 (by omega)))
      have EB := Aside0.mk hB0
      have HW := Aside0.mk hW
      clear hF hB0 hA hall hL hsz hW W3 W4 W6 hrows hts' h6 hWd
      go_wp2
      refine bodyPost_ret (results_cell_row rfl _ _ g6 29 #[x 18, x 25] (0, 0) _ rfl ES.out Try.underlying29 rfl (by kernel_rfl)) rfl ⟨⟨_, _, rfl, ?_, ?_⟩, EB.out⟩
      · unfold layM
        rw [if_neg HL.out]
        have hown : ∀ k, (x 18).ownBlock = some k → w.heap.size ≤ k := fun k e => Nat.le_trans HW.out.size (Kd.R_base E18.out k e)
        refine Kd.N_V (base := W.heap.size) ⟨fun k e => .inr (hown k e), rows ++ [[.string s, .int .i64 d, .string o, .slice A b.length c]], by rw [List.length_append, List.length_append, HRL.out]; rfl, Kd.raw_tight (show (Kd.raw k32.sz).R 32 w' W.heap.size (fun _ => True) (x 18) (rows ++ [[.string s, .int .i64 d, .string o, .slice A b.length c]]) from E18.out), fun j y cs hy hc => ?_⟩
        have hold : ∀ k, (ok k ∧ k < w.heap.size) → (ok k ∨ w.heap.size ≤ k) ∧ some k ≠ (x 18).ownBlock := fun k hk => ⟨.inl hk.1, fun e => by have := hown k e.symm; omega⟩
        by_cases hj : j < ms.length
        · rw [List.getElem?_append_left hj] at hy
          rw [List.getElem?_append_left (by rw [HRL.out]; exact hj)] at hc
          exact Kd.FK_mono (Kd.FK_below (Kd.FK_bound (HRF.out j y cs hy hc)) EB.out) hold
        · rw [List.getElem?_append_right (by omega)] at hy
          rw [List.getElem?_append_right (by rw [HRL.out]; omega), HRL.out] at hc
          obtain ⟨q, hq⟩ : ∃ q, j - ms.length = q := ⟨_, rfl⟩
          rw [hq] at hy hc
          rcases q with _ | q
          · simp only [List.getElem?_cons_zero, Option.some.injEq] at hy hc
            subst hy
            subst hc
            obtain ⟨_, h1, h2⟩ := Kd.V_at M0.out
            exact k32_mkF w' _ (x := ⟨s, d, o, b⟩) h1 (Kd.F_mono (Kd.F_below (Kd.F_bound h2) EB.out) hold)
          · simp at hy
      · unfold layT
        rw [if_neg HL.out]
        exact Kd.V_mono (Kd.R_V (Kd.R_tight rfl E25.out)) (fun k e => .inr (Nat.le_trans HW.out.size (Kd.R_base E25.out k e.symm)))
    case hs =>
      intro l a w' i hG hi
      obtain ⟨hsz, L, x, hL, rfl, hF, hB0⟩ := hG
      obtain ⟨hi1, hi2, hi3⟩ := ready_spec hi
      have hi16 : i < 16 := hi1
      have hii : i = 0 ∨ i = 1 ∨ i = 2 ∨ i = 3 ∨ i = 4 ∨ i = 5 ∨ i = 6 ∨ i = 7 ∨ i = 8 ∨ i = 9 ∨ i = 10 ∨ i = 11 ∨ i = 12 ∨ i = 13 ∨ i = 14 ∨ i = 15 := by omega
      clear hi hi1 hi16
      rcases hii with rfl | rfl | rfl | rfl | rfl | rfl | rfl | rfl | rfl | rfl | rfl | rfl | rfl | rfl | rfl | rfl
      · have li : L 0 = false := (hL 0).symm.trans (getD_tf (by omega) hi2)
        refine wpOp_of rfl ?_
        have hbl : Below W.heap.size W w' := (by cases h : L 15 with | false => exact hF.bl h | true => exact tf (hF.e15_0 h) li)
        refine Kd.R_lit_step (Kd.raw 4) (w0 := W) W.heap.size 32 (by rfl) (N := 12) rfl (xs := ([] : List (List Value))) (inner := []) (ok := fun _ => True) (okp := fun _ => True) ?hr ?hp (fun _ _ => trivial) trivial hbl hbl.size (by simp) ?_
        case hr => first | (go_simp; done) | (go_simp; rfl)
        case hp => exact ⟨rfl, fun j p h => by simp at h⟩
        intro v1 w1 hr hb hg hat
        have hFo := hF
        have hF1 := hF.below (below_of_grown hg)
        clear hF
        have hF := hF1
        exact ⟨by rw [Array.size_setIfInBounds]; exact hsz, up L 0, put1 x 12 v1, up_at (by omega) hL, rfl,
        ⟨hF.p13, hF.p14, hF.p16, hF.p20, hF.p21, hF.p23,
        (fun a0 => tf (hF.e3_0 (hF.e6_3 (hF.e14_6 a0))) li), (fun _ _ => hr), (fun a0 a1 => tf (hF.e3_0 a0) li), hF.r17, (fun a0 => tf (hF.e3_0 (hF.e6_3 a0)) li), hF.r19,
        (fun a0 a1 => tf (hF.e3_0 (hF.e6_3 (hF.e10_6 a0))) li), hF.r24, (fun a0 => tf (hF.e3_0 (hF.e6_3 (hF.e10_6 (hF.e13_10 a0)))) li), (fun _ a1 _ a3 k hk e => new_ne hat (Kd.R_lt (hFo.r17 a1 a3)) hk e), hF.q2, (fun a0 => tf (hF.e15_0 a0) li),
        hF.bl, hF.e2_1, (fun _ => rfl), hF.e3_2, hF.e5_4, hF.e6_3,
        hF.e6_5, hF.e9_8, hF.e10_7, hF.e10_9, hF.e10_6, hF.e12_11,
        hF.e13_10, hF.e13_12, hF.e14_6, hF.e14_13, (fun _ => rfl), hF.e15_1,
        hF.e15_2, hF.e15_3, hF.e15_4, hF.e15_5, hF.e15_6, hF.e15_7,
        hF.e15_8, hF.e15_9, hF.e15_10, hF.e15_11, hF.e15_12, hF.e15_13,
        hF.e15_14⟩, below_step hW hb⟩
      · have li : L 1 = false := (hL 1).symm.trans (getD_tf (by omega) hi2)
        refine wpOp_of rfl ?_
        refine event_step (w1 := w') (v := .pointer (some ⟨g3, 0, none⟩)) (by rfl) ?hr ?_
        case hr => first | (go_simp; done) | (go_simp; rfl)
        exact ⟨by rw [Array.size_setIfInBounds]; exact hsz, up L 1, put1 x 13 (.pointer (some ⟨g3, 0, none⟩)), up_at (by omega) hL, rfl,
        ⟨(fun _ => rfl), (fun a0 => tf (hF.e2_1 a0) li), hF.p16, hF.p20, hF.p21, hF.p23,
        (fun a0 => tf (hF.e2_1 (hF.e3_2 (hF.e6_3 (hF.e14_6 a0)))) li), hF.r12, (fun a0 a1 => tf (hF.e2_1 (hF.e3_2 a0)) li), hF.r17, (fun a0 => tf (hF.e2_1 (hF.e3_2 (hF.e6_3 a0))) li), hF.r19,
        (fun a0 a1 => tf (hF.e2_1 (hF.e3_2 (hF.e6_3 (hF.e10_6 a0)))) li), hF.r24, (fun a0 => tf (hF.e2_1 (hF.e3_2 (hF.e6_3 (hF.e10_6 (hF.e13_10 a0))))) li), hF.q1, hF.q2, (fun a0 => tf (hF.e15_1 a0) li),
        hF.bl, (fun _ => rfl), hF.e3_0, hF.e3_2, hF.e5_4, hF.e6_3,
        hF.e6_5, hF.e9_8, hF.e10_7, hF.e10_9, hF.e10_6, hF.e12_11,
        hF.e13_10, hF.e13_12, hF.e14_6, hF.e14_13, hF.e15_0, (fun _ => rfl),
        hF.e15_2, hF.e15_3, hF.e15_4, hF.e15_5, hF.e15_6, hF.e15_7,
        hF.e15_8, hF.e15_9, hF.e15_10, hF.e15_11, hF.e15_12, hF.e15_13,
        hF.e15_14⟩, hB0⟩
      · have li : L 2 = false := (hL 2).symm.trans (getD_tf (by omega) hi2)
        have d1 : L 1 = true := (hL 1).symm.trans (hi3 _ rfl 0 (by decide) rfl)
        refine wpOp_of rfl ?_
        have hbl : Below W.heap.size W w' := (by cases h : L 15 with | false => exact hF.bl h | true => exact tf (hF.e15_2 h) li)
        have c0' := (blk_cell (blk_below W3 hbl) 0).trans (show (#[Value.slice A0 ms.length c0, .slice A1 ts.length c1] : Array Value)[0]? = some _ from rfl)
        have e13 := hF.p13 d1
        refine event_step (w1 := w') (v := .slice A0 ms.length c0) (by rfl) ?hr ?_
        case hr => first | (go_simp; done) | (go_simp; rfl)
        exact ⟨by rw [Array.size_setIfInBounds]; exact hsz, up L 2, put1 x 14 (.slice A0 ms.length c0), up_at (by omega) hL, rfl,
        ⟨hF.p13, (fun _ => rfl), hF.p16, hF.p20, hF.p21, hF.p23,
        (fun a0 => tf (hF.e3_2 (hF.e6_3 (hF.e14_6 a0))) li), hF.r12, (fun a0 a1 => tf (hF.e3_2 a0) li), hF.r17, (fun a0 => tf (hF.e3_2 (hF.e6_3 a0)) li), hF.r19,
        (fun a0 a1 => tf (hF.e3_2 (hF.e6_3 (hF.e10_6 a0))) li), hF.r24, (fun a0 => tf (hF.e3_2 (hF.e6_3 (hF.e10_6 (hF.e13_10 a0)))) li), hF.q1, hF.q2, (fun a0 => tf (hF.e15_2 a0) li),
        hF.bl, (fun _ => d1), hF.e3_0, (fun _ => rfl), hF.e5_4, hF.e6_3,
        hF.e6_5, hF.e9_8, hF.e10_7, hF.e10_9, hF.e10_6, hF.e12_11,
        hF.e13_10, hF.e13_12, hF.e14_6, hF.e14_13, hF.e15_0, hF.e15_1,
        (fun _ => rfl), hF.e15_3, hF.e15_4, hF.e15_5, hF.e15_6, hF.e15_7,
        hF.e15_8, hF.e15_9, hF.e15_10, hF.e15_11, hF.e15_12, hF.e15_13,
        hF.e15_14⟩, hB0⟩
      · have li : L 3 = false := (hL 3).symm.trans (getD_tf (by omega) hi2)
        have d0 : L 0 = true := (hL 0).symm.trans (hi3 _ rfl 0 (by decide) rfl)
        have d2 : L 2 = true := (hL 2).symm.trans (hi3 _ rfl 1 (by decide) rfl)
        refine wpOp_of rfl ?_
        have hbl : Below W.heap.size W w' := (by cases h : L 15 with | false => exact hF.bl h | true => exact tf (hF.e15_3 h) li)
        refine Kd.R_append_rows_step (Kd.raw 4) (w0 := W) W.heap.size (by rfl) (.tmp 12) (.tmp 14) 26 32 (.agg #[.string ⟨#[]⟩, .int .i64 0, .string ⟨#[]⟩, .slice none 0 0]) 64 rfl Try.underlying26 infoMl rfl (by decide) (by omega) (x 12) [] rows A0 ms.length c0 (fun _ => True) (fun _ => False) rfl (hF.p14 d2) (hF.r12 d0 li) (rows_below hrows hbl) (fun _ _ h => h) (fun _ h => h.elim) (fun _ _ => trivial) hbl hbl.size (by simp; omega) ?_
        intro v1 w1 hr hb hg hat
        exact ⟨by rw [Array.size_setIfInBounds]; exact hsz, up L 3, put1 x 15 v1, up_at (by omega) hL, rfl,
        ⟨hF.p13, hF.p14, hF.p16, hF.p20, hF.p21, hF.p23,
        (fun a0 => tf (hF.e6_3 (hF.e14_6 a0)) li), (fun a0 a1 => (up_self L 3 a1).elim), (fun _ _ => hr), (fun a0 a1 => ((hF.r17 a0 a1)).grown hg (hF.q1 d0 a0 li a1)), (fun a0 => tf (hF.e6_3 a0) li), (fun a0 a1 => ((hF.r19 a0 a1)).grown hg (mi_ne (hF.r12 d0 li) (hF.r19 a0 a1))),
        (fun a0 a1 => tf (hF.e6_3 (hF.e10_6 a0)) li), (fun a0 a1 => ((hF.r24 a0 a1)).grown hg (mi_ne (hF.r12 d0 li) (hF.r24 a0 a1))), (fun a0 => tf (hF.e6_3 (hF.e10_6 (hF.e13_10 a0))) li), (fun a0 a1 a2 a3 => (up_self L 3 a2).elim), hF.q2, (fun a0 => tf (hF.e15_3 a0) li),
        (fun _ => hb), hF.e2_1, (fun _ => d0), (fun _ => d2), hF.e5_4, (fun _ => rfl),
        hF.e6_5, hF.e9_8, hF.e10_7, hF.e10_9, hF.e10_6, hF.e12_11,
        hF.e13_10, hF.e13_12, hF.e14_6, hF.e14_13, hF.e15_0, hF.e15_1,
        hF.e15_2, (fun _ => rfl), hF.e15_4, hF.e15_5, hF.e15_6, hF.e15_7,
        hF.e15_8, hF.e15_9, hF.e15_10, hF.e15_11, hF.e15_12, hF.e15_13,
        hF.e15_14⟩, below_step hW hb⟩
      · have li : L 4 = false := (hL 4).symm.trans (getD_tf (by omega) hi2)
        refine wpOp_of rfl ?_
        have hbl : Below W.heap.size W w' := (by cases h : L 15 with | false => exact hF.bl h | true => exact tf (hF.e15_4 h) li)
        refine event_step (w1 := w') (v := .agg ⟨[.string s, .int .i64 d, .string o, .slice A b.length c]⟩) (by rfl) ?hr ?_
        case hr => exact load_mid_run 32 (.tmp 4) rfl g4 0 rfl [.string s, .int .i64 d, .string o, .slice A b.length c] _ (row_range (blk_below W4 hbl)) Try.underlying32 rfl rfl
        exact ⟨by rw [Array.size_setIfInBounds]; exact hsz, up L 4, put1 x 16 (.agg ⟨[.string s, .int .i64 d, .string o, .slice A b.length c]⟩), up_at (by omega) hL, rfl,
        ⟨hF.p13, hF.p14, (fun _ => rfl), hF.p20, hF.p21, hF.p23,
        (fun a0 => tf (hF.e5_4 (hF.e6_5 (hF.e14_6 a0))) li), hF.r12, hF.r15, (fun a0 a1 => tf (hF.e5_4 a0) li), (fun a0 => tf (hF.e5_4 (hF.e6_5 a0)) li), hF.r19,
        (fun a0 a1 => tf (hF.e5_4 (hF.e6_5 (hF.e10_6 a0))) li), hF.r24, (fun a0 => tf (hF.e5_4 (hF.e6_5 (hF.e10_6 (hF.e13_10 a0)))) li), (fun a0 a1 a2 a3 => tf (hF.e5_4 a1) li), hF.q2, (fun a0 => tf (hF.e15_4 a0) li),
        hF.bl, hF.e2_1, hF.e3_0, hF.e3_2, (fun _ => rfl), hF.e6_3,
        hF.e6_5, hF.e9_8, hF.e10_7, hF.e10_9, hF.e10_6, hF.e12_11,
        hF.e13_10, hF.e13_12, hF.e14_6, hF.e14_13, hF.e15_0, hF.e15_1,
        hF.e15_2, hF.e15_3, (fun _ => rfl), hF.e15_5, hF.e15_6, hF.e15_7,
        hF.e15_8, hF.e15_9, hF.e15_10, hF.e15_11, hF.e15_12, hF.e15_13,
        hF.e15_14⟩, hB0⟩
      · have li : L 5 = false := (hL 5).symm.trans (getD_tf (by omega) hi2)
        have d4 : L 4 = true := (hL 4).symm.trans (hi3 _ rfl 0 (by decide) rfl)
        refine wpOp_of rfl ?_
        have hbl : Below W.heap.size W w' := (by cases h : L 15 with | false => exact hF.bl h | true => exact tf (hF.e15_5 h) li)
        have e16 := hF.p16 d4
        refine Kd.R_lit_step (Kd.raw 4) (w0 := W) W.heap.size 32 (by rfl) (N := 17) rfl (xs := [[.string s, .int .i64 d, .string o, .slice A b.length c]]) (inner := [.string s, .int .i64 d, .string o, .slice A b.length c]) (ok := fun _ => True) (okp := fun _ => True) ?hr ?hp (fun _ _ => trivial) trivial hbl hbl.size (by simp) ?_
        case hr => first | (go_simp; done) | (go_simp; rfl)
        case hp => exact ⟨rfl, fun j p h => by
          rcases j with _ | j
          · simp only [List.getElem?_cons_zero, Option.some.injEq] at h
            subst h
            refine ⟨rfl, rfl, fun u hu => ?_⟩
            have hu' : u ∈ [.string s, .int .i64 d, .string o, .slice A b.length c] := hu
            simp only [List.mem_cons, List.not_mem_nil, or_false] at hu'
            rcases hu' with rfl | rfl | rfl | rfl <;> rfl
          · simp at h⟩
        intro v1 w1 hr hb hg hat
        have hFo := hF
        have hF1 := hF.below (below_of_grown hg)
        clear hF
        have hF := hF1
        exact ⟨by rw [Array.size_setIfInBounds]; exact hsz, up L 5, put1 x 17 v1, up_at (by omega) hL, rfl,
        ⟨hF.p13, hF.p14, hF.p16, hF.p20, hF.p21, hF.p23,
        (fun a0 => tf (hF.e6_5 (hF.e14_6 a0)) li), hF.r12, hF.r15, (fun _ _ => hr), (fun a0 => tf (hF.e6_5 a0) li), hF.r19,
        (fun a0 a1 => tf (hF.e6_5 (hF.e10_6 a0)) li), hF.r24, (fun a0 => tf (hF.e6_5 (hF.e10_6 (hF.e13_10 a0))) li), (fun a0 _ a2 _ k hk e => new_ne hat (Kd.R_lt (hFo.r12 a0 a2)) e.symm hk.symm), hF.q2, (fun a0 => tf (hF.e15_5 a0) li),
        hF.bl, hF.e2_1, hF.e3_0, hF.e3_2, (fun _ => d4), hF.e6_3,
        (fun _ => rfl), hF.e9_8, hF.e10_7, hF.e10_9, hF.e10_6, hF.e12_11,
        hF.e13_10, hF.e13_12, hF.e14_6, hF.e14_13, hF.e15_0, hF.e15_1,
        hF.e15_2, hF.e15_3, hF.e15_4, (fun _ => rfl), hF.e15_6, hF.e15_7,
        hF.e15_8, hF.e15_9, hF.e15_10, hF.e15_11, hF.e15_12, hF.e15_13,
        hF.e15_14⟩, below_step hW hb⟩
      · have li : L 6 = false := (hL 6).symm.trans (getD_tf (by omega) hi2)
        have d3 : L 3 = true := (hL 3).symm.trans (hi3 _ rfl 0 (by decide) rfl)
        have d5 : L 5 = true := (hL 5).symm.trans (hi3 _ rfl 1 (by decide) rfl)
        refine wpOp_of rfl ?_
        have hbl : Below W.heap.size W w' := (by cases h : L 15 with | false => exact hF.bl h | true => exact tf (hF.e15_6 h) li)
        have h17 := hF.r17 d5 li
        obtain ⟨A17, c17, e17⟩ := Kd.R_slice h17
        have hR17 := Kd.R_reads' (by rw [e17] at h17; exact h17)
        refine Kd.R_append_rows_step (Kd.raw 4) (w0 := W) W.heap.size (by rfl) (.tmp 15) (.tmp 17) 26 32 (.agg #[.string ⟨#[]⟩, .int .i64 0, .string ⟨#[]⟩, .slice none 0 0]) 64 rfl Try.underlying26 infoMl rfl (by decide) (by omega) (x 15) rows [[.string s, .int .i64 d, .string o, .slice A b.length c]] A17 1 c17 (fun _ => True) (fun _ => False) rfl (e17) (hF.r15 d3 li) (hR17.2.2) (fun _ _ h => h) (fun _ h => h.elim) (fun _ _ => trivial) hbl hbl.size (by have := HRL.out; omega) ?_
        intro v1 w1 hr hb hg hat
        exact ⟨by rw [Array.size_setIfInBounds]; exact hsz, up L 6, put1 x 18 v1, up_at (by omega) hL, rfl,
        ⟨hF.p13, hF.p14, hF.p16, hF.p20, hF.p21, hF.p23,
        (fun a0 => tf (hF.e14_6 a0) li), (fun a0 a1 => tf d3 a1), (fun a0 a1 => (up_self L 6 a1).elim), (fun a0 a1 => (up_self L 6 a1).elim), (fun _ => hr), (fun a0 a1 => ((hF.r19 a0 a1)).grown hg (mi_ne (hF.r15 d3 li) (hF.r19 a0 a1))),
        (fun a0 a1 => tf (hF.e10_6 a0) li), (fun a0 a1 => ((hF.r24 a0 a1)).grown hg (mi_ne (hF.r15 d3 li) (hF.r24 a0 a1))), (fun a0 => tf (hF.e10_6 (hF.e13_10 a0)) li), (fun a0 a1 a2 a3 => (up_self L 6 a3).elim), hF.q2, (fun a0 => tf (hF.e15_6 a0) li),
        (fun _ => hb), hF.e2_1, hF.e3_0, hF.e3_2, hF.e5_4, (fun _ => d3),
        (fun _ => d5), hF.e9_8, hF.e10_7, hF.e10_9, (fun _ => rfl), hF.e12_11,
        hF.e13_10, hF.e13_12, (fun _ => rfl), hF.e14_13, hF.e15_0, hF.e15_1,
        hF.e15_2, hF.e15_3, hF.e15_4, hF.e15_5, (fun _ => rfl), hF.e15_7,
        hF.e15_8, hF.e15_9, hF.e15_10, hF.e15_11, hF.e15_12, hF.e15_13,
        hF.e15_14⟩, below_step hW hb⟩
      · have li : L 7 = false := (hL 7).symm.trans (getD_tf (by omega) hi2)
        refine wpOp_of rfl ?_
        have hbl : Below W.heap.size W w' := (by cases h : L 15 with | false => exact hF.bl h | true => exact tf (hF.e15_7 h) li)
        refine Kd.R_lit_step (Kd.int .i64) (w0 := W) W.heap.size 3 (by rfl) (N := 19) rfl (xs := ([] : List Int)) (inner := []) (ok := fun _ => True) (okp := fun _ => True) ?hr ?hp (fun _ _ => trivial) trivial hbl hbl.size (by simp) ?_
        case hr => first | (go_simp; done) | (go_simp; rfl)
        case hp => exact ⟨rfl, fun j p h => by simp at h⟩
        intro v1 w1 hr hb hg hat
        have hFo := hF
        have hF1 := hF.below (below_of_grown hg)
        clear hF
        have hF := hF1
        exact ⟨by rw [Array.size_setIfInBounds]; exact hsz, up L 7, put1 x 19 v1, up_at (by omega) hL, rfl,
        ⟨hF.p13, hF.p14, hF.p16, hF.p20, hF.p21, hF.p23,
        (fun a0 => tf (hF.e10_7 (hF.e13_10 (hF.e14_13 a0))) li), hF.r12, hF.r15, hF.r17, hF.r18, (fun _ _ => hr),
        (fun a0 a1 => tf (hF.e10_7 a0) li), hF.r24, (fun a0 => tf (hF.e10_7 (hF.e13_10 a0)) li), hF.q1, (fun _ a1 _ a3 k hk e => new_ne hat (Kd.R_lt (hFo.r24 a1 a3)) hk e), (fun a0 => tf (hF.e15_7 a0) li),
        hF.bl, hF.e2_1, hF.e3_0, hF.e3_2, hF.e5_4, hF.e6_3,
        hF.e6_5, hF.e9_8, (fun _ => rfl), hF.e10_9, hF.e10_6, hF.e12_11,
        hF.e13_10, hF.e13_12, hF.e14_6, hF.e14_13, hF.e15_0, hF.e15_1,
        hF.e15_2, hF.e15_3, hF.e15_4, hF.e15_5, hF.e15_6, (fun _ => rfl),
        hF.e15_8, hF.e15_9, hF.e15_10, hF.e15_11, hF.e15_12, hF.e15_13,
        hF.e15_14⟩, below_step hW hb⟩
      · have li : L 8 = false := (hL 8).symm.trans (getD_tf (by omega) hi2)
        refine wpOp_of rfl ?_
        refine event_step (w1 := w') (v := .pointer (some ⟨g3, 1, none⟩)) (by rfl) ?hr ?_
        case hr => first | (go_simp; done) | (go_simp; rfl)
        exact ⟨by rw [Array.size_setIfInBounds]; exact hsz, up L 8, put1 x 20 (.pointer (some ⟨g3, 1, none⟩)), up_at (by omega) hL, rfl,
        ⟨hF.p13, hF.p14, hF.p16, (fun _ => rfl), (fun a0 => tf (hF.e9_8 a0) li), hF.p23,
        (fun a0 => tf (hF.e9_8 (hF.e10_9 (hF.e13_10 (hF.e14_13 a0)))) li), hF.r12, hF.r15, hF.r17, hF.r18, hF.r19,
        (fun a0 a1 => tf (hF.e9_8 (hF.e10_9 a0)) li), hF.r24, (fun a0 => tf (hF.e9_8 (hF.e10_9 (hF.e13_10 a0))) li), hF.q1, hF.q2, (fun a0 => tf (hF.e15_8 a0) li),
        hF.bl, hF.e2_1, hF.e3_0, hF.e3_2, hF.e5_4, hF.e6_3,
        hF.e6_5, (fun _ => rfl), hF.e10_7, hF.e10_9, hF.e10_6, hF.e12_11,
        hF.e13_10, hF.e13_12, hF.e14_6, hF.e14_13, hF.e15_0, hF.e15_1,
        hF.e15_2, hF.e15_3, hF.e15_4, hF.e15_5, hF.e15_6, hF.e15_7,
        (fun _ => rfl), hF.e15_9, hF.e15_10, hF.e15_11, hF.e15_12, hF.e15_13,
        hF.e15_14⟩, hB0⟩
      · have li : L 9 = false := (hL 9).symm.trans (getD_tf (by omega) hi2)
        have d8 : L 8 = true := (hL 8).symm.trans (hi3 _ rfl 0 (by decide) rfl)
        refine wpOp_of rfl ?_
        have hbl : Below W.heap.size W w' := (by cases h : L 15 with | false => exact hF.bl h | true => exact tf (hF.e15_9 h) li)
        have c1' := (blk_cell (blk_below W3 hbl) 1).trans (show (#[Value.slice A0 ms.length c0, .slice A1 ts.length c1] : Array Value)[1]? = some _ from rfl)
        have e20 := hF.p20 d8
        refine event_step (w1 := w') (v := .slice A1 ts.length c1) (by rfl) ?hr ?_
        case hr => first | (go_simp; done) | (go_simp; rfl)
        exact ⟨by rw [Array.size_setIfInBounds]; exact hsz, up L 9, put1 x 21 (.slice A1 ts.length c1), up_at (by omega) hL, rfl,
        ⟨hF.p13, hF.p14, hF.p16, hF.p20, (fun _ => rfl), hF.p23,
        (fun a0 => tf (hF.e10_9 (hF.e13_10 (hF.e14_13 a0))) li), hF.r12, hF.r15, hF.r17, hF.r18, hF.r19,
        (fun a0 a1 => tf (hF.e10_9 a0) li), hF.r24, (fun a0 => tf (hF.e10_9 (hF.e13_10 a0)) li), hF.q1, hF.q2, (fun a0 => tf (hF.e15_9 a0) li),
        hF.bl, hF.e2_1, hF.e3_0, hF.e3_2, hF.e5_4, hF.e6_3,
        hF.e6_5, (fun _ => d8), hF.e10_7, (fun _ => rfl), hF.e10_6, hF.e12_11,
        hF.e13_10, hF.e13_12, hF.e14_6, hF.e14_13, hF.e15_0, hF.e15_1,
        hF.e15_2, hF.e15_3, hF.e15_4, hF.e15_5, hF.e15_6, hF.e15_7,
        hF.e15_8, (fun _ => rfl), hF.e15_10, hF.e15_11, hF.e15_12, hF.e15_13,
        hF.e15_14⟩, hB0⟩
      · have li : L 10 = false := (hL 10).symm.trans (getD_tf (by omega) hi2)
        have d7 : L 7 = true := (hL 7).symm.trans (hi3 _ rfl 0 (by decide) rfl)
        have d9 : L 9 = true := (hL 9).symm.trans (hi3 _ rfl 1 (by decide) rfl)
        have d6 : L 6 = true := (hL 6).symm.trans (hi3 _ rfl 2 (by decide) rfl)
        refine wpOp_of rfl ?_
        have hbl : Below W.heap.size W w' := (by cases h : L 15 with | false => exact hF.bl h | true => exact tf (hF.e15_10 h) li)
        refine Kd.R_append_rows_step (Kd.int .i64) (w0 := W) W.heap.size (by rfl) (.tmp 19) (.tmp 21) 27 3 (.int .i64 0) 8 rfl Try.underlying27 info3 rfl (by decide) (by omega) (x 19) [] ts A1 ts.length c1 (fun _ => True) (fun _ => False) rfl (hF.p21 d9) (hF.r19 d7 li) (ints_below hts' hbl) (fun _ _ h => h) (fun _ h => h.elim) (fun _ _ => trivial) hbl hbl.size (by simp; omega) ?_
        intro v1 w1 hr hb hg hat
        exact ⟨by rw [Array.size_setIfInBounds]; exact hsz, up L 10, put1 x 22 v1, up_at (by omega) hL, rfl,
        ⟨hF.p13, hF.p14, hF.p16, hF.p20, hF.p21, hF.p23,
        (fun a0 => tf (hF.e13_10 (hF.e14_13 a0)) li), (fun a0 a1 => tf (hF.e6_3 d6) a1), (fun a0 a1 => tf d6 a1), (fun a0 a1 => tf d6 a1), (fun a0 => ((hF.r18 a0)).grown hg (im_ne (hF.r18 a0) (hF.r19 d7 li))), (fun a0 a1 => (up_self L 10 a1).elim),
        (fun _ _ => hr), (fun a0 a1 => ((hF.r24 a0 a1)).grown hg (hF.q2 d7 a0 li a1)), (fun a0 => tf (hF.e13_10 a0) li), (fun a0 a1 a2 a3 => tf (hF.e6_3 d6) a2), (fun a0 a1 a2 a3 => (up_self L 10 a2).elim), (fun a0 => tf (hF.e15_10 a0) li),
        (fun _ => hb), hF.e2_1, hF.e3_0, hF.e3_2, hF.e5_4, hF.e6_3,
        hF.e6_5, hF.e9_8, (fun _ => d7), (fun _ => d9), (fun _ => d6), hF.e12_11,
        (fun _ => rfl), hF.e13_12, hF.e14_6, hF.e14_13, hF.e15_0, hF.e15_1,
        hF.e15_2, hF.e15_3, hF.e15_4, hF.e15_5, hF.e15_6, hF.e15_7,
        hF.e15_8, hF.e15_9, (fun _ => rfl), hF.e15_11, hF.e15_12, hF.e15_13,
        hF.e15_14⟩, below_step hW hb⟩
      · have li : L 11 = false := (hL 11).symm.trans (getD_tf (by omega) hi2)
        refine wpOp_of rfl ?_
        refine event_step (w1 := w') (v := .int .i64 t) (by rfl) ?hr ?_
        case hr => first | (go_simp; done) | (go_simp; rfl)
        exact ⟨by rw [Array.size_setIfInBounds]; exact hsz, up L 11, put1 x 23 (.int .i64 t), up_at (by omega) hL, rfl,
        ⟨hF.p13, hF.p14, hF.p16, hF.p20, hF.p21, (fun _ => rfl),
        (fun a0 => tf (hF.e12_11 (hF.e13_12 (hF.e14_13 a0))) li), hF.r12, hF.r15, hF.r17, hF.r18, hF.r19,
        hF.r22, (fun a0 a1 => tf (hF.e12_11 a0) li), (fun a0 => tf (hF.e12_11 (hF.e13_12 a0)) li), hF.q1, (fun a0 a1 a2 a3 => tf (hF.e12_11 a1) li), (fun a0 => tf (hF.e15_11 a0) li),
        hF.bl, hF.e2_1, hF.e3_0, hF.e3_2, hF.e5_4, hF.e6_3,
        hF.e6_5, hF.e9_8, hF.e10_7, hF.e10_9, hF.e10_6, (fun _ => rfl),
        hF.e13_10, hF.e13_12, hF.e14_6, hF.e14_13, hF.e15_0, hF.e15_1,
        hF.e15_2, hF.e15_3, hF.e15_4, hF.e15_5, hF.e15_6, hF.e15_7,
        hF.e15_8, hF.e15_9, hF.e15_10, (fun _ => rfl), hF.e15_12, hF.e15_13,
        hF.e15_14⟩, hB0⟩
      · have li : L 12 = false := (hL 12).symm.trans (getD_tf (by omega) hi2)
        have d11 : L 11 = true := (hL 11).symm.trans (hi3 _ rfl 0 (by decide) rfl)
        refine wpOp_of rfl ?_
        have hbl : Below W.heap.size W w' := (by cases h : L 15 with | false => exact hF.bl h | true => exact tf (hF.e15_12 h) li)
        have e23 := hF.p23 d11
        refine Kd.R_lit_step (Kd.int .i64) (w0 := W) W.heap.size 3 (by rfl) (N := 24) rfl (xs := [t]) (inner := [.int .i64 t]) (ok := fun _ => True) (okp := fun _ => True) ?hr ?hp (fun _ _ => trivial) trivial hbl hbl.size (by simp) ?_
        case hr => first | (go_simp; done) | (go_simp; rfl)
        case hp => exact ⟨rfl, fun j p h => by
          rcases j with _ | j
          · simp only [List.getElem?_cons_zero, Option.some.injEq] at h
            subst h
            rfl
          · simp at h⟩
        intro v1 w1 hr hb hg hat
        have hFo := hF
        have hF1 := hF.below (below_of_grown hg)
        clear hF
        have hF := hF1
        exact ⟨by rw [Array.size_setIfInBounds]; exact hsz, up L 12, put1 x 24 v1, up_at (by omega) hL, rfl,
        ⟨hF.p13, hF.p14, hF.p16, hF.p20, hF.p21, hF.p23,
        (fun a0 => tf (hF.e13_12 (hF.e14_13 a0)) li), hF.r12, hF.r15, hF.r17, hF.r18, hF.r19,
        hF.r22, (fun _ _ => hr), (fun a0 => tf (hF.e13_12 a0) li), hF.q1, (fun a0 _ a2 _ k hk e => new_ne hat (Kd.R_lt (hFo.r19 a0 a2)) e.symm hk.symm), (fun a0 => tf (hF.e15_12 a0) li),
        hF.bl, hF.e2_1, hF.e3_0, hF.e3_2, hF.e5_4, hF.e6_3,
        hF.e6_5, hF.e9_8, hF.e10_7, hF.e10_9, hF.e10_6, (fun _ => d11),
        hF.e13_10, (fun _ => rfl), hF.e14_6, hF.e14_13, hF.e15_0, hF.e15_1,
        hF.e15_2, hF.e15_3, hF.e15_4, hF.e15_5, hF.e15_6, hF.e15_7,
        hF.e15_8, hF.e15_9, hF.e15_10, hF.e15_11, (fun _ => rfl), hF.e15_13,
        hF.e15_14⟩, below_step hW hb⟩
      · have li : L 13 = false := (hL 13).symm.trans (getD_tf (by omega) hi2)
        have d10 : L 10 = true := (hL 10).symm.trans (hi3 _ rfl 0 (by decide) rfl)
        have d12 : L 12 = true := (hL 12).symm.trans (hi3 _ rfl 1 (by decide) rfl)
        refine wpOp_of rfl ?_
        have hbl : Below W.heap.size W w' := (by cases h : L 15 with | false => exact hF.bl h | true => exact tf (hF.e15_13 h) li)
        have h24 := hF.r24 d12 li
        obtain ⟨A24, c24, e24⟩ := Kd.R_slice h24
        have hR24 := Kd.R_reads' (by rw [e24] at h24; exact h24)
        refine Kd.R_append_rows_step (Kd.int .i64) (w0 := W) W.heap.size (by rfl) (.tmp 22) (.tmp 24) 27 3 (.int .i64 0) 8 rfl Try.underlying27 info3 rfl (by decide) (by omega) (x 22) ts [t] A24 1 c24 (fun _ => True) (fun _ => False) rfl (e24) (hF.r22 d10 li) (hR24.2.2) (fun _ _ h => h) (fun _ h => h.elim) (fun _ _ => trivial) hbl hbl.size (by omega) ?_
        intro v1 w1 hr hb hg hat
        exact ⟨by rw [Array.size_setIfInBounds]; exact hsz, up L 13, put1 x 25 v1, up_at (by omega) hL, rfl,
        ⟨hF.p13, hF.p14, hF.p16, hF.p20, hF.p21, hF.p23,
        (fun a0 => tf (hF.e14_13 a0) li), (fun a0 a1 => tf (hF.e6_3 (hF.e10_6 d10)) a1), (fun a0 a1 => tf (hF.e10_6 d10) a1), (fun a0 a1 => tf (hF.e10_6 d10) a1), (fun a0 => ((hF.r18 a0)).grown hg (im_ne (hF.r18 a0) (hF.r22 d10 li))), (fun a0 a1 => tf d10 a1),
        (fun a0 a1 => (up_self L 13 a1).elim), (fun a0 a1 => (up_self L 13 a1).elim), (fun _ => hr), (fun a0 a1 a2 a3 => tf (hF.e6_3 (hF.e10_6 d10)) a2), (fun a0 a1 a2 a3 => (up_self L 13 a3).elim), (fun a0 => tf (hF.e15_13 a0) li),
        (fun _ => hb), hF.e2_1, hF.e3_0, hF.e3_2, hF.e5_4, hF.e6_3,
        hF.e6_5, hF.e9_8, hF.e10_7, hF.e10_9, hF.e10_6, hF.e12_11,
        (fun _ => d10), (fun _ => d12), hF.e14_6, (fun _ => rfl), hF.e15_0, hF.e15_1,
        hF.e15_2, hF.e15_3, hF.e15_4, hF.e15_5, hF.e15_6, hF.e15_7,
        hF.e15_8, hF.e15_9, hF.e15_10, hF.e15_11, hF.e15_12, (fun _ => rfl),
        hF.e15_14⟩, below_step hW hb⟩
      · have li : L 14 = false := (hL 14).symm.trans (getD_tf (by omega) hi2)
        have d6 : L 6 = true := (hL 6).symm.trans (hi3 _ rfl 0 (by decide) rfl)
        have d13 : L 13 = true := (hL 13).symm.trans (hi3 _ rfl 1 (by decide) rfl)
        refine wpOp_of rfl ?_
        obtain ⟨A18, c18, e18⟩ := Kd.R_slice (hF.r18 d6)
        obtain ⟨A25, c25, e25⟩ := Kd.R_slice (hF.r25 d13)
        refine event_step (w1 := w') (v := .agg #[x 18, x 25]) (by rfl) ?hr ?_
        case hr => first | (go_simp; done) | (go_simp; rfl)
        exact ⟨by rw [Array.size_setIfInBounds]; exact hsz, up L 14, put1 x 26 (.agg #[x 18, x 25]), up_at (by omega) hL, rfl,
        ⟨hF.p13, hF.p14, hF.p16, hF.p20, hF.p21, hF.p23,
        (fun _ => rfl), (fun a0 a1 => tf (hF.e6_3 d6) a1), (fun a0 a1 => tf d6 a1), (fun a0 a1 => tf d6 a1), hF.r18, (fun a0 a1 => tf (hF.e13_10 d13) a1),
        (fun a0 a1 => tf d13 a1), (fun a0 a1 => tf d13 a1), hF.r25, (fun a0 a1 a2 a3 => tf (hF.e6_3 d6) a2), (fun a0 a1 a2 a3 => tf (hF.e13_10 d13) a2), (fun a0 => tf (hF.e15_14 a0) li),
        hF.bl, hF.e2_1, hF.e3_0, hF.e3_2, hF.e5_4, hF.e6_3,
        hF.e6_5, hF.e9_8, hF.e10_7, hF.e10_9, hF.e10_6, hF.e12_11,
        hF.e13_10, hF.e13_12, (fun _ => d6), (fun _ => d13), hF.e15_0, hF.e15_1,
        hF.e15_2, hF.e15_3, hF.e15_4, hF.e15_5, hF.e15_6, hF.e15_7,
        hF.e15_8, hF.e15_9, hF.e15_10, hF.e15_11, hF.e15_12, hF.e15_13,
        (fun _ => rfl)⟩, hB0⟩
      · have li : L 15 = false := (hL 15).symm.trans (getD_tf (by omega) hi2)
        have d14 : L 14 = true := (hL 14).symm.trans (hi3 _ rfl 0 (by decide) rfl)
        have d13 : L 13 = true := (hL 13).symm.trans (hi3 _ rfl 1 (by decide) rfl)
        have d0 : L 0 = true := (hL 0).symm.trans (hi3 _ rfl 2 (by decide) rfl)
        have d1 : L 1 = true := (hL 1).symm.trans (hi3 _ rfl 3 (by decide) rfl)
        have d2 : L 2 = true := (hL 2).symm.trans (hi3 _ rfl 4 (by decide) rfl)
        have d3 : L 3 = true := (hL 3).symm.trans (hi3 _ rfl 5 (by decide) rfl)
        have d4 : L 4 = true := (hL 4).symm.trans (hi3 _ rfl 6 (by decide) rfl)
        have d5 : L 5 = true := (hL 5).symm.trans (hi3 _ rfl 7 (by decide) rfl)
        have d6 : L 6 = true := (hL 6).symm.trans (hi3 _ rfl 8 (by decide) rfl)
        have d7 : L 7 = true := (hL 7).symm.trans (hi3 _ rfl 9 (by decide) rfl)
        have d8 : L 8 = true := (hL 8).symm.trans (hi3 _ rfl 10 (by decide) rfl)
        have d9 : L 9 = true := (hL 9).symm.trans (hi3 _ rfl 11 (by decide) rfl)
        have d10 : L 10 = true := (hL 10).symm.trans (hi3 _ rfl 12 (by decide) rfl)
        have d11 : L 11 = true := (hL 11).symm.trans (hi3 _ rfl 13 (by decide) rfl)
        have d12 : L 12 = true := (hL 12).symm.trans (hi3 _ rfl 14 (by decide) rfl)
        refine wpOp_of rfl ?_
        have e26 := hF.p26 d14
        have W6' := blk_below W6 (hF.bl li)
        have k0 := (blk_cell W6' 0).trans (show (#[Value.slice none 0 0, .slice none 0 0] : Array Value)[0]? = some _ from rfl)
        have k1 := (blk_cell W6' 1).trans (show (#[Value.slice none 0 0, .slice none 0 0] : Array Value)[1]? = some _ from rfl)
        have f0 := blk_frozen W6' 0
        have f1 := blk_frozen W6' 1
        have P6 := blk_set (blk_set W6' 0 (x 18)) 1 (x 25)
        have r18 := ((hF.r18 d6).put (i := 0) (u := x 18) W6').put (i := 1) (u := x 25) (blk_set W6' 0 (x 18))
        have r25 := ((hF.r25 d13).put (i := 0) (u := x 18) W6').put (i := 1) (u := x 25) (blk_set W6' 0 (x 18))
        have hB1 : Below w.heap.size w ((w'.setCell ⟨g6, 0, none⟩ (x 18)).setCell ⟨g6, 1, none⟩ (x 25)) := below_set (below_set hB0 h6) h6
        obtain ⟨A18, c18, e18⟩ := Kd.R_slice (hF.r18 d6)
        obtain ⟨A25, c25, e25⟩ := Kd.R_slice (hF.r25 d13)
        refine skip_ (w1 := (w'.setCell ⟨g6, 0, none⟩ (x 18)).setCell ⟨g6, 1, none⟩ (x 25)) (by rfl) rfl ?hr ?_
        case hr => (go_simp)
        exact ⟨by rw [Array.size_setIfInBounds]; exact hsz, up L 15, x, up_at (by omega) hL, rfl,
        ⟨hF.p13, hF.p14, hF.p16, hF.p20, hF.p21, hF.p23,
        hF.p26, (fun a0 a1 => tf d3 a1), (fun a0 a1 => tf d6 a1), (fun a0 a1 => tf d6 a1), (fun _ => r18), (fun a0 a1 => tf d10 a1),
        (fun a0 a1 => tf d13 a1), (fun a0 a1 => tf d13 a1), (fun _ => r25), (fun a0 a1 a2 a3 => tf d3 a2), (fun a0 a1 a2 a3 => tf d10 a2), (fun _ => P6),
        (fun a0 => (up_self L 15 a0).elim), hF.e2_1, hF.e3_0, hF.e3_2, hF.e5_4, hF.e6_3,
        hF.e6_5, hF.e9_8, hF.e10_7, hF.e10_9, hF.e10_6, hF.e12_11,
        hF.e13_10, hF.e13_12, hF.e14_6, hF.e14_13, (fun _ => d0), (fun _ => d1),
        (fun _ => d2), (fun _ => d3), (fun _ => d4), (fun _ => d5), (fun _ => d6), (fun _ => d7),
        (fun _ => d8), (fun _ => d9), (fun _ => d10), (fun _ => d11), (fun _ => d12), (fun _ => d13),
        (fun _ => d14)⟩, hB1⟩
end Go.Proofs.Ytaciokdgoogpiaa.NetT

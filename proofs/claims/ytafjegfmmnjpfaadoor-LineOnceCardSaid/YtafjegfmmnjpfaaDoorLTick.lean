/- Proved: (*line.Line).Tick; conditions: the theorems' own premises. -/
import Derived.Test.YtafjegfmmnjpfaaDoorLTold
namespace Go.Proofs.YtafjegfmmnjpfaaDoor.LineT
open Go.RowKit Go.Proofs.YtafjegfmmnjpfaaDoor.YLine Go.Proofs.YtafjegfmmnjpfaaDoorW.PrintWords Go.Proofs.YtafjegfmmnjpfaaDoorW.PrintLast Go.Proofs.YtafjegfmmnjpfaaDoorW.PrintMore
set_option linter.unusedVariables false
set_option linter.unusedSimpArgs false
attribute [local go_sem] max2_int min2_int max_two min_two
theorem infoPk : (Tryd.prog.info? 37).map (fun i => (i.zero, i.size, i.bytes)) = some (some (.agg ⟨pk0.cells⟩), 4, 48) := by kernel_rfl
theorem pk_event {ops : Array Oper} {rest' : List Oper} {o : Oper} {a : Act} {Q' : Exit → Act → World → Prop} {W : World} {base : Nat} {v : Value} {fs : List Pk} {f : Pk} {gl : Nat} (hgd : o.guard = none) (s x : Operand)
    (ho : o.op = .call { callee := .builtin .append, args := #[s, x], argTypes := #[28, 28] }) (hs : a.eval s = v) (hx : a.eval x = .slice (some ⟨gl, 0, none⟩) 1 1)
    (hq : QRow W base 37 4 v fs.length (pkCells fs)) (hb : W.heap[gl]? = some (.cells ⟨Pk.cells f⟩ 37 (0, 0))) (hl : fs.length ≤ 100000) (hbase : base ≤ W.heap.size)
    (h : ∀ v1 w1, QRow w1 base 37 4 v1 (fs ++ [f]).length (pkCells (fs ++ [f])) → W.grownBy w1 v.ownBlock → (v1.ownBlock = v.ownBlock ∨ ∃ b, v1.ownBlock = some b ∧ W.heap.size ≤ b) → wpList Tryd.prog ops Q' rest' (a.put o.dst v1) w1) :
    wpList Tryd.prog ops Q' (o :: rest') a W := by
  have hrun : ∃ v' w', (Builtin.append_ #[28, 28] o.type #[v, .slice (some ⟨gl, 0, none⟩) 1 1]).run Tryd.prog W = .ok v' w' ∧ QRow w' base 37 4 v' (fs ++ [f]).length (pkCells (fs ++ [f])) ∧ W.grownBy w' v.ownBlock ∧ (v'.ownBlock = v.ownBlock ∨ ∃ b, v'.ownBlock = some b ∧ W.heap.size ≤ b) := by
    obtain ⟨i0, hi, hzz⟩ := Option.map_eq_some_iff.1 infoPk
    simp only [Prod.mk.injEq] at hzz
    obtain ⟨hz0, hz1, hz2⟩ := hzz
    obtain ⟨v', w', h1, h2, h3, h4⟩ := q_append (P := Tryd.prog) W base 28 o.type 37 i0 (.agg ⟨pk0.cells⟩) 4 48 Tryd.underlying28 hi hz0 hz1 hz2 (by rfl) (by omega) v fs.length (pkCells fs) hq ⟨gl, 0, none⟩ 1 1 (Pk.cells f) rfl (fun j u hu => by
      rw [add_at, blk_cell hb, List.getElem?_toArray, Nat.zero_add]; exact hu) (pk_one f) (by omega) (by simp only [maxLen]; omega) (by omega) hbase
    refine ⟨v', w', h1, ?_, h3, h4⟩
    rw [List.length_append, pkCells_append]
    have e : pkCells [f] = Pk.cells f := by unfold pkCells; rw [List.flatMap_cons, List.flatMap_nil, List.append_nil]
    rw [e]
    exact h2
  obtain ⟨v1, w1, hr, h1, h2, h3⟩ := hrun
  refine wpList_plain hgd fun K hK => ?_
  unfold Oper.wp execOp
  simp only [ho, resolve, invoke, builtin, Sem.run_bind, Sem.run_pure, Result.andThen_ok, List.map_toArray, List.map_cons, List.map_nil, hs, hx]
  erw [hr]
  exact hK _ _ (h v1 w1 h1 h2 h3)
theorem PkOk.lower {w : World} {base B : Nat} {p : Pk} (h : PkOk w base p) (hB : B ≤ base) : PkOk w B p := ⟨h.bytes, h.cap, fun ad e => ⟨Nat.le_trans hB (h.own ad e).1, (h.own ad e).2⟩⟩
/-- A row of packs of its own, their bytes in rows of their own. -/
structure Packs (w : World) (B : Nat) (v : Value) (ps : List Pk) : Prop where
  row : QRow w B 37 4 v ps.length (pkCells ps)
  els : ∀ p ∈ ps, PkOk w B p
theorem Packs.keep {w w1 : World} {B : Nat} {v : Value} {ps : List Pk} {S : Nat → Prop} (h : Packs w B v ps) (hf : Frame w w1 S) (hS : ∀ k, B ≤ k → ¬ S k) : Packs w1 B v ps :=
  ⟨qi_keep h.row hf (fun k hk => hS k (q_typed h.row k hk).1), fun p hp => (h.els p hp).keep hf (fun ad e => hS _ ((h.els p hp).own ad e).1)⟩
theorem Packs.below {w w1 : World} {B : Nat} {v : Value} {ps : List Pk} (h : Packs w B v ps) (hb : Below w.heap.size w w1) : Packs w1 B v ps := h.keep (Frame.of_below hb) (fun _ _ h => h)
theorem Packs.grown {w w1 : World} {B : Nat} {v v1 : Value} {ps : List Pk} {p : Pk} (h : Packs w B v ps) (hp : PkOk w B p) (hq : QRow w1 B 37 4 v1 (ps ++ [p]).length (pkCells (ps ++ [p]))) (hg : w.grownBy w1 v.ownBlock) : Packs w1 B v1 (ps ++ [p]) := by
  have ty : ∀ k, some k = v.ownBlock → ∀ x, PkOk w B x → ∀ ad, x.A = some ad → ¬ ad.block = k := fun k hk x hx ad e h1 => by
    obtain ⟨_, cc, h2⟩ := hx.own ad e
    obtain ⟨_, cc', h3⟩ := q_typed h.row k hk.symm
    rw [h1] at h2
    have := h2.symm.trans h3
    simp at this
  refine ⟨hq, fun x hx => ?_⟩
  rcases List.mem_append.1 hx with hx | hx
  · exact (h.els x hx).keep (Frame.of_grown hg) (fun ad e hs => ty _ hs x (h.els x hx) ad e rfl)
  · obtain rfl := List.mem_singleton.1 hx
    exact hp.keep (Frame.of_grown hg) (fun ad e hs => ty _ hs x hp ad e rfl)
/-- Bounds that a line keeps. -/
structure LOk (L : LS) : Prop where
  await0 : 1 ≤ L.await
  await1 : L.await ≤ 4611686018427387904
  wait0 : 1 ≤ L.wait
  wait1 : L.wait ≤ 16
  left0 : 0 ≤ L.left
  left1 : L.left ≤ 16
  queue : L.queue.length ≤ 200
  data : ∀ p ∈ L.queue, p.f3.length ≤ 1000000
def tellS (L : LS) (p : P4) : P4 := ⟨L.await - 1, p.f1, p.f2, p.f3⟩
def left1S (L : LS) : LS := if 0 < L.queue.length then { L with left := max 0 (L.left - 1) } else L
theorem left1_ok {L : LS} (h : LOk L) : LOk (left1S L) := by
  unfold left1S
  split
  · exact ⟨h.await0, h.await1, h.wait0, h.wait1, by show 0 ≤ max 0 (L.left - 1); omega, by show max 0 (L.left - 1) ≤ 16; have := h.left1; omega, h.queue, h.data⟩
  · exact h
def sendsS (L : LS) : Bool := decide (0 < L.queue.length) && decide (L.left = 0)
def firstS (L : LS) : List P4 := if sendsS L = true then (L.queue.take 8).map (tellS L) else []
def afterS (L : LS) : LS := if sendsS L = true then { L with left := L.wait, wait := min (2 * L.wait) 16 } else L
def outS (L : LS) (o : List P4) : List P4 := if o = [] ∧ L.owes = true then [tellS L ⟨0, 0, false, []⟩] else o
/-- What a tick answers, and the line behind it. -/
def tickOutS (L : LS) : List P4 := outS (afterS (left1S L)) (firstS (left1S L))
def tickS (L : LS) : LS := { afterS (left1S L) with owes := false }
theorem after_ok {L : LS} (h : LOk L) : LOk (afterS L) := by
  unfold afterS
  split
  · exact ⟨h.await0, h.await1, by show 1 ≤ min (2 * L.wait) 16; have := h.wait0; omega, by show min (2 * L.wait) 16 ≤ 16; omega, by show 0 ≤ L.wait; have := h.wait0; omega, h.wait1, h.queue, h.data⟩
  · exact h
theorem first_len (L : LS) : (firstS L).length ≤ 8 := by
  unfold firstS
  split
  · rw [List.length_map, List.length_take]; omega
  · simp
theorem first_cons {L : LS} (h : sendsS L = true) : firstS L ≠ [] := by
  unfold firstS
  rw [if_pos h]
  unfold sendsS at h
  simp only [Bool.and_eq_true, decide_eq_true_eq] at h
  intro e
  have := congrArg List.length e
  rw [List.length_map, List.length_take] at this
  simp at this
  rw [this] at h
  simp at h
def TickIs (w : World) (B : Nat) (e : Ending) (o : List P4) : Prop := ∃ v ps, e = .returned v ∧ Packs w B v ps ∧ ps.map Pk.say = o
set_option maxHeartbeats 4000000 in
set_option maxRecDepth 100000 in
theorem tickl_calls (w : World) (base g : Nat) (D : Nat → Prop) (L : LS) (h : LineAt w base g D L) (hL : LOk L) :
    Calls Tryd.prog 12 #[.pointer (some ⟨g, 0, none⟩)] w fun e w' => TickIs w' w.heap.size e (tickOutS L) ∧ LineAt w' base g D (tickS L) ∧ Frame w w' (fun k => k = g) := by
  obtain ⟨vq, mb, cv, qs, ks, hI, hD⟩ := h
  have I0 := Aside0.mk hI
  have HD := Aside0.mk hD
  have HL := Aside0.mk hL
  have HQ := Aside0.mk (show L.queue.length = qs.length by rw [← hI.queue, List.length_map])
  have GW := Aside0.mk (blk_lt hI.blk)
  clear hI hD hL
  obtain ⟨Av, cq, hv, hle⟩ := q_slice I0.out.row
  subst hv
  have n200 : (qs.length : Int) ≤ 200 := by have := HL.out.queue; have := HQ.out; omega
  have c0 := (blk_cell I0.out.blk 0).trans (show (⟨lineCells (.slice Av qs.length cq) mb cv L⟩ : Array Value)[0]? = some (.slice Av qs.length cq) from rfl)
  have c6 := (blk_cell I0.out.blk 6).trans (show (⟨lineCells (.slice Av qs.length cq) mb cv L⟩ : Array Value)[6]? = some (.int .i64 L.left) from rfl)
  have f6 := blk_frozen I0.out.blk 6
  have b0 := HL.out.left0
  have b1 := HL.out.left1
  go_enter Tryd.func12, Tryd.ntmps12
  go_upto_if 11 with (fail)
  go_cut [3] (fun v3 w' => v3 = .slice none 0 0 ∧ Aside0 (IsLine w' base g (.slice Av qs.length cq) mb cv qs ks (left1S L)) ∧ Aside0 (Frame w w' (fun k => k = g)))
  case first =>
    by_cases hz : 0 < qs.length
    · have z0 : 0 < (qs.length : Int) := by omega
      obtain ⟨x, hx⟩ : ∃ x, L.left = x := ⟨_, rfl⟩
      have HX := Aside0.mk hx
      rw [hx] at c6 b0 b1
      clear hx
      by_cases h1 : 1 < x
      · have e1 : 0 < x - 1 := by omega
        have EL : Aside0 (left1S L = { L with left := x - 1 }) := ⟨by
          unfold left1S
          rw [if_pos (by have := HQ.out; omega), HX.out, show max 0 (x - 1) = x - 1 by omega]⟩
        go_wp2
        go_meet
        rw [EL.out]
        exact ⟨rfl, ⟨I0.out.upd (Frame.of_set w g 6 _) ((blk_set I0.out.blk 6 (.int .i64 (x - 1))).trans rfl) rfl rfl rfl⟩, ⟨Frame.of_set w g 6 _⟩⟩
      · have e1 : ¬ 0 < x - 1 := by omega
        have EL : Aside0 (left1S L = { L with left := 0 }) := ⟨by
          unfold left1S
          rw [if_pos (by have := HQ.out; omega), HX.out, show max 0 (x - 1) = 0 by omega]⟩
        go_wp2
        go_meet
        rw [EL.out]
        exact ⟨rfl, ⟨I0.out.upd (Frame.of_set w g 6 _) ((blk_set I0.out.blk 6 (.int .i64 0)).trans rfl) rfl rfl rfl⟩, ⟨Frame.of_set w g 6 _⟩⟩
    · have z0 : ¬ 0 < (qs.length : Int) := by omega
      have EL : Aside0 (left1S L = L) := ⟨by
        unfold left1S
        rw [if_neg (by have := HQ.out; omega)]⟩
      go_wp2
      go_meet
      rw [EL.out]
      exact ⟨rfl, I0, ⟨Frame.refl _ _⟩⟩
  case rest =>
    obtain ⟨rfl, I1, F1⟩ := hcut
    clear c0 c6 f6 b0 b1
    obtain ⟨L1, hL1⟩ : ∃ L1, left1S L = L1 := ⟨_, rfl⟩
    have HL1 := Aside0.mk (left1_ok HL.out)
    rw [hL1] at I1 HL1
    have EL := Aside0.mk hL1
    clear hL1
    have HQ1 := Aside0.mk (show L1.queue.length = qs.length by rw [← I1.out.queue, List.length_map])
    have c0 := (blk_cell I1.out.blk 0).trans (show (⟨lineCells (.slice Av qs.length cq) mb cv L1⟩ : Array Value)[0]? = some (.slice Av qs.length cq) from rfl)
    have c6 := (blk_cell I1.out.blk 6).trans (show (⟨lineCells (.slice Av qs.length cq) mb cv L1⟩ : Array Value)[6]? = some (.int .i64 L1.left) from rfl)
    by_cases hz : 0 < qs.length
    · have z0 : 0 < (qs.length : Int) := by omega
      by_cases h1 : L1.left = 0
      · have HS : Aside0 (sendsS L1 = true) := ⟨by
          unfold sendsS
          rw [decide_eq_true (show 0 < L1.queue.length by have := HQ1.out; omega), decide_eq_true h1]
          rfl⟩
        have e1 : (L1.left == 0) = true := by simpa using h1
        rw [h1] at c6
        clear h1
        go_upto_region 5 with (fail)
        go_wp2
        go_quiet (fail)
        obtain ⟨m, hm⟩ : ∃ m, min 8 qs.length = m := ⟨_, rfl⟩
        have em : (if (qs.length : Int) < 8 then (qs.length : Int) else 8) = (m : Int) := by
          split <;> omega
        have hmq : m ≤ qs.length := by omega
        have hm8 : m ≤ 8 := by omega
        have HM8 := Aside0.mk hm
        rw [em, Int.toNat_natCast, show max (m : Int) 0 = (m : Int) by omega]
        clear em hm
        have I2 := Aside0.mk (I1.out.below (pw_below_drewN (Below.refl _ _) nq))
        have F2 : Aside0 (Frame w (wc.drewN nq) (fun k => k = g)) := ⟨F1.out.trans (Frame.of_drewN wc nq (fun k => k = g)) (fun k e => .inl e)⟩
        obtain ⟨w2, hw2⟩ : ∃ w2, wc.drewN nq = w2 := ⟨_, rfl⟩
        rw [hw2] at I2 F2
        rw [hw2]
        clear hw2 I1 F1 c0 c6
        have HDOM := Aside0.mk (show ∀ k, dom g mb (.slice Av qs.length cq) cv (qs ++ ks) k → k < w.heap.size from fun k hk => (I0.out.ge k hk).2)
        go_wp2
        go_loopg [3, 46] m (fun kq v3 v46 w' => ∃ (i : Nat) (ps : List Pk), i ≤ m ∧ v46 = .int .i64 (i : Int) ∧ Aside0 (kq = m - i) ∧ Aside0 (Packs w' w.heap.size v3 ps) ∧ Aside0 (ps.map Pk.say = (L1.queue.take i).map (tellS L1)) ∧ Aside0 (IsLine w' base g (.slice Av qs.length cq) mb cv qs ks L1) ∧ Aside0 (Frame w w' (fun k => k = g)))
        case atStart => exact ⟨0, [], by omega, rfl, ⟨rfl⟩, ⟨⟨⟨rfl, .inl ⟨rfl, none, rfl, fun a ha => by cases ha⟩⟩, fun p hp => by simp at hp⟩⟩, ⟨rfl⟩, I2, F2⟩
        case round =>
          clear I2 F2
          obtain ⟨i, ps, hi, rfl, HK, P2, S2, I2, F2⟩ := hrel
          have zi : 0 ≤ (i : Int) := by omega
          by_cases hlt : i < m
          · have lt : (i : Int) < (m : Int) := by omega
            have hiq : i < qs.length := by omega
            obtain ⟨gr, off, hAv⟩ := row_at I2.out.row (by omega)
            subst hAv
            obtain ⟨ad, ea, hcell⟩ := q_cells I2.out.row (by omega)
            injection ea with ea
            subst ea
            obtain ⟨x, hx⟩ : ∃ x, qs[i] = x := ⟨_, rfl⟩
            have xr : wr.rangeAt gr (off + i * 4) x.cells := fun j u hj => by
              have hj4 : j < 4 := (List.getElem?_eq_some_iff.1 hj).1
              have := hcell (i * 4 + j) u (by rw [pkCells_at qs i hiq j hj4, hx]; exact hj)
              rwa [add_at, ← Nat.add_assoc] at this
            have hok : PkOk wr base x := by rw [← hx]; exact I2.out.els _ (List.mem_append_left _ (List.getElem_mem hiq))
            have hsay : x.say ∈ L1.queue := by rw [← I2.out.queue, ← hx]; exact List.mem_map_of_mem (List.getElem_mem hiq)
            have hlen := HL1.out.data _ hsay
            have htake : (L1.queue.take (i + 1)).map (tellS L1) = (L1.queue.take i).map (tellS L1) ++ [tellS L1 x.say] := by
              rw [← I2.out.queue]
              rw [List.take_succ_eq_append_getElem (by rw [List.length_map]; exact hiq), List.map_append, List.getElem_map, hx]
              rfl
            have HT := Aside0.mk htake
            have HO := Aside0.mk hok
            have HLN := Aside0.mk hlen
            obtain ⟨ack, num, last, Ax, cx, bx⟩ := x
            clear hcell hok hsay hlen htake hx
            go_wp2_with ((with_reducible refine gate_dst (N := 49) rfl ?_); refine stop_here ?_)
            refine ⟨?_⟩
            refine wpList_load_mid rfl 37 (.tmp 48) rfl gr (off + i * 4) rfl (Pk.cells ⟨ack, num, last, Ax, cx, bx⟩) _ xr Tryd.underlying37 rfl ?hi ?_
            case hi => rfl
            clear xr
            go_wp2_with ((with_reducible refine gate_dst (N := 5) rfl ?_); refine stop_here ?_)
            refine ⟨?_⟩
            refine box_event rfl (N := 5) rfl (cs := ⟨pk0.cells⟩) (t := 37) ?hr5 ?_
            case hr5 => first | (go_simp; done) | (go_simp; rfl)
            intro q5 hq5 w3 hbox hb
            have X3 := Aside0.mk hbox
            have NP := Aside0.mk (show wr.heap.size ≤ q5 by rw [hq5]; exact Nat.le_refl _)
            have H3 := Aside0.mk hb
            clear hq5 hbox hb
            go_wp2_with ((with_reducible refine gate_store (t := 37) (p := 5) rfl ?_); refine stop_here ?_)
            refine ⟨?_⟩
            refine wpList_store_mid rfl 37 (.tmp 5) (.tmp 49) rfl q5 0 ⟨Pk.cells ⟨ack, num, last, Ax, cx, bx⟩⟩ rfl rfl (by have h := box_there X3.out; exact h) rfl (pk_all _) ?_
            have FS := Aside0.mk (Frame.of_setCells w3 q5 0 (Pk.cells ⟨ack, num, last, Ax, cx, bx⟩))
            have X4 := Aside0.mk (box_put (Pk.cells ⟨ack, num, last, Ax, cx, bx⟩) X3.out rfl)
            have H4 := Aside0.mk (below_frame H3.out FS.out H3.out.size (fun k e => by rw [e]; exact NP.out))
            obtain ⟨w4, hw4⟩ : ∃ w4, w3.setCells q5 0 (Pk.cells ⟨ack, num, last, Ax, cx, bx⟩) = w4 := ⟨_, rfl⟩
            have e4 : w3.setCells q5 0 (⟨Pk.cells ⟨ack, num, last, Ax, cx, bx⟩⟩ : Array Value).toList = w4 := hw4
            rw [e4]
            rw [hw4] at X4 H4
            clear hw4 e4 FS X3 H3
            have P4 := Aside0.mk (P2.out.below H4.out)
            have I4 := Aside0.mk (I2.out.below H4.out)
            have O4 := Aside0.mk (HO.out.below H4.out)
            have F4 := Aside0.mk (F2.out.trans (Frame.of_below H4.out) (fun _ h => h.elim))
            clear P2 I2 HO F2 H4
            go_wp2_with ((with_reducible refine gate_dst (N := 52) rfl ?_); refine stop_here ?_)
            refine ⟨?_⟩
            refine wpList_load_row rfl 37 (.tmp 5) rfl q5 rfl 37 ⟨Pk.cells ⟨ack, num, last, Ax, cx, bx⟩⟩ (0, 0) _ X4.out Tryd.underlying37 rfl rfl ?_
            go_wp2_with (go_at_call 28; refine stop_here ?_)
            refine ⟨?_⟩
            refine (told_calls w4 base g D L1 ack num last Ax cx bx ⟨_, _, _, _, _, I4.out, HD.out⟩ O4.out.bytes O4.out.cap (by have h := HLN.out; have h2 : bx.length ≤ 1000000 := h; omega) (by have := HL1.out.await0; omega) HL1.out.await1).mono ?_
            rintro e w5 ⟨⟨At, ct, rfl, hk⟩, hb⟩
            have P5 := Aside0.mk (P4.out.below hb)
            have I5 := Aside0.mk (I4.out.below hb)
            have T5 : Aside0 (PkOk w5 w.heap.size ⟨L1.await - 1, num, last, At, ct, bx⟩) := ⟨hk.lower F4.out.size⟩
            have F5 := Aside0.mk (F4.out.trans (Frame.of_below hb) (fun _ h => h.elim))
            clear hk hb P4 I4 O4 F4 X4
            go_wp2_with ((with_reducible refine gate_dst (N := 54) rfl ?_); refine stop_here ?_)
            refine ⟨?_⟩
            refine made_event rfl ⟨Pk.cells ⟨L1.await - 1, num, last, At, ct, bx⟩⟩ 37 1 ?hr54 ?_
            case hr54 => first | (go_simp; done) | (go_simp; rfl)
            intro gl hgl w6 hbx hb
            have P6 := Aside0.mk (P5.out.below hb)
            have I6 := Aside0.mk (I5.out.below hb)
            have T6 := Aside0.mk (T5.out.below hb)
            have F6 := Aside0.mk (F5.out.trans (Frame.of_below hb) (fun _ h => h.elim))
            have X6 := Aside0.mk hbx
            clear hgl hbx hb P5 I5 T5 F5
            have HPL := Aside0.mk (show ps.length ≤ 100000 by
              have h1 := congrArg List.length S2.out
              rw [List.length_map, List.length_map, List.length_take] at h1
              omega)
            go_wp2_with (at_builtin; refine stop_here ?_)
            refine ⟨?_⟩
            refine pk_event (base := w.heap.size) (fs := ps) (f := ⟨L1.await - 1, num, last, At, ct, bx⟩) (gl := gl) rfl (.tmp 50) (.tmp 54) rfl rfl rfl P6.out.row X6.out HPL.out F6.out.size ?_
            intro v7 w7 hq7 hg7 hat
            have P7 := Aside0.mk (P6.out.grown T6.out hq7 hg7)
            have FG := Frame.of_grown hg7
            have I7 := Aside0.mk (I6.out.keep FG (fun k hk e => by
              have h1 := HDOM.out k hk
              have h2 := (q_typed P6.out.row k e.symm).1
              omega))
            have F7 := Aside0.mk (F6.out.trans FG (fun k e => .inr (q_typed P6.out.row k e.symm).1))
            have S7 : Aside0 ((ps ++ [(⟨L1.await - 1, num, last, At, ct, bx⟩ : Pk)]).map Pk.say = (L1.queue.take (i + 1)).map (tellS L1)) := ⟨by
              rw [List.map_append, S2.out, HT.out]
              rfl⟩
            clear hq7 hg7 hat FG P6 I6 T6 F6 X6 HT S2
            go_wp2
            go_roundg (m - i - 1)
            case measure => have := HK.out; omega
            case rel => exact ⟨i + 1, ps ++ [⟨L1.await - 1, num, last, At, ct, bx⟩], by omega, by go_num, ⟨by omega⟩, P7, S7, I7, F7⟩
          · have HIM : Aside0 (i = m) := ⟨by omega⟩
            have lt : ¬ (i : Int) < (m : Int) := by omega
            have c5 := (blk_cell I2.out.blk 5).trans (show (⟨lineCells (.slice Av qs.length cq) mb cv L1⟩ : Array Value)[5]? = some (.int .i64 L1.wait) from rfl)
            obtain ⟨wt, hwt⟩ : ∃ wt, L1.wait = wt := ⟨_, rfl⟩
            have t0 : 1 ≤ wt := by rw [← hwt]; exact HL1.out.wait0
            have t1 : wt ≤ 16 := by rw [← hwt]; exact HL1.out.wait1
            rw [hwt] at c5
            have HWT := Aside0.mk hwt
            clear hwt
            have f5 := blk_frozen I2.out.blk 5
            have f6 := blk_frozen I2.out.blk 6
            go_upto_region 10 with (fail)
            have I3 := Aside0.mk (I2.out.below (below_drew1 (Below.refl wr.heap.size wr)))
            have P3 := Aside0.mk (P2.out.below (below_drew1 (Below.refl wr.heap.size wr)))
            have F3 := Aside0.mk (F2.out.trans (Frame.of_drewN wr 1 (fun k => k = g)) (fun k e => .inl e))
            clear I2 P2 F2
            have w2' : wrap64 (2 * wt) = 2 * wt := by unfold wrap64; omega
            refine start_ (n := 18) (S := fun w' => w'.cell? ⟨g, 5, none⟩ = some (.int .i64 wt)) (ds := [17]) #[false, false, false, false, false, false, false, false, false, false, false, false, false, false, false, false, false, false] (by kernel_rfl) rfl rfl (c5) (fun hHeld => ?_)
            refine pure_ (i := 0) (N := some 57) (v := ?_) (a' := ?_) #[true, false, false, false, false, false, false, false, false, false, false, false, false, false, false, false, false, false] rfl rfl (by kernel_rfl) (fun _ _ _ h => h) (Or.inl ⟨by rfl, ?_⟩) ?_ ?_
            rotate_left
            · intro w'
              go_simp
              with_reducible rfl
            rotate_left
            · simp only [Act.put, List.setIfInBounds_toArray, List.set_cons_zero, List.set_cons_succ, i64_w, i32_w]
              rfl
            refine pure_ (i := 1) (N := some 58) (v := ?_) (a' := ?_) #[true, true, false, false, false, false, false, false, false, false, false, false, false, false, false, false, false, false] rfl rfl (by kernel_rfl) (fun _ _ _ h => h) (Or.inl ⟨by rfl, ?_⟩) ?_ ?_
            rotate_left
            · intro w'
              go_simp
              with_reducible rfl
            rotate_left
            · simp only [Act.put, List.setIfInBounds_toArray, List.set_cons_zero, List.set_cons_succ, i64_w, i32_w]
              rfl
            refine pure_ (i := 2) (N := some 59) (v := ?_) (a' := ?_) #[true, true, true, false, false, false, false, false, false, false, false, false, false, false, false, false, false, false] rfl rfl (by kernel_rfl) (fun _ _ _ h => h) (Or.inl ⟨by rfl, ?_⟩) ?_ ?_
            rotate_left
            · intro w'
              go_simp
              with_reducible rfl
            rotate_left
            · simp only [Act.put, List.setIfInBounds_toArray, List.set_cons_zero, List.set_cons_succ, i64_w, i32_w]
              rfl
            refine pure_ (i := 3) (N := some 60) (v := ?_) (a' := ?_) #[true, true, true, true, false, false, false, false, false, false, false, false, false, false, false, false, false, false] rfl rfl (by kernel_rfl) (fun _ _ _ h => h) (Or.inl ⟨by rfl, ?_⟩) ?_ ?_
            rotate_left
            · intro w'
              go_simp
              with_reducible rfl
            rotate_left
            · simp only [Act.put, List.setIfInBounds_toArray, List.set_cons_zero, List.set_cons_succ, i64_w, i32_w]
              rfl
            refine pure_ (i := 4) (N := some 61) (v := ?_) (a' := ?_) #[true, true, true, true, true, false, false, false, false, false, false, false, false, false, false, false, false, false] rfl rfl (by kernel_rfl) (fun _ _ _ h => h) (Or.inl ⟨by rfl, ?_⟩) ?_ ?_
            rotate_left
            · intro w'
              go_simp
              with_reducible rfl
            rotate_left
            · simp only [Act.put, List.setIfInBounds_toArray, List.set_cons_zero, List.set_cons_succ, i64_w, i32_w]
              rfl
            refine pure_ (i := 6) (N := some 63) (v := ?_) (a' := ?_) #[true, true, true, true, true, false, true, false, false, false, false, false, false, false, false, false, false, false] rfl rfl (by kernel_rfl) (fun _ _ _ h => h) (Or.inl ⟨by rfl, ?_⟩) ?_ ?_
            rotate_left
            · intro w'
              go_simp
              with_reducible rfl
            rotate_left
            · simp only [Act.put, List.setIfInBounds_toArray, List.set_cons_zero, List.set_cons_succ, i64_w, i32_w]
              rfl
            refine pure_ (i := 7) (N := some 64) (v := ?_) (a' := ?_) #[true, true, true, true, true, false, true, true, false, false, false, false, false, false, false, false, false, false] rfl rfl (by kernel_rfl) (fun _ _ _ h => h) (Or.inl ⟨by rfl, ?_⟩) ?_ ?_
            rotate_left
            · intro w'
              go_simp
              with_reducible rfl
            rotate_left
            · simp only [Act.put, List.setIfInBounds_toArray, List.set_cons_zero, List.set_cons_succ, i64_w, i32_w]
              rfl
            refine pure_ (i := 8) (N := some 65) (v := ?_) (a' := ?_) #[true, true, true, true, true, false, true, true, true, false, false, false, false, false, false, false, false, false] rfl rfl (by kernel_rfl) (fun _ _ _ h => h) (Or.inl ⟨by rfl, ?_⟩) ?_ ?_
            rotate_left
            · intro w'
              go_simp
              with_reducible rfl
            rotate_left
            · simp only [Act.put, List.setIfInBounds_toArray, List.set_cons_zero, List.set_cons_succ, i64_w, i32_w]
              rfl
            refine take_ (i := 5) (N := some 62) (v := ?_) (a' := ?_) #[true, true, true, true, true, true, true, true, true, false, false, false, false, false, false, false, false, false] rfl rfl (by kernel_rfl) (fun _ _ _ h => h) (Or.inl ⟨by rfl, ?_⟩) hHeld ?_ ?_
            rotate_left
            · intro w' s0
              go_simp
              with_reducible rfl
            rotate_left
            · simp only [Act.put, List.setIfInBounds_toArray, List.set_cons_zero, List.set_cons_succ, i64_w, i32_w]
              rfl
            refine take_ (i := 9) (N := some 66) (v := ?_) (a' := ?_) #[true, true, true, true, true, true, true, true, true, true, false, false, false, false, false, false, false, false] rfl rfl (by kernel_rfl) (fun _ _ _ h => h) (Or.inl ⟨by rfl, ?_⟩) hHeld ?_ ?_
            rotate_left
            · intro w' s0
              go_simp
              with_reducible rfl
            rotate_left
            · simp only [Act.put, List.setIfInBounds_toArray, List.set_cons_zero, List.set_cons_succ, i64_w, i32_w]
              rfl
            refine pure_ (i := 10) (N := some 67) (v := ?_) (a' := ?_) #[true, true, true, true, true, true, true, true, true, true, true, false, false, false, false, false, false, false] rfl rfl (by kernel_rfl) (fun _ _ _ h => h) (Or.inl ⟨by rfl, ?_⟩) ?_ ?_
            rotate_left
            · intro w'
              go_simp
              with_reducible rfl
            rotate_left
            · simp only [Act.put, List.setIfInBounds_toArray, List.set_cons_zero, List.set_cons_succ, i64_w, i32_w]
              rfl
            refine pure_ (i := 11) (N := some 68) (v := ?_) (a' := ?_) #[true, true, true, true, true, true, true, true, true, true, true, true, false, false, false, false, false, false] rfl rfl (by kernel_rfl) (fun _ _ _ h => h) (Or.inl ⟨by rfl, ?_⟩) ?_ ?_
            rotate_left
            · intro w'
              go_simp
              with_reducible rfl
            rotate_left
            · simp only [Act.put, List.setIfInBounds_toArray, List.set_cons_zero, List.set_cons_succ, i64_w, i32_w]
              rfl
            refine pure_ (i := 12) (N := some 69) (v := ?_) (a' := ?_) #[true, true, true, true, true, true, true, true, true, true, true, true, true, false, false, false, false, false] rfl rfl (by kernel_rfl) (fun _ _ _ h => h) (Or.inl ⟨by rfl, ?_⟩) ?_ ?_
            rotate_left
            · intro w'
              go_simp
              with_reducible rfl
            rotate_left
            · simp only [Act.put, List.setIfInBounds_toArray, List.set_cons_zero, List.set_cons_succ, i64_w, i32_w]
              rfl
            refine pure_ (i := 13) (N := some 70) (v := ?_) (a' := ?_) #[true, true, true, true, true, true, true, true, true, true, true, true, true, true, false, false, false, false] rfl rfl (by kernel_rfl) (fun _ _ _ h => h) (Or.inl ⟨by rfl, ?_⟩) ?_ ?_
            rotate_left
            · intro w'
              go_simp
              with_reducible rfl
            rotate_left
            · simp only [Act.put, List.setIfInBounds_toArray, List.set_cons_zero, List.set_cons_succ, i64_w, i32_w]
              rfl
            refine one_ (i := 14) (N := none) #[true, true, true, true, true, true, true, true, true, true, true, true, true, true, true, false, false, false] rfl rfl (by kernel_rfl) (by decide) (fun K hK => ?_)
            have c6 := (blk_cell I3.out.blk 6).trans (show (⟨lineCells (.slice Av qs.length cq) mb cv L1⟩ : Array Value)[6]? = some (.int .i64 L1.left) from rfl)
            refine skip_ (w1 := ?_) (by rfl) rfl ?_ ?_
            rotate_left
            · go_simp
              rfl
            refine hK.out _ _ ((blk_cell (blk_set I3.out.blk 6 (.int .i64 wt)) 5).trans (by rw [← HWT.out]; rfl)) (fun hHeld => ?_)
            clear hK K
            refine pure_ (i := 15) (N := some 71) (v := ?_) (a' := ?_) #[true, true, true, true, true, true, true, true, true, true, true, true, true, true, true, true, false, false] rfl rfl (by kernel_rfl) (fun _ _ _ h => h) (Or.inl ⟨by rfl, ?_⟩) ?_ ?_
            rotate_left
            · intro w'
              go_simp
              with_reducible rfl
            rotate_left
            · simp only [Act.put, List.setIfInBounds_toArray, List.set_cons_zero, List.set_cons_succ, i64_w, i32_w]
              rfl
            refine pure_ (i := 16) (N := some 72) (v := ?_) (a' := ?_) #[true, true, true, true, true, true, true, true, true, true, true, true, true, true, true, true, true, false] rfl rfl (by kernel_rfl) (fun _ _ _ h => h) (Or.inl ⟨by rfl, ?_⟩) ?_ ?_
            rotate_left
            · intro w'
              go_simp
              with_reducible rfl
            rotate_left
            · simp only [Act.put, List.setIfInBounds_toArray, List.set_cons_zero, List.set_cons_succ, i64_w, i32_w]
              rfl
            refine last_ (i := 17) (N := none) #[true, true, true, true, true, true, true, true, true, true, true, true, true, true, true, true, true, true] rfl rfl (by kernel_rfl) (by decide) (fun K hK => ?_)
            refine skip_ (w1 := ?_) (by rfl) rfl ?_ ?_
            rotate_left
            · go_simp
              rfl
            refine hK.out _ _ ?_
            clear hK K
            refine done_ (by kernel_rfl) ?_
            clear w2'
            obtain ⟨mn, hmn⟩ : ∃ mn : Int, (if 16 < 2 * wt then 16 else 2 * wt) = mn := ⟨_, rfl⟩
            rw [hmn]
            have HMN := Aside0.mk (show min (2 * wt) 16 = mn by rw [← hmn]; split <;> omega)
            clear hmn c5 f5 f6
            have ew : ((wr.setCell ⟨g, 6, none⟩ (.int .i64 wt)).setCell ⟨g, 5, none⟩ (.int .i64 mn)).drew = (wr.drew.setCell ⟨g, 6, none⟩ (.int .i64 wt)).setCell ⟨g, 5, none⟩ (.int .i64 mn) := rfl
            rw [ew]
            clear ew
            obtain ⟨L9, hL9⟩ : ∃ L9, ({ L1 with left := wt, wait := mn } : LS) = L9 := ⟨_, rfl⟩
            have EL9 : Aside0 (afterS L1 = L9) := ⟨by unfold afterS; rw [if_pos HS.out, HWT.out, HMN.out, hL9]⟩
            have HL9 : Aside0 (LOk L9) := ⟨by rw [← EL9.out]; exact after_ok HL1.out⟩
            have FS : Frame wr.drew ((wr.drew.setCell ⟨g, 6, none⟩ (.int .i64 wt)).setCell ⟨g, 5, none⟩ (.int .i64 mn)) (fun k => k = g) := (Frame.of_set wr.drew g 6 _).trans (Frame.of_set _ g 5 _) (fun k e => .inl e)
            have I9 : Aside0 (IsLine ((wr.drew.setCell ⟨g, 6, none⟩ (.int .i64 wt)).setCell ⟨g, 5, none⟩ (.int .i64 mn)) base g (.slice Av qs.length cq) mb cv qs ks L9) := ⟨by
              rw [← hL9]
              exact I3.out.upd FS ((blk_set (blk_set I3.out.blk 6 _) 5 _).trans rfl) rfl rfl rfl⟩
            have P9 := Aside0.mk (P3.out.keep FS (fun k hk e => by have := GW.out; have e' : k = g := e; omega))
            have F9 := Aside0.mk (F3.out.trans FS (fun k e => .inl e))
            have S9 : Aside0 (ps.map Pk.say = firstS L1) := ⟨by
              rw [S2.out]
              unfold firstS
              rw [if_pos HS.out, HIM.out, ← HM8.out]
              congr 1
              by_cases h8 : 8 ≤ qs.length
              · rw [Nat.min_eq_left h8]
              · rw [Nat.min_eq_right (by omega), List.take_of_length_le (by rw [HQ1.out]; omega), List.take_of_length_le (by rw [HQ1.out]; omega)]⟩
            obtain ⟨w9, hw9⟩ : ∃ w9, (wr.drew.setCell ⟨g, 6, none⟩ (.int .i64 wt)).setCell ⟨g, 5, none⟩ (.int .i64 mn) = w9 := ⟨_, rfl⟩
            rw [hw9] at I9 P9 F9
            rw [hw9]
            obtain ⟨ps9, hps9⟩ : ∃ ps9, ps = ps9 := ⟨_, rfl⟩
            rw [hps9] at P9 S9
            obtain ⟨Ap, cp, hv9, hcp⟩ := q_slice P9.out.row
            subst hv9
            clear hw9 hps9 hL9 FS I3 P3 F3 S2 hcp
            have c7 := (blk_cell I9.out.blk 7).trans (show (⟨lineCells (.slice Av qs.length cq) mb cv L9⟩ : Array Value)[7]? = some (.bool L9.owes) from rfl)
            have f7 := blk_frozen I9.out.blk 7
            obtain ⟨ow, how⟩ : ∃ ow, L9.owes = ow := ⟨_, rfl⟩
            rw [how] at c7
            have HOW := Aside0.mk how
            have HPS := Aside0.mk (show ps9.length ≤ 100000 by
              have h1 := congrArg List.length S9.out
              rw [List.length_map] at h1
              have h2 := first_len L1
              omega)
            have ETS : Aside0 (tickS L = { L9 with owes := false }) := ⟨by unfold tickS; rw [EL.out, EL9.out]⟩
            have ETO : Aside0 (tickOutS L = outS L9 (firstS L1)) := ⟨by unfold tickOutS; rw [EL.out, EL9.out]⟩
            have GNE := Aside0.mk (show ∀ k, w.heap.size ≤ k → ¬ k = g from fun k hk e => by have := GW.out; omega)
            clear how
            by_cases hp : ps9.length = 0
            · have p0 : ((ps9.length : Int) == 0) = true := by simpa using (by omega : (ps9.length : Int) = 0)
              have HP0 := Aside0.mk (List.length_eq_zero_iff.1 hp)
              have HF0 : Aside0 (firstS L1 = []) := ⟨by rw [← S9.out, HP0.out]; rfl⟩
              clear hp
              cases ow with
              | true =>
                go_wp2_with (go_at_call 28; refine stop_here ?_)
                refine ⟨?_⟩
                refine (told_calls w9 base g D L9 0 0 false none 0 [] ⟨_, _, _, _, _, I9.out, HD.out⟩ (fun h => absurd h (by decide)) (Nat.le_refl _) (by decide) (by have := HL9.out.await0; omega) HL9.out.await1).mono ?_
                rintro e wa ⟨⟨At, ct, rfl, hk⟩, hb⟩
                have Pa := Aside0.mk (P9.out.below hb)
                have Ia := Aside0.mk (I9.out.below hb)
                have Ta : Aside0 (PkOk wa w.heap.size ⟨L9.await - 1, 0, false, At, ct, []⟩) := ⟨hk.lower F9.out.size⟩
                have Fa := Aside0.mk (F9.out.trans (Frame.of_below hb) (fun _ h => h.elim))
                clear hk hb P9 I9 F9 c7 f7
                go_wp2_with ((with_reducible refine gate_dst (N := 86) rfl ?_); refine stop_here ?_)
                refine ⟨?_⟩
                refine made_event rfl ⟨Pk.cells ⟨L9.await - 1, 0, false, At, ct, []⟩⟩ 37 1 ?hr86c ?_
                case hr86c => first | (go_simp; done) | (go_simp; rfl)
                intro gl hgl wb hbx hb
                have Pb := Aside0.mk (Pa.out.below hb)
                have Ib := Aside0.mk (Ia.out.below hb)
                have Tb := Aside0.mk (Ta.out.below hb)
                have Fb := Aside0.mk (Fa.out.trans (Frame.of_below hb) (fun _ h => h.elim))
                have Xb := Aside0.mk hbx
                clear hgl hbx hb Pa Ia Ta Fa
                go_wp2_with (at_builtin; refine stop_here ?_)
                refine ⟨?_⟩
                refine pk_event (base := w.heap.size) (fs := ps9) (f := ⟨L9.await - 1, 0, false, At, ct, []⟩) (gl := gl) rfl (.tmp 82) (.tmp 86) rfl rfl rfl Pb.out.row Xb.out HPS.out Fb.out.size ?_
                intro vc wc' hqc hgc hat
                have Pc := Aside0.mk (Pb.out.grown Tb.out hqc hgc)
                have FG := Frame.of_grown hgc
                have Ic := Aside0.mk (Ib.out.keep FG (fun k hk e => by
                  have h1 := HDOM.out k hk
                  have h2 := (q_typed Pb.out.row k e.symm).1
                  omega))
                have Fc := Aside0.mk (Fb.out.trans FG (fun k e => .inr (q_typed Pb.out.row k e.symm).1))
                have Sc : Aside0 ((ps9 ++ [(⟨L9.await - 1, 0, false, At, ct, []⟩ : Pk)]).map Pk.say = outS L9 (firstS L1)) := ⟨by
                  unfold outS
                  rw [if_pos ⟨HF0.out, HOW.out⟩, HP0.out]
                  rfl⟩
                clear hqc hgc hat FG Pb Ib Tb Fb Xb
                have c7 := (blk_cell Ic.out.blk 7).trans (show (⟨lineCells (.slice Av qs.length cq) mb cv L9⟩ : Array Value)[7]? = some (.bool L9.owes) from rfl)
                have f7 := blk_frozen Ic.out.blk 7
                go_wp2
                go_ret
                have FS := Frame.of_set wc' g 7 (.bool false)
                refine ⟨⟨vc, _, rfl, Pc.out.keep FS GNE.out, by rw [ETO.out]; exact Sc.out⟩, ⟨_, _, _, _, _, by rw [ETS.out]; exact Ic.out.upd FS ((blk_set Ic.out.blk 7 (.bool false)).trans rfl) rfl rfl rfl, HD.out⟩, Fc.out.trans FS (fun k e => .inl e)⟩
              | false =>
                go_wp2
                go_ret
                have FS := Frame.of_set w9 g 7 (.bool false)
                refine ⟨⟨_, ps9, rfl, P9.out.keep FS GNE.out, by rw [ETO.out, S9.out]; unfold outS; rw [if_neg (fun h => by rw [HOW.out] at h; exact absurd h.2 (by decide))]⟩, ⟨_, _, _, _, _, by rw [ETS.out]; exact I9.out.upd FS ((blk_set I9.out.blk 7 (.bool false)).trans rfl) rfl rfl rfl, HD.out⟩, F9.out.trans FS (fun k e => .inl e)⟩
            · have p0 : ((ps9.length : Int) == 0) = false := by simpa using (by omega : ¬ (ps9.length : Int) = 0)
              have HF0 : Aside0 (firstS L1 ≠ []) := ⟨fun e => hp (by have h1 := congrArg List.length S9.out; rw [e, List.length_map] at h1; exact h1)⟩
              clear hp
              go_wp2
              go_ret
              have FS := Frame.of_set w9 g 7 (.bool false)
              refine ⟨⟨_, ps9, rfl, P9.out.keep FS GNE.out, by rw [ETO.out, S9.out]; unfold outS; rw [if_neg (fun h => HF0.out h.1)]⟩, ⟨_, _, _, _, _, by rw [ETS.out]; exact I9.out.upd FS ((blk_set I9.out.blk 7 (.bool false)).trans rfl) rfl rfl rfl, HD.out⟩, F9.out.trans FS (fun k e => .inl e)⟩
      · have HS : Aside0 (¬ sendsS L1 = true) := ⟨by
          unfold sendsS
          rw [decide_eq_false h1, Bool.and_false]
          decide⟩
        have e1 : (L1.left == 0) = false := by simpa using h1
        clear h1
        go_upto_region 11 with (fail)
        have EL9 : Aside0 (afterS L1 = L1) := ⟨by unfold afterS; rw [if_neg HS.out]⟩
        have HL9 := HL1
        have HDOM := Aside0.mk (show ∀ k, dom g mb (.slice Av qs.length cq) cv (qs ++ ks) k → k < w.heap.size from fun k hk => (I0.out.ge k hk).2)
        obtain ⟨w9, hw9⟩ : ∃ w9, wc = w9 := ⟨_, rfl⟩
        obtain ⟨L9, hL9⟩ : ∃ L9, L1 = L9 := ⟨_, rfl⟩
        have P9 : Aside0 (Packs w9 w.heap.size (.slice none 0 0) ([] : List Pk)) := ⟨⟨⟨rfl, .inl ⟨rfl, none, rfl, fun a ha => by cases ha⟩⟩, fun p hp => by simp at hp⟩⟩
        have S9 : Aside0 (([] : List Pk).map Pk.say = firstS L1) := ⟨by unfold firstS; rw [if_neg HS.out]; rfl⟩
        have I9 : Aside0 (IsLine w9 base g (.slice Av qs.length cq) mb cv qs ks L9) := ⟨by rw [← hL9, ← hw9]; exact I1.out⟩
        have F9 : Aside0 (Frame w w9 (fun k => k = g)) := ⟨by rw [← hw9]; exact F1.out⟩
        rw [hL9] at HL9
        have EL9' : Aside0 (afterS L1 = L9) := ⟨EL9.out.trans hL9⟩
        clear EL9
        have EL9 := EL9'
        rw [hw9]
        clear hw9 EL9' I1 F1 c0 c6 hL9
        have c7 := (blk_cell I9.out.blk 7).trans (show (⟨lineCells (.slice Av qs.length cq) mb cv L9⟩ : Array Value)[7]? = some (.bool L9.owes) from rfl)
        have f7 := blk_frozen I9.out.blk 7
        obtain ⟨ow, how⟩ : ∃ ow, L9.owes = ow := ⟨_, rfl⟩
        rw [how] at c7
        have HOW := Aside0.mk how
        have HPS := Aside0.mk (show (([] : List Pk).length) ≤ 100000 by
          have h1 := congrArg List.length S9.out
          rw [List.length_map] at h1
          have h2 := first_len L1
          omega)
        have ETS : Aside0 (tickS L = { L9 with owes := false }) := ⟨by unfold tickS; rw [EL.out, EL9.out]⟩
        have ETO : Aside0 (tickOutS L = outS L9 (firstS L1)) := ⟨by unfold tickOutS; rw [EL.out, EL9.out]⟩
        have GNE := Aside0.mk (show ∀ k, w.heap.size ≤ k → ¬ k = g from fun k hk e => by have := GW.out; omega)
        clear how
        · have p0 : ((0 : Int) == 0) = true := rfl
          have HP0 : Aside0 (([] : List Pk) = []) := ⟨rfl⟩
          have HF0 : Aside0 (firstS L1 = []) := ⟨by rw [← S9.out]; rfl⟩
          cases ow with
          | true =>
            go_wp2_with (go_at_call 28; refine stop_here ?_)
            refine ⟨?_⟩
            refine (told_calls w9 base g D L9 0 0 false none 0 [] ⟨_, _, _, _, _, I9.out, HD.out⟩ (fun h => absurd h (by decide)) (Nat.le_refl _) (by decide) (by have := HL9.out.await0; omega) HL9.out.await1).mono ?_
            rintro e wa ⟨⟨At, ct, rfl, hk⟩, hb⟩
            have Pa := Aside0.mk (P9.out.below hb)
            have Ia := Aside0.mk (I9.out.below hb)
            have Ta : Aside0 (PkOk wa w.heap.size ⟨L9.await - 1, 0, false, At, ct, []⟩) := ⟨hk.lower F9.out.size⟩
            have Fa := Aside0.mk (F9.out.trans (Frame.of_below hb) (fun _ h => h.elim))
            clear hk hb P9 I9 F9 c7 f7
            go_wp2_with ((with_reducible refine gate_dst (N := 86) rfl ?_); refine stop_here ?_)
            refine ⟨?_⟩
            refine made_event rfl ⟨Pk.cells ⟨L9.await - 1, 0, false, At, ct, []⟩⟩ 37 1 ?hr86a ?_
            case hr86a => first | (go_simp; done) | (go_simp; rfl)
            intro gl hgl wb hbx hb
            have Pb := Aside0.mk (Pa.out.below hb)
            have Ib := Aside0.mk (Ia.out.below hb)
            have Tb := Aside0.mk (Ta.out.below hb)
            have Fb := Aside0.mk (Fa.out.trans (Frame.of_below hb) (fun _ h => h.elim))
            have Xb := Aside0.mk hbx
            clear hgl hbx hb Pa Ia Ta Fa
            go_wp2_with (at_builtin; refine stop_here ?_)
            refine ⟨?_⟩
            refine pk_event (base := w.heap.size) (fs := []) (f := ⟨L9.await - 1, 0, false, At, ct, []⟩) (gl := gl) rfl (.tmp 82) (.tmp 86) rfl rfl rfl Pb.out.row Xb.out HPS.out Fb.out.size ?_
            intro vc wc' hqc hgc hat
            have Pc := Aside0.mk (Pb.out.grown Tb.out hqc hgc)
            have FG := Frame.of_grown hgc
            have Ic := Aside0.mk (Ib.out.keep FG (fun k hk e => by
              have h1 := HDOM.out k hk
              have h2 := (q_typed Pb.out.row k e.symm).1
              omega))
            have Fc := Aside0.mk (Fb.out.trans FG (fun k e => .inr (q_typed Pb.out.row k e.symm).1))
            have Sc : Aside0 ((([] : List Pk) ++ [(⟨L9.await - 1, 0, false, At, ct, []⟩ : Pk)]).map Pk.say = outS L9 (firstS L1)) := ⟨by
              unfold outS
              rw [if_pos ⟨HF0.out, HOW.out⟩]
              rfl⟩
            clear hqc hgc hat FG Pb Ib Tb Fb Xb
            have c7 := (blk_cell Ic.out.blk 7).trans (show (⟨lineCells (.slice Av qs.length cq) mb cv L9⟩ : Array Value)[7]? = some (.bool L9.owes) from rfl)
            have f7 := blk_frozen Ic.out.blk 7
            go_wp2
            go_ret
            have FS := Frame.of_set wc' g 7 (.bool false)
            refine ⟨⟨vc, _, rfl, Pc.out.keep FS GNE.out, by rw [ETO.out]; exact Sc.out⟩, ⟨_, _, _, _, _, by rw [ETS.out]; exact Ic.out.upd FS ((blk_set Ic.out.blk 7 (.bool false)).trans rfl) rfl rfl rfl, HD.out⟩, Fc.out.trans FS (fun k e => .inl e)⟩
          | false =>
            go_wp2
            go_ret
            have FS := Frame.of_set w9 g 7 (.bool false)
            refine ⟨⟨_, [], rfl, P9.out.keep FS GNE.out, by rw [ETO.out, S9.out]; unfold outS; rw [if_neg (fun h => by rw [HOW.out] at h; exact absurd h.2 (by decide))]⟩, ⟨_, _, _, _, _, by rw [ETS.out]; exact I9.out.upd FS ((blk_set I9.out.blk 7 (.bool false)).trans rfl) rfl rfl rfl, HD.out⟩, F9.out.trans FS (fun k e => .inl e)⟩
    · have z0 : ¬ 0 < (qs.length : Int) := by omega
      have HS : Aside0 (¬ sendsS L1 = true) := ⟨by
        unfold sendsS
        rw [decide_eq_false (show ¬ 0 < L1.queue.length by have := HQ1.out; omega), Bool.false_and]
        decide⟩
      go_upto_region 11 with (fail)
      have EL9 : Aside0 (afterS L1 = L1) := ⟨by unfold afterS; rw [if_neg HS.out]⟩
      have HL9 := HL1
      have HDOM := Aside0.mk (show ∀ k, dom g mb (.slice Av qs.length cq) cv (qs ++ ks) k → k < w.heap.size from fun k hk => (I0.out.ge k hk).2)
      obtain ⟨w9, hw9⟩ : ∃ w9, wc = w9 := ⟨_, rfl⟩
      obtain ⟨L9, hL9⟩ : ∃ L9, L1 = L9 := ⟨_, rfl⟩
      have P9 : Aside0 (Packs w9 w.heap.size (.slice none 0 0) ([] : List Pk)) := ⟨⟨⟨rfl, .inl ⟨rfl, none, rfl, fun a ha => by cases ha⟩⟩, fun p hp => by simp at hp⟩⟩
      have S9 : Aside0 (([] : List Pk).map Pk.say = firstS L1) := ⟨by unfold firstS; rw [if_neg HS.out]; rfl⟩
      have I9 : Aside0 (IsLine w9 base g (.slice Av qs.length cq) mb cv qs ks L9) := ⟨by rw [← hL9, ← hw9]; exact I1.out⟩
      have F9 : Aside0 (Frame w w9 (fun k => k = g)) := ⟨by rw [← hw9]; exact F1.out⟩
      rw [hL9] at HL9
      have EL9' : Aside0 (afterS L1 = L9) := ⟨EL9.out.trans hL9⟩
      clear EL9
      have EL9 := EL9'
      rw [hw9]
      clear hw9 EL9' I1 F1 c0 c6 hL9
      have c7 := (blk_cell I9.out.blk 7).trans (show (⟨lineCells (.slice Av qs.length cq) mb cv L9⟩ : Array Value)[7]? = some (.bool L9.owes) from rfl)
      have f7 := blk_frozen I9.out.blk 7
      obtain ⟨ow, how⟩ : ∃ ow, L9.owes = ow := ⟨_, rfl⟩
      rw [how] at c7
      have HOW := Aside0.mk how
      have HPS := Aside0.mk (show (([] : List Pk).length) ≤ 100000 by
        have h1 := congrArg List.length S9.out
        rw [List.length_map] at h1
        have h2 := first_len L1
        omega)
      have ETS : Aside0 (tickS L = { L9 with owes := false }) := ⟨by unfold tickS; rw [EL.out, EL9.out]⟩
      have ETO : Aside0 (tickOutS L = outS L9 (firstS L1)) := ⟨by unfold tickOutS; rw [EL.out, EL9.out]⟩
      have GNE := Aside0.mk (show ∀ k, w.heap.size ≤ k → ¬ k = g from fun k hk e => by have := GW.out; omega)
      clear how
      · have p0 : ((0 : Int) == 0) = true := rfl
        have HP0 : Aside0 (([] : List Pk) = []) := ⟨rfl⟩
        have HF0 : Aside0 (firstS L1 = []) := ⟨by rw [← S9.out]; rfl⟩
        cases ow with
        | true =>
          go_wp2_with (go_at_call 28; refine stop_here ?_)
          refine ⟨?_⟩
          refine (told_calls w9 base g D L9 0 0 false none 0 [] ⟨_, _, _, _, _, I9.out, HD.out⟩ (fun h => absurd h (by decide)) (Nat.le_refl _) (by decide) (by have := HL9.out.await0; omega) HL9.out.await1).mono ?_
          rintro e wa ⟨⟨At, ct, rfl, hk⟩, hb⟩
          have Pa := Aside0.mk (P9.out.below hb)
          have Ia := Aside0.mk (I9.out.below hb)
          have Ta : Aside0 (PkOk wa w.heap.size ⟨L9.await - 1, 0, false, At, ct, []⟩) := ⟨hk.lower F9.out.size⟩
          have Fa := Aside0.mk (F9.out.trans (Frame.of_below hb) (fun _ h => h.elim))
          clear hk hb P9 I9 F9 c7 f7
          go_wp2_with ((with_reducible refine gate_dst (N := 86) rfl ?_); refine stop_here ?_)
          refine ⟨?_⟩
          refine made_event rfl ⟨Pk.cells ⟨L9.await - 1, 0, false, At, ct, []⟩⟩ 37 1 ?hr86b ?_
          case hr86b => first | (go_simp; done) | (go_simp; rfl)
          intro gl hgl wb hbx hb
          have Pb := Aside0.mk (Pa.out.below hb)
          have Ib := Aside0.mk (Ia.out.below hb)
          have Tb := Aside0.mk (Ta.out.below hb)
          have Fb := Aside0.mk (Fa.out.trans (Frame.of_below hb) (fun _ h => h.elim))
          have Xb := Aside0.mk hbx
          clear hgl hbx hb Pa Ia Ta Fa
          go_wp2_with (at_builtin; refine stop_here ?_)
          refine ⟨?_⟩
          refine pk_event (base := w.heap.size) (fs := []) (f := ⟨L9.await - 1, 0, false, At, ct, []⟩) (gl := gl) rfl (.tmp 82) (.tmp 86) rfl rfl rfl Pb.out.row Xb.out HPS.out Fb.out.size ?_
          intro vc wc' hqc hgc hat
          have Pc := Aside0.mk (Pb.out.grown Tb.out hqc hgc)
          have FG := Frame.of_grown hgc
          have Ic := Aside0.mk (Ib.out.keep FG (fun k hk e => by
            have h1 := HDOM.out k hk
            have h2 := (q_typed Pb.out.row k e.symm).1
            omega))
          have Fc := Aside0.mk (Fb.out.trans FG (fun k e => .inr (q_typed Pb.out.row k e.symm).1))
          have Sc : Aside0 ((([] : List Pk) ++ [(⟨L9.await - 1, 0, false, At, ct, []⟩ : Pk)]).map Pk.say = outS L9 (firstS L1)) := ⟨by
            unfold outS
            rw [if_pos ⟨HF0.out, HOW.out⟩]
            rfl⟩
          clear hqc hgc hat FG Pb Ib Tb Fb Xb
          have c7 := (blk_cell Ic.out.blk 7).trans (show (⟨lineCells (.slice Av qs.length cq) mb cv L9⟩ : Array Value)[7]? = some (.bool L9.owes) from rfl)
          have f7 := blk_frozen Ic.out.blk 7
          go_wp2
          go_ret
          have FS := Frame.of_set wc' g 7 (.bool false)
          refine ⟨⟨vc, _, rfl, Pc.out.keep FS GNE.out, by rw [ETO.out]; exact Sc.out⟩, ⟨_, _, _, _, _, by rw [ETS.out]; exact Ic.out.upd FS ((blk_set Ic.out.blk 7 (.bool false)).trans rfl) rfl rfl rfl, HD.out⟩, Fc.out.trans FS (fun k e => .inl e)⟩
        | false =>
          go_wp2
          go_ret
          have FS := Frame.of_set w9 g 7 (.bool false)
          refine ⟨⟨_, [], rfl, P9.out.keep FS GNE.out, by rw [ETO.out, S9.out]; unfold outS; rw [if_neg (fun h => by rw [HOW.out] at h; exact absurd h.2 (by decide))]⟩, ⟨_, _, _, _, _, by rw [ETS.out]; exact I9.out.upd FS ((blk_set I9.out.blk 7 (.bool false)).trans rfl) rfl rfl rfl, HD.out⟩, F9.out.trans FS (fun k e => .inl e)⟩
end Go.Proofs.YtafjegfmmnjpfaaDoor.LineT

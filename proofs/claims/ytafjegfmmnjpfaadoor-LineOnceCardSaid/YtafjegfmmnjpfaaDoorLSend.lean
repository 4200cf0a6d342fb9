/- Proved: (*line.Line).Send; conditions: the theorems' own premises. -/
import Derived.Test.YtafjegfmmnjpfaaDoorLCut
namespace Go.Proofs.YtafjegfmmnjpfaaDoor.LineT
open Go.RowKit Go.Proofs.YtafjegfmmnjpfaaDoor.YLine Go.Proofs.YtafjegfmmnjpfaaDoorW.PrintWords Go.Proofs.YtafjegfmmnjpfaaDoorW.PrintLast Go.Proofs.YtafjegfmmnjpfaaDoorW.PrintMore
set_option linter.unusedVariables false
set_option linter.unusedSimpArgs false
theorem pk_step {ops : Array Oper} {o : Oper} {a : Act} {Q' : Exit → Act → World → Prop} {Kc : Act → World → Prop} {W : World} {base : Nat} {v : Value} {fs : List Pk} {f : Pk} {gl : Nat} (hw : Region.wanted o (yielded ops a.tmps) = true) (s x : Operand)
    (ho : o.op = .call { callee := .builtin .append, args := #[s, x], argTypes := #[28, 28] }) (hs : a.eval s = v) (hx : a.eval x = .slice (some ⟨gl, 0, none⟩) 1 1)
    (hq : QRow W base 37 4 v fs.length (pkCells fs)) (hb : W.heap[gl]? = some (.cells ⟨Pk.cells f⟩ 37 (0, 0))) (hl : fs.length ≤ 100000) (hbase : base ≤ W.heap.size)
    (h : ∀ v1 w1, QRow w1 base 37 4 v1 (fs ++ [f]).length (pkCells (fs ++ [f])) → W.grownBy w1 v.ownBlock → (v1.ownBlock = v.ownBlock ∨ ∃ b, v1.ownBlock = some b ∧ W.heap.size ≤ b) → Kc (a.put o.dst v1) w1) :
    if Region.wanted o (yielded ops a.tmps) = true then Oper.wp Tryd.prog o a W Kc Q' else Kc (a.put o.dst undef) W := by
  have hrun : ∃ v' w', (Builtin.append_ #[28, 28] o.type #[v, .slice (some ⟨gl, 0, none⟩) 1 1]).run Tryd.prog W = .ok v' w' ∧ QRow w' base 37 4 v' (fs ++ [f]).length (pkCells (fs ++ [f])) ∧ W.grownBy w' v.ownBlock ∧ (v'.ownBlock = v.ownBlock ∨ ∃ b, v'.ownBlock = some b ∧ W.heap.size ≤ b) := by
    obtain ⟨i0, hi, hzz⟩ := Option.map_eq_some_iff.1 infoPk
    simp only [Prod.mk.injEq] at hzz
    obtain ⟨hz0, hz1, hz2⟩ := hzz
    obtain ⟨v', w', h1, h2, h3, h4⟩ := q_append (P := Tryd.prog) W base 28 o.type 37 i0 (.agg ⟨pk0.cells⟩) 4 48 Tryd.underlying28 hi hz0 hz1 hz2 (by rfl) (by omega) v fs.length (pkCells fs) hq ⟨gl, 0, none⟩ 1 1 (Pk.cells f) rfl (fun j u hu => by
      rw [add_at, blk_cell hb, List.getElem?_toArray, Nat.zero_add]; exact hu) (pk_one f) (by omega) (by simp only [maxLen]; omega) (by omega) hbase
    refine ⟨v', w', h1, ?_, h3, h4⟩
    rw [List.length_append, pkCells_append]
    have e : pkCells [f] = Pk.cells f := by unfold pkCells; rw [List.flatMap_cons, List.flatMap_nil, List.append_nil]
    rw [e]
    exact h2
  obtain ⟨v1, w1, hr, h1, h2, h3⟩ := hrun
  refine event_step hw (v := v1) (w1 := w1) ?_ (h v1 w1 h1 h2 h3)
  unfold execOp
  simp only [ho, resolve, invoke, builtin, Sem.run_bind, Sem.run_pure, Result.andThen_ok, List.map_toArray, List.map_cons, List.map_nil, hs, hx]
  erw [hr]
  rfl
/-- Pieces with their numbers. -/
def numFrom : Int → List P4 → List P4
  | _, [] => []
  | n, p :: ps => ⟨p.f0, n + 1, p.f2, p.f3⟩ :: numFrom (n + 1) ps
theorem numFrom_length (n : Int) (ps : List P4) : (numFrom n ps).length = ps.length := by
  induction ps generalizing n with
  | nil => rfl
  | cons p ps ih => simp [numFrom, ih]
theorem numFrom_snoc (n : Int) (ps : List P4) (p : P4) : numFrom n (ps ++ [p]) = numFrom n ps ++ [⟨p.f0, n + ps.length + 1, p.f2, p.f3⟩] := by
  induction ps generalizing n with
  | nil => simp [numFrom]
  | cons q ps ih =>
    simp only [List.cons_append, numFrom, ih, List.length_cons]
    congr 4
    omega
def resetS (L : LS) : LS := if L.queue.length = 0 then { L with wait := 1, left := 0 } else L
def putS (L : LS) (ps : List P4) : LS := { resetS L with given := L.given + ps.length, queue := L.queue ++ numFrom L.given ps }
def sendE (L : LS) (msg : List Int) : Option Int := match cutS msg with
  | (_, some e) => some e
  | (ps, none) => if (ps.length : Int) ≤ 200 - (L.queue.length : Int) then none else some 10
def sendS (L : LS) (msg : List Int) : LS := if sendE L msg = none then putS L (cutS msg).1 else L
/-- A line behind a call: its blocks are those that it had, or new ones. -/
def LineTo (w w' : World) (base g : Nat) (D : Nat → Prop) (L : LS) : Prop := ∃ D', LineAt w' base g D' L ∧ ∀ k, D' k → D k ∨ w.heap.size ≤ k
theorem nowi_calls (w : World) (base g : Nat) (vq : Value) (mb : Nat) (cv : Value) (qs ks : List Pk) (L : LS) (h : IsLine w base g vq mb cv qs ks L) : Calls Tryd.prog 27 #[.pointer (some ⟨g, 0, none⟩)] w fun e w' => e = .returned (.tuple #[]) ∧ IsLine w' base g vq mb cv qs ks { L with wait := 1, left := 0 } ∧ Frame w w' (fun k => k = g) := by
  have H1 := Aside0.mk h
  have c5 := (blk_cell h.blk 5).trans (show (⟨lineCells vq mb cv L⟩ : Array Value)[5]? = some (.int .i64 L.wait) from rfl)
  have c6 := (blk_cell h.blk 6).trans (show (⟨lineCells vq mb cv L⟩ : Array Value)[6]? = some (.int .i64 L.left) from rfl)
  have f5 := blk_frozen h.blk 5
  have f6 := blk_frozen h.blk 6
  clear h
  go_enter Tryd.func27, Tryd.ntmps27
  go_wp2
  go_end0
  have hF : Frame w ((w.setCell ⟨g, 5, none⟩ (.int .i64 1)).setCell ⟨g, 6, none⟩ (.int .i64 0)) (fun k => k = g) := (Frame.of_set w g 5 _).trans (Frame.of_set _ g 6 _) (fun k e => .inl e)
  exact ⟨rfl, H1.out.upd hF ((blk_set (blk_set H1.out.blk 5 _) 6 _).trans rfl) rfl rfl rfl, hF⟩
theorem errW_none' : errW none = .nilIface := rfl
def putI (L R : LS) (r : List P4) (i : Nat) : LS := { R with given := L.given + (i : Int), queue := L.queue ++ numFrom L.given (r.take i) }
theorem putI_zero (L : LS) (r : List P4) : putI L (resetS L) r 0 = resetS L := by
  unfold putI resetS
  split <;> simp [numFrom]
theorem putI_all (L : LS) (r : List P4) : putI L (resetS L) r r.length = putS L r := by
  unfold putI putS
  rw [List.take_length]
theorem putI_succ (L R : LS) (r : List P4) (i : Nat) (x : P4) (h : r[i]? = some x) : putI L R r (i + 1) = { putI L R r i with given := L.given + (i : Int) + 1, queue := (putI L R r i).queue ++ [⟨x.f0, L.given + (i : Int) + 1, x.f2, x.f3⟩] } := by
  have hi : i < r.length := by
    by_cases hi : i < r.length
    · exact hi
    · rw [List.getElem?_eq_none (by omega)] at h; cases h
  have hx : r[i] = x := by rw [List.getElem?_eq_getElem hi] at h; exact Option.some.inj h
  unfold putI
  rw [List.take_succ_eq_append_getElem hi, numFrom_snoc, hx, List.length_take, Nat.min_eq_left (by omega)]
  simp only [LS.mk.injEq, true_and, and_true]
  refine ⟨?_, ?_⟩
  · rw [List.append_assoc]
  · push_cast
    omega
theorem Packs.keepB {w w1 : World} {B q : Nat} {v : Value} {ps : List Pk} {cells : Array Value} (h : Packs w B v ps) (hf : Frame w w1 (fun k => k = q)) (hr : ∀ k, v.ownBlock = some k → ¬ k = q) (hq : w.heap[q]? = some (.cells cells 37 (0, 0))) : Packs w1 B v ps :=
  ⟨qi_keep h.row hf hr, fun p hp => (h.els p hp).keep hf (fun ad e h' => by
    obtain ⟨_, cc, h2⟩ := (h.els p hp).own ad e
    have e' : ad.block = q := h'
    rw [e'] at h2
    have := h2.symm.trans hq
    simp at this)⟩
theorem PkOk.lower2 {w : World} {base B : Nat} {p : Pk} (h : PkOk w base p) (hB : B ≤ base) : PkOk w B p := h.lower hB
/-- A pack is laid into the queue. -/
theorem IsLine.push {W w1 : World} {base g : Nat} {vq v1 : Value} {mb : Nat} {cv : Value} {qs ks : List Pk} {L : LS} {x : Pk} (h : IsLine W base g vq mb cv qs ks L) (hx : PkOk W base x) (hxc : ∀ ad, x.A = some ad → some ad.block ≠ cv.ownBlock)
    (hq : QRow w1 base 37 4 v1 (qs ++ [x]).length (pkCells (qs ++ [x]))) (hg : W.grownBy w1 vq.ownBlock) :
    IsLine (w1.setCell ⟨g, 0, none⟩ v1) base g v1 mb cv (qs ++ [x]) ks { L with queue := L.queue ++ [x.say] } ∧ Frame W (w1.setCell ⟨g, 0, none⟩ v1) (fun k => k = g ∨ some k = vq.ownBlock) := by
  obtain ⟨n1, n2, n3, n4, n5, n6, n7⟩ := h.ne
  have hF : Frame W (w1.setCell ⟨g, 0, none⟩ v1) (fun k => k = g ∨ some k = vq.ownBlock) := ((Frame.of_grown hg).mono (S' := fun k => k = g ∨ some k = vq.ownBlock) (fun _ h => .inr h)).trans (Frame.of_set w1 g 0 v1) (fun k e => .inl (.inl e))
  have hb1 := blk_grown h.blk hg n2
  have hne : ∀ k, v1.ownBlock = some k → ¬ k = g := fun k hk e => by
    obtain ⟨_, cc, hc⟩ := q_typed hq k hk
    rw [e] at hc
    have := hc.symm.trans hb1
    simp at this
  have xty : ∀ ad, x.A = some ad → ¬ (ad.block = g ∨ some ad.block = vq.ownBlock) := fun ad e h' => by
    obtain ⟨_, cells, hc⟩ := hx.own ad e
    rcases h' with h' | h'
    · rw [h'] at hc
      have := hc.symm.trans h.blk
      simp at this
    · obtain ⟨_, cc, hc'⟩ := q_typed h.row ad.block h'.symm
      have := hc.symm.trans hc'
      simp at this
  refine ⟨⟨(blk_set hb1 0 v1).trans rfl, qi_keep hq (Frame.of_set w1 g 0 v1) (fun k hk e => hne k hk e), h.map.keep hF (fun e => e.elim (fun e => n1 e.symm) (fun e => n4 e)), qi_keep h.com hF (fun k hk e => e.elim (fun e => n3 (by rw [← e]; exact hk.symm)) (fun e => n6 k e.symm hk.symm)), fun p hp => ?_, fun p hp ad e => ?_, by rw [List.map_append, h.queue]; rfl, h.kept, h.bg, h.bm⟩, hF⟩
  · rw [List.append_assoc] at hp
    rcases List.mem_append.1 hp with hp | hp
    · exact (h.els p (List.mem_append_left _ hp)).keep hF (fun ad e h' => h'.elim (n7 p (List.mem_append_left _ hp) ad e).1 (n7 p (List.mem_append_left _ hp) ad e).2.2)
    · rcases List.mem_append.1 hp with hp | hp
      · obtain rfl := List.mem_singleton.1 hp
        exact hx.keep hF xty
      · exact (h.els p (List.mem_append_right _ hp)).keep hF (fun ad e h' => h'.elim (n7 p (List.mem_append_right _ hp) ad e).1 (n7 p (List.mem_append_right _ hp) ad e).2.2)
  · rw [List.append_assoc] at hp
    rcases List.mem_append.1 hp with hp | hp
    · exact h.apart p (List.mem_append_left _ hp) ad e
    · rcases List.mem_append.1 hp with hp | hp
      · obtain rfl := List.mem_singleton.1 hp
        exact hxc ad e
      · exact h.apart p (List.mem_append_right _ hp) ad e
set_option maxHeartbeats 4000000 in
set_option maxRecDepth 100000 in
theorem send_calls (w : World) (base g : Nat) (D : Nat → Prop) (L : LS) (A : Option Addr) (c : Nat) (msg : List Int) (h : LineAt w base g D L) (hq : L.queue.length ≤ 200) (hg0 : 0 ≤ L.given) (hg1 : L.given ≤ 2305843009213693952) (hb : Bytes w A msg) (hc : msg.length ≤ c) (hl : msg.length ≤ 9223372036854775807) :
    Calls Tryd.prog 11 #[.pointer (some ⟨g, 0, none⟩), .slice A msg.length c] w fun e w' => e = .returned (errW (sendE L msg)) ∧ LineTo w w' base g D (sendS L msg) ∧ Frame w w' D := by
  have H0 := Aside0.mk h
  have HBy := Aside0.mk hb
  clear h hb
  go_enter Tryd.func11, Tryd.ntmps11
  go_wp2_with (go_at_call 25; refine stop_here ?_)
  refine ⟨?_⟩
  refine (cut_calls w A c msg HBy.out hc hl).mono ?_
  rintro e w1 ⟨⟨v, ps, rfl, hP, hr⟩, hb⟩
  have P1 := Aside0.mk hP
  have H1 := Aside0.mk (H0.out.below hb)
  have B1 := Aside0.mk hb
  have RS := Aside0.mk hr
  clear hP hb hr
  by_cases hz : msg.length = 0
  · skip
    have E1 : Aside0 (cutS msg = ([], some 2)) := ⟨by unfold cutS; rw [if_pos hz]⟩
    have E2 : Aside0 (sendE L msg = some 2) := ⟨by unfold sendE; rw [E1.out]⟩
    have E3 : Aside0 (sendS L msg = L) := ⟨by unfold sendS; rw [if_neg (by rw [E2.out]; simp)]⟩
    rw [E1.out]
    rw [show errW (([], some 2) : List P4 × Option Int).2 = .iface 67 (.int .i64 2) from rfl]
    go_wp2
    go_ret
    rw [E2.out, E3.out]
    exact ⟨rfl, ⟨D, H1.out, fun k hk => .inl hk⟩, (Frame.of_below B1.out).mono (fun _ h => h.elim)⟩
  · by_cases hz2 : msg.length ≤ 8192
    · have E1 : Aside0 (cutS msg = (Chunk.cutL msg, none)) := ⟨by unfold cutS; rw [if_neg hz, if_pos hz2]⟩
      have HPL := Aside0.mk (show ps.length = (msg.length + 63) / 64 by
        have h1 := congrArg List.length RS.out
        rw [List.length_map, E1.out, cutL_length] at h1
        exact h1)
      have hpl : ps.length ≤ 129 := by have := HPL.out; omega
      obtain ⟨r, hr⟩ : ∃ r, Chunk.cutL msg = r := ⟨_, rfl⟩
      rw [hr] at E1
      rw [E1.out] at RS
      have RS' : Aside0 (ps.map Pk.say = r) := ⟨RS.out⟩
      have HRL := Aside0.mk (show r.length = ps.length by rw [← RS'.out, List.length_map])
      rw [E1.out]
      rw [show errW ((r, none) : List P4 × Option Int).2 = .nilIface from rfl]
      clear hr RS
      obtain ⟨Av, cv', hv, hle⟩ := q_slice P1.out.row
      subst hv
      go_wp2_with (go_at_call 26; refine stop_here ?_)
      refine ⟨?_⟩
      refine (room_calls w1 base g D L (ps.length : Int) H1.out (by omega)).mono ?_
      rintro e w1' ⟨rfl, hw⟩
      have hw' := hw.symm
      subst hw'
      clear hw
      by_cases hf : (ps.length : Int) ≤ 200 - (L.queue.length : Int)
      · have E2 : Aside0 (sendE L msg = none) := ⟨by unfold sendE; rw [E1.out]; show (if (r.length : Int) ≤ _ then _ else _) = _; rw [HRL.out, if_pos hf]⟩
        have E3 : Aside0 (sendS L msg = putS L r) := ⟨by unfold sendS; rw [if_pos E2.out, E1.out]⟩
        rw [decide_eq_true hf]
        obtain ⟨vq, mb, cv, qs, ks, hI, hD⟩ := H1.out
        have I1 := Aside0.mk hI
        have HD := Aside0.mk hD
        have HQ := Aside0.mk (show L.queue.length = qs.length by rw [← hI.queue, List.length_map])
        have HDOM := Aside0.mk (show ∀ k, dom g mb vq cv (qs ++ ks) k → k < w.heap.size from fun k hk => (H0.out.ge k ((hD k).2 hk)).2)
        clear hI hD
        obtain ⟨Aq, cq, hvq, hleq⟩ := q_slice I1.out.row
        subst hvq
        have c0 := (blk_cell I1.out.blk 0).trans (show (⟨lineCells (.slice Aq qs.length cq) mb cv L⟩ : Array Value)[0]? = some (.slice Aq qs.length cq) from rfl)
        go_upto_if 28 with (fail)
        go_cut [5] (fun v5 w' => v5 = .slice Av ps.length cv' ∧ Aside0 (IsLine w' base g (.slice Aq qs.length cq) mb cv qs ks (resetS L)) ∧ Aside0 (Frame w1 w' (fun k => k = g)))
        case first =>
          by_cases hq0 : qs.length = 0
          · have q0 : ((qs.length : Int) == 0) = true := by simpa using (by omega : (qs.length : Int) = 0)
            have ER : Aside0 (resetS L = { L with wait := 1, left := 0 }) := ⟨by unfold resetS; rw [if_pos (by rw [HQ.out]; exact hq0)]⟩
            clear hq0
            go_wp2_with (go_at_call 27; refine stop_here ?_)
            refine ⟨?_⟩
            refine (nowi_calls w1 base g (.slice Aq qs.length cq) mb cv qs ks L I1.out).mono ?_
            rintro e w2 ⟨rfl, hI, hF⟩
            have I2 := Aside0.mk hI
            have F2 := Aside0.mk hF
            clear hI hF
            go_wp2
            go_meet
            rw [ER.out]
            exact ⟨rfl, I2, F2⟩
          · have q0 : ((qs.length : Int) == 0) = false := by simpa using (by omega : ¬ (qs.length : Int) = 0)
            have ER : Aside0 (resetS L = L) := ⟨by unfold resetS; rw [if_neg (by rw [HQ.out]; exact hq0)]⟩
            clear hq0
            go_wp2
            go_meet
            rw [ER.out]
            exact ⟨rfl, I1, ⟨Frame.refl _ _⟩⟩
        case rest =>
          obtain ⟨rfl, I2, F2⟩ := hcut
          have P2 := Aside0.mk (P1.out.keep F2.out (fun k hk e => by have h1 := HDOM.out g (.inl rfl); have e' : k = g := e; omega))
          clear c0
          obtain ⟨R, hR⟩ : ∃ R, resetS L = R := ⟨_, rfl⟩
          have HRE := Aside0.mk hR
          have J2 : Aside0 (IsLine wc base g (.slice Aq qs.length cq) mb cv (qs ++ []) ks (putI L R r 0)) := ⟨by rw [List.append_nil, ← hR, putI_zero]; exact I2.out⟩
          have F3 : Aside0 (Frame w wc D) := ⟨(((Frame.of_below B1.out).mono (S' := D) (fun _ h => h.elim)).trans F2.out (fun k e => .inl (by have e' : k = g := e; rw [e']; exact (HD.out g).2 (.inl rfl))))⟩
          have PZ := Aside0.mk (show ∀ k, (Value.slice Av ps.length cv').ownBlock = some k → w.heap.size ≤ k ∧ k < wc.heap.size from fun k hk => ⟨(q_typed P2.out.row k hk).1, q_lt P2.out.row k hk⟩)
          have VQ0 := Aside0.mk (show ∀ k, (Value.slice Aq qs.length cq).ownBlock = some k → k < w.heap.size ∧ some k ≠ (Value.slice Av ps.length cv').ownBlock from fun k hk => by
            have h1 := HDOM.out k (.inr (.inr (.inl hk.symm)))
            exact ⟨h1, fun e => by have := (PZ.out k e.symm).1; omega⟩)
          clear hR I2
          go_wp2
          go_loopg [33] ps.length (fun kq v33 w' => ∃ (i : Nat) (vq : Value) (ns : List Pk), i ≤ ps.length ∧ v33 = .int .i64 (i : Int) ∧ Aside0 (kq = ps.length - i) ∧ Aside0 (IsLine w' base g vq mb cv (qs ++ ns) ks (putI L R r i)) ∧ Aside0 (∀ p ∈ ns, ∀ ad, p.A = some ad → w.heap.size ≤ ad.block) ∧ Aside0 (∀ k, vq.ownBlock = some k → (D k ∨ w.heap.size ≤ k) ∧ some k ≠ (Value.slice Av ps.length cv').ownBlock) ∧ Aside0 (Packs w' w.heap.size (.slice Av ps.length cv') ps) ∧ Aside0 (Frame w w' D))
          case atStart => exact ⟨0, _, [], by omega, rfl, ⟨rfl⟩, J2, ⟨fun p hp => by simp at hp⟩, ⟨fun k hk => ⟨.inl ((HD.out k).2 (.inr (.inr (.inl hk.symm)))), (VQ0.out k hk).2⟩⟩, P2, F3⟩
          case round =>
            clear J2 P2 F2 F3
            obtain ⟨i, vq, ns, hi, rfl, HK, J2, N2, V2, P2, F2⟩ := hrel
            have zi : 0 ≤ (i : Int) := by omega
            by_cases hlt : i < ps.length
            · have lt : (i : Int) < (ps.length : Int) := by omega
              obtain ⟨gr, off, hAv⟩ := row_at P2.out.row (by omega)
              subst hAv
              obtain ⟨ad, ea, hcell⟩ := q_cells P2.out.row (by omega)
              injection ea with ea
              subst ea
              obtain ⟨x, hx⟩ : ∃ x, ps[i] = x := ⟨_, rfl⟩
              have xr : wr.rangeAt gr (off + i * 4) x.cells := fun j u hj => by
                have hj4 : j < 4 := (List.getElem?_eq_some_iff.1 hj).1
                have := hcell (i * 4 + j) u (by rw [pkCells_at ps i hlt j hj4, hx]; exact hj)
                rwa [add_at, ← Nat.add_assoc] at this
              have hok : PkOk wr w.heap.size x := by rw [← hx]; exact P2.out.els _ (List.getElem_mem hlt)
              have hri : r[i]? = some x.say := by rw [← RS'.out, List.getElem?_map, List.getElem?_eq_getElem hlt, hx]; rfl
              have HPS := Aside0.mk (putI_succ L R r i x.say hri)
              have HO := Aside0.mk hok
              obtain ⟨ack, num, last, Ax, cx, bx⟩ := x
              obtain ⟨G, hG⟩ : ∃ G, L.given + (i : Int) = G := ⟨_, rfl⟩
              have HG := Aside0.mk hG
              have g0 : 0 ≤ G := by omega
              have g1 : G ≤ 2305843009213694952 := by omega
              clear hcell hok hri hx hG
              go_wp2_with ((with_reducible refine gate_dst (N := 36) rfl ?_); refine stop_here ?_)
              refine ⟨?_⟩
              refine wpList_load_mid rfl 37 (.tmp 35) rfl gr (off + i * 4) rfl (Pk.cells ⟨ack, num, last, Ax, cx, bx⟩) _ xr Tryd.underlying37 rfl ?hi ?_
              case hi => rfl
              clear xr
              go_wp2_with ((with_reducible refine gate_dst (N := 8) rfl ?_); refine stop_here ?_)
              refine ⟨?_⟩
              refine box_event rfl (N := 8) rfl (cs := ⟨pk0.cells⟩) (t := 37) ?hr8 ?_
              case hr8 => first | (go_simp; done) | (go_simp; rfl)
              intro q8 hq8 w3 hbox hb
              have X3 := Aside0.mk hbox
              have NP := Aside0.mk (show wr.heap.size ≤ q8 by rw [hq8]; exact Nat.le_refl _)
              have H3 := Aside0.mk hb
              clear hq8 hbox hb
              go_wp2_with ((with_reducible refine gate_store (t := 37) (p := 8) rfl ?_); refine stop_here ?_)
              refine ⟨?_⟩
              refine wpList_store_mid rfl 37 (.tmp 8) (.tmp 36) rfl q8 0 ⟨Pk.cells ⟨ack, num, last, Ax, cx, bx⟩⟩ rfl rfl (by have h := box_there X3.out; exact h) rfl (pk_all _) ?_
              have FS := Aside0.mk (Frame.of_setCells w3 q8 0 (Pk.cells ⟨ack, num, last, Ax, cx, bx⟩))
              have X4 := Aside0.mk (box_put (Pk.cells ⟨ack, num, last, Ax, cx, bx⟩) X3.out rfl)
              have H4 := Aside0.mk (below_frame H3.out FS.out H3.out.size (fun k e => by rw [e]; exact NP.out))
              obtain ⟨w4, hw4⟩ : ∃ w4, w3.setCells q8 0 (Pk.cells ⟨ack, num, last, Ax, cx, bx⟩) = w4 := ⟨_, rfl⟩
              have e4 : w3.setCells q8 0 (⟨Pk.cells ⟨ack, num, last, Ax, cx, bx⟩⟩ : Array Value).toList = w4 := hw4
              rw [e4]
              rw [hw4] at X4 H4
              clear hw4 e4 FS X3 H3
              have WS := Aside0.mk F2.out.size
              have JD := Aside0.mk (show ∀ k, dom g mb vq cv ((qs ++ ns) ++ ks) k → k < wr.heap.size from fun k hk => (J2.out.ge k hk).2)
              have QB := Aside0.mk (show ∀ k, (Value.slice (some ⟨gr, off, none⟩) ps.length cv').ownBlock = some k → k < wr.heap.size ∧ w.heap.size ≤ k from fun k hk => ⟨q_lt P2.out.row k hk, (q_typed P2.out.row k hk).1⟩)
              have P4 := Aside0.mk (P2.out.below H4.out)
              have J4 := Aside0.mk (J2.out.below H4.out)
              have O4 := Aside0.mk (HO.out.below H4.out)
              have F4 := Aside0.mk (F2.out.trans (Frame.of_below H4.out) (fun _ h => h.elim))
              clear P2 J2 HO F2 H4
              have eg : (putI L R r i).given = G := HG.out
              have c1 := (blk_cell J4.out.blk 1).trans (show (⟨lineCells vq mb cv (putI L R r i)⟩ : Array Value)[1]? = some (.int .i64 G) from by rw [← eg]; rfl)
              have f1 := blk_frozen J4.out.blk 1
              clear eg
              go_upto_region 12 with (fail)
              have FS := Aside0.mk (Frame.of_set w4 g 1 (.int .i64 (G + 1)))
              have DG := Aside0.mk ((HD.out g).2 (.inl rfl))
              have GB := Aside0.mk (show g < w.heap.size from HDOM.out g (.inl rfl))
              have J5 := Aside0.mk (J4.out.upd (L' := { putI L R r i with given := G + 1 }) FS.out ((blk_set J4.out.blk 1 (.int .i64 (G + 1))).trans rfl) rfl rfl rfl)
              have NQ := Aside0.mk (show q8 ≠ g from fun e => by have := NP.out; have := GB.out; have := WS.out; omega)
              have X5 := Aside0.mk (FS.out.blk X4.out (fun e => NQ.out e))
              have P5 := Aside0.mk (P4.out.keep FS.out (fun k hk e => by have := GB.out; have e' : k = g := e; omega))
              have O5 := Aside0.mk (O4.out.keep FS.out (fun ad e h => by have h1 := (O4.out.own ad e).1; have := GB.out; have e' : ad.block = g := h; omega))
              have F5 := Aside0.mk (F4.out.trans FS.out (fun k e => .inl (by have e' : k = g := e; rw [e']; exact DG.out)))
              obtain ⟨w5, hw5⟩ : ∃ w5, w4.setCell ⟨g, 1, none⟩ (.int .i64 (G + 1)) = w5 := ⟨_, rfl⟩
              rw [hw5] at J5 X5 P5 O5 F5
              rw [hw5]
              clear hw5 FS J4 X4 P4 O4 F4 c1 f1
              have c1 := (blk_cell J5.out.blk 1).trans (show (⟨lineCells vq mb cv { putI L R r i with given := G + 1 }⟩ : Array Value)[1]? = some (.int .i64 (G + 1)) from rfl)
              have x1 := (blk_cell X5.out 1).trans (show (⟨Pk.cells ⟨ack, num, last, Ax, cx, bx⟩⟩ : Array Value)[1]? = some (.int .i64 num) from rfl)
              have fx := blk_frozen X5.out 1
              go_upto_region 13 with (fail)
              have FS := Aside0.mk (Frame.of_set w5 q8 1 (.int .i64 (G + 1)))
              have X6 := Aside0.mk ((blk_set X5.out 1 (.int .i64 (G + 1))).trans (show _ = some (Obj.cells ⟨Pk.cells ⟨ack, G + 1, last, Ax, cx, bx⟩⟩ 37 (0, 0)) from rfl))
              have J6 := Aside0.mk (J5.out.keep FS.out (fun k hk e => by have h1 := JD.out k hk; have h2 := NP.out; have e' : k = q8 := e; omega))
              have PQ := Aside0.mk (show ∀ k, wr.heap.size ≤ k → True from fun _ _ => trivial)
              have O6 : Aside0 (PkOk (w5.setCell ⟨q8, 1, none⟩ (.int .i64 (G + 1))) w.heap.size ⟨ack, G + 1, last, Ax, cx, bx⟩) := ⟨(show PkOk w5 w.heap.size ⟨ack, G + 1, last, Ax, cx, bx⟩ from ⟨O5.out.bytes, O5.out.cap, O5.out.own⟩).keep FS.out (fun ad e h => by
                obtain ⟨_, cc, h2⟩ := O5.out.own ad e
                have e' : ad.block = q8 := h
                rw [e'] at h2
                have := h2.symm.trans X5.out
                simp at this)⟩
              have P6 := Aside0.mk (P5.out.keepB FS.out (fun k hk e => by have e' : k = q8 := e; have h1 := (QB.out k hk).1; have h2 := NP.out; omega) X5.out)
              have F6 := Aside0.mk (F5.out.trans FS.out (fun k e => .inr (by have e' : k = q8 := e; have := NP.out; have := WS.out; omega)))
              obtain ⟨w6, hw6⟩ : ∃ w6, w5.setCell ⟨q8, 1, none⟩ (.int .i64 (G + 1)) = w6 := ⟨_, rfl⟩
              rw [hw6] at J6 X6 P6 O6 F6
              rw [hw6]
              clear hw6 FS J5 X5 P5 O5 F5 c1 x1 fx PQ
              obtain ⟨Aw, cw, hvw, hlw⟩ := q_slice J6.out.row
              subst hvw
              have HQL := Aside0.mk (show (qs ++ ns).length ≤ 100000 by
                have h1 := congrArg List.length J6.out.queue
                rw [List.length_map] at h1
                rw [h1]
                show (L.queue ++ numFrom L.given (r.take i)).length ≤ 100000
                rw [List.length_append, numFrom_length, List.length_take]
                omega)
              obtain ⟨nq, hnq⟩ : ∃ nq, (qs ++ ns).length = nq := ⟨_, rfl⟩
              have HNQ := Aside0.mk hnq
              clear hnq
              have J7 := Aside0.mk (J6.out.below (below_drew1 (Below.refl w6.heap.size w6)))
              have P7 := Aside0.mk (P6.out.below (below_drew1 (Below.refl w6.heap.size w6)))
              have O7 := Aside0.mk (O6.out.below (below_drew1 (Below.refl w6.heap.size w6)))
              have F7 := Aside0.mk (F6.out.trans (Frame.of_drewN w6 1 D) (fun k e => .inl e))
              have X7 := Aside0.mk (blk_drew X6.out)
              have c0 := (blk_cell J6.out.blk 0).trans (show (⟨lineCells (.slice Aw (qs ++ ns).length cw) mb cv { putI L R r i with given := G + 1 }⟩ : Array Value)[0]? = some (.slice Aw nq cw) from by rw [← HNQ.out]; rfl)
              have xq : w6.rangeAt q8 0 (Pk.cells ⟨ack, G + 1, last, Ax, cx, bx⟩) := row_range X6.out
              clear J6 P6 O6 F6 X6
              refine start_ (n := 11) (S := fun w' => w'.cell? ⟨g, 0, none⟩ = some (.slice Aw nq cw) ∧ w'.rangeAt q8 0 (Pk.cells ⟨ack, G + 1, last, Ax, cx, bx⟩)) (ds := [10]) #[false, false, false, false, false, false, false, false, false, false, false] (by kernel_rfl) rfl rfl ⟨c0, xq⟩ (fun hHeld => ?_)
              refine pure_ (i := 0) (N := some 49) (v := ?_) (a' := ?_) #[true, false, false, false, false, false, false, false, false, false, false] rfl rfl (by kernel_rfl) (fun _ _ _ h => h) (Or.inl ⟨by rfl, ?_⟩) ?_ ?_
              rotate_left
              · intro w'
                go_simp
                with_reducible rfl
              rotate_left
              · simp only [Act.put, List.setIfInBounds_toArray, List.set_cons_zero, List.set_cons_succ, i64_w, i32_w]
                rfl
              refine pure_ (i := 1) (N := some 50) (v := ?_) (a' := ?_) #[true, true, false, false, false, false, false, false, false, false, false] rfl rfl (by kernel_rfl) (fun _ _ _ h => h) (Or.inl ⟨by rfl, ?_⟩) ?_ ?_
              rotate_left
              · intro w'
                go_simp
                with_reducible rfl
              rotate_left
              · simp only [Act.put, List.setIfInBounds_toArray, List.set_cons_zero, List.set_cons_succ, i64_w, i32_w]
                rfl
              refine pure_ (i := 2) (N := some 51) (v := ?_) (a' := ?_) #[true, true, true, false, false, false, false, false, false, false, false] rfl rfl (by kernel_rfl) (fun _ _ _ h => h) (Or.inl ⟨by rfl, ?_⟩) ?_ ?_
              rotate_left
              · intro w'
                go_simp
                with_reducible rfl
              rotate_left
              · simp only [Act.put, List.setIfInBounds_toArray, List.set_cons_zero, List.set_cons_succ, i64_w, i32_w]
                rfl
              refine pure_ (i := 3) (N := some 52) (v := ?_) (a' := ?_) #[true, true, true, true, false, false, false, false, false, false, false] rfl rfl (by kernel_rfl) (fun _ _ _ h => h) (Or.inl ⟨by rfl, ?_⟩) ?_ ?_
              rotate_left
              · intro w'
                go_simp
                with_reducible rfl
              rotate_left
              · simp only [Act.put, List.setIfInBounds_toArray, List.set_cons_zero, List.set_cons_succ, i64_w, i32_w]
                rfl
              refine take_ (i := 4) (N := some 53) (v := ?_) (a' := ?_) #[true, true, true, true, true, false, false, false, false, false, false] rfl rfl (by kernel_rfl) (fun _ _ _ h => h) (Or.inl ⟨by rfl, ?_⟩) hHeld ?_ ?_
              rotate_left
              · rintro w' ⟨s0, s1⟩
                go_simp
                with_reducible rfl
              rotate_left
              · simp only [Act.put, List.setIfInBounds_toArray, List.set_cons_zero, List.set_cons_succ, i64_w, i32_w]
                rfl
              refine take_ (i := 5) (N := some 54) (v := ?_) (a' := ?_) #[true, true, true, true, true, true, false, false, false, false, false] rfl rfl (by kernel_rfl) (fun _ _ _ h => h) (Or.inl ⟨by rfl, ?_⟩) hHeld ?_ ?_
              rotate_left
              · rintro w' ⟨s0, s1⟩
                refine (load_mid_run 37 (.tmp 8) ?q1 q8 0 ?q2 (Pk.cells ⟨ack, G + 1, last, Ax, cx, bx⟩) _ s1 Tryd.underlying37 rfl rfl); rfl; rfl
              rotate_left
              · simp only [Act.put, List.setIfInBounds_toArray, List.set_cons_zero, List.set_cons_succ, i64_w, i32_w]
                rfl
              refine one_ (i := 6) (N := some 55) #[true, true, true, true, true, true, true, false, false, false, false] rfl rfl (by kernel_rfl) (by decide) (fun K hK => ?_)
              refine made_step ⟨Pk.cells ⟨ack, G + 1, last, Ax, cx, bx⟩⟩ 37 1 (by rfl) ?hr6 ?_
              case hr6 => first | (go_simp; done) | (go_simp; rfl)
              intro gl hgl w8 hbx hb
              have J8 := Aside0.mk (J7.out.below hb)
              have P8 := Aside0.mk (P7.out.below hb)
              have O8 := Aside0.mk (O7.out.below hb)
              have F8 := Aside0.mk (F7.out.trans (Frame.of_below hb) (fun _ h => h.elim))
              have X8 := Aside0.mk (blk_below X7.out hb)
              have E8 := Aside0.mk hbx
              clear hgl hbx hb J7 P7 O7 F7 X7
              refine hK.out _ _ ⟨(blk_cell J8.out.blk 0).trans (by rw [← HNQ.out]; rfl), row_range X8.out⟩ (fun hHeld => ?_)
              clear hK K
              refine norm_ (a' := ?_) ?_ ?_
              rotate_left
              · show Act.put _ (some 55) _ = _
                simp only [Act.put, List.setIfInBounds_toArray, List.set_cons_zero, List.set_cons_succ, i64_w, i32_w]
                rfl
              refine one_ (i := 7) (N := some 56) #[true, true, true, true, true, true, true, true, false, false, false] rfl rfl (by kernel_rfl) (by decide) (fun K hK => ?_)
              refine pk_step (base := base) (v := .slice Aw nq cw) (fs := qs ++ ns) (f := ⟨ack, G + 1, last, Ax, cx, bx⟩) (gl := gl) (by rfl) (.tmp 53) (.tmp 55) (by rfl) (by rfl) (by rfl) (by rw [← HNQ.out]; exact J8.out.row) E8.out HQL.out ?hbs ?_
              case hbs => have h1 := J8.out.bg; have h2 := blk_lt J8.out.blk; omega
              intro v9 w9 hq9 hg9 hat
              obtain ⟨A9, k9, hv9, _⟩ := q_slice hq9
              subst hv9
              rw [own_slice Aw nq cw (qs ++ ns).length cw] at hg9 hat
              obtain ⟨n9, hn9⟩ : ∃ n9, (qs ++ ns ++ [(⟨ack, G + 1, last, Ax, cx, bx⟩ : Pk)]).length = n9 := ⟨_, rfl⟩
              have hpush := J8.out.push (O8.out.lower2 (by have h1 := HDOM.out g (.inl rfl); have h2 := J8.out.bg; omega)) (fun ad e h => by
                have h1 := (O8.out.own ad e).1
                have h2 := HDOM.out ad.block (.inr (.inr (.inr (.inl h))))
                omega) hq9 hg9
              have c9 := blk_grown J8.out.blk hg9 J8.out.ne.2.1
              have K9 := Aside0.mk c9
              have xq9 : w9.rangeAt q8 0 (Pk.cells ⟨ack, G + 1, last, Ax, cx, bx⟩) := row_range (blk_grown X8.out hg9 (fun e => by
                have h1 := JD.out q8 (.inr (.inr (.inl e)))
                have := NP.out
                omega))
              have PU := Aside0.mk hpush
              have AT := Aside0.mk hat
              have S8 := Aside0.mk (show wr.heap.size ≤ w8.heap.size from by have h1 := NP.out; have h2 := blk_lt X8.out; omega)
              clear hpush c9 hq9 hg9 hat
              rw [hn9] at PU AT ⊢
              have HN9 := Aside0.mk hn9
              clear hn9
              refine hK.out _ _ ⟨(blk_cell K9.out 0).trans (by rw [← HNQ.out]; rfl), xq9⟩ (fun hHeld => ?_)
              clear hK K
              refine norm_ (a' := ?_) ?_ ?_
              rotate_left
              · show Act.put _ (some 56) _ = _
                simp only [Act.put, List.setIfInBounds_toArray, List.set_cons_zero, List.set_cons_succ, i64_w, i32_w]
                rfl
              refine pure_ (i := 8) (N := some 57) (v := ?_) (a' := ?_) #[true, true, true, true, true, true, true, true, true, false, false] rfl rfl (by kernel_rfl) (fun _ _ _ h => h) (Or.inl ⟨by rfl, ?_⟩) ?_ ?_
              rotate_left
              · intro w'
                go_simp
                with_reducible rfl
              rotate_left
              · simp only [Act.put, List.setIfInBounds_toArray, List.set_cons_zero, List.set_cons_succ, i64_w, i32_w]
                rfl
              refine pure_ (i := 9) (N := some 58) (v := ?_) (a' := ?_) #[true, true, true, true, true, true, true, true, true, true, false] rfl rfl (by kernel_rfl) (fun _ _ _ h => h) (Or.inl ⟨by rfl, ?_⟩) ?_ ?_
              rotate_left
              · intro w'
                go_simp
                with_reducible rfl
              rotate_left
              · simp only [Act.put, List.setIfInBounds_toArray, List.set_cons_zero, List.set_cons_succ, i64_w, i32_w]
                rfl
              refine last_ (i := 10) (N := none) #[true, true, true, true, true, true, true, true, true, true, true] rfl rfl (by kernel_rfl) (by decide) (fun K hK => ?_)
              have f0 := blk_frozen K9.out 0
              have c1 := (blk_cell K9.out 0).trans (show (⟨lineCells (.slice Aw (qs ++ ns).length cw) mb cv { putI L R r i with given := G + 1 }⟩ : Array Value)[0]? = some (.slice Aw nq cw) from by rw [← HNQ.out]; rfl)
              refine skip_ (w1 := ?_) (by rfl) rfl ?_ ?_
              rotate_left
              · go_simp
                rfl
              refine hK.out _ _ ?_
              clear hK K
              refine done_ (by kernel_rfl) ?_
              have P9 : Aside0 (Packs (w9.setCell ⟨g, 0, none⟩ (.slice A9 n9 k9)) w.heap.size (.slice (some ⟨gr, off, none⟩) ps.length cv') ps) := ⟨⟨qi_keep P8.out.row PU.out.2 (fun k hk e => e.elim (fun e => by have h1 := (QB.out k hk).2; have := GB.out; omega) (fun e => (V2.out k e.symm).2 hk.symm)), fun p hp => (P8.out.els p hp).keep PU.out.2 (fun ad e h => h.elim (fun h => by have h1 := ((P8.out.els p hp).own ad e).1; have := GB.out; omega) (fun h => by
                obtain ⟨_, cc, h2⟩ := (P8.out.els p hp).own ad e
                obtain ⟨_, cc', h3⟩ := q_typed J8.out.row ad.block h.symm
                have := h2.symm.trans h3
                simp at this))⟩⟩
              have F9 : Aside0 (Frame w (w9.setCell ⟨g, 0, none⟩ (.slice A9 n9 k9)) D) := ⟨F8.out.trans PU.out.2 (fun k e => e.elim (fun e => .inl (by rw [e]; exact DG.out)) (fun e => (V2.out k e.symm).1))⟩
              have V9 : Aside0 (∀ k, (Value.slice A9 n9 k9).ownBlock = some k → (D k ∨ w.heap.size ≤ k) ∧ some k ≠ (Value.slice (some ⟨gr, off, none⟩) ps.length cv').ownBlock) := ⟨fun k hk => by
                rcases AT.out with h | ⟨b', h, hb'⟩
                · exact V2.out k (h.symm.trans hk)
                · rw [hk] at h
                  injection h with h
                  subst h
                  exact ⟨.inr (by have := S8.out; have := WS.out; omega), fun e => by have h1 := (QB.out k e.symm).1; have := S8.out; omega⟩⟩
              have N9 : Aside0 (∀ p ∈ ns ++ [(⟨ack, G + 1, last, Ax, cx, bx⟩ : Pk)], ∀ ad, p.A = some ad → w.heap.size ≤ ad.block) := ⟨fun p hp ad e => by
                rcases List.mem_append.1 hp with hp | hp
                · exact N2.out p hp ad e
                · obtain rfl := List.mem_singleton.1 hp
                  exact (O8.out.own ad e).1⟩
              have J9 : Aside0 (IsLine (w9.setCell ⟨g, 0, none⟩ (.slice A9 n9 k9)) base g (.slice A9 n9 k9) mb cv (qs ++ (ns ++ [(⟨ack, G + 1, last, Ax, cx, bx⟩ : Pk)])) ks (putI L R r (i + 1))) := ⟨by
                rw [HPS.out, HG.out, ← List.append_assoc]
                exact PU.out.1⟩
              obtain ⟨wz, hwz⟩ : ∃ wz, w9.setCell ⟨g, 0, none⟩ (.slice A9 n9 k9) = wz := ⟨_, rfl⟩
              rw [hwz] at P9 F9 J9
              rw [hwz]
              clear hwz PU AT J8 P8 O8 F8 X8 E8 K9 V2 N2 c0 xq xq9
              go_wp2
              go_roundg (ps.length - i - 1)
              case measure => have := HK.out; omega
              case rel => exact ⟨i + 1, _, _, by omega, by go_num, ⟨by omega⟩, J9, N9, V9, P9, F9⟩
            · have HI : Aside0 (i = ps.length) := ⟨by omega⟩
              have lt : ¬ (i : Int) < (ps.length : Int) := by omega
              go_wp2
              go_ret
              rw [E2.out, E3.out]
              refine ⟨rfl, ⟨_, ⟨_, _, _, _, _, by rw [← putI_all, HRE.out, HRL.out, ← HI.out]; exact J2.out, fun k => Iff.rfl⟩, fun k hk => ?_⟩, F2.out⟩
              rcases hk with rfl | rfl | hk | hk | ⟨p, hp, ad, e, rfl⟩
              · exact .inl ((HD.out _).2 (.inl rfl))
              · exact .inl ((HD.out _).2 (.inr (.inl rfl)))
              · exact (V2.out k hk.symm).1
              · exact .inl ((HD.out _).2 (.inr (.inr (.inr (.inl hk)))))
              · rw [List.append_assoc] at hp
                rcases List.mem_append.1 hp with hp | hp
                · exact .inl ((HD.out _).2 (.inr (.inr (.inr (.inr ⟨p, List.mem_append_left _ hp, ad, e, rfl⟩)))))
                · rcases List.mem_append.1 hp with hp | hp
                  · exact .inr (N2.out p hp ad e)
                  · exact .inl ((HD.out _).2 (.inr (.inr (.inr (.inr ⟨p, List.mem_append_right _ hp, ad, e, rfl⟩)))))
      · have E2 : Aside0 (sendE L msg = some 10) := ⟨by unfold sendE; rw [E1.out]; show (if (r.length : Int) ≤ _ then _ else _) = _; rw [HRL.out, if_neg hf]⟩
        have E3 : Aside0 (sendS L msg = L) := ⟨by unfold sendS; rw [if_neg (by rw [E2.out]; simp)]⟩
        rw [decide_eq_false hf]
        go_wp2
        go_ret
        rw [E2.out, E3.out]
        exact ⟨rfl, ⟨D, H1.out, fun k hk => .inl hk⟩, (Frame.of_below B1.out).mono (fun _ h => h.elim)⟩
    · skip
      have E1 : Aside0 (cutS msg = ([], some 6)) := ⟨by unfold cutS; rw [if_neg hz, if_neg hz2]⟩
      have E2 : Aside0 (sendE L msg = some 6) := ⟨by unfold sendE; rw [E1.out]⟩
      have E3 : Aside0 (sendS L msg = L) := ⟨by unfold sendS; rw [if_neg (by rw [E2.out]; simp)]⟩
      rw [E1.out]
      rw [show errW (([], some 6) : List P4 × Option Int).2 = .iface 67 (.int .i64 6) from rfl]
      go_wp2
      go_ret
      rw [E2.out, E3.out]
      exact ⟨rfl, ⟨D, H1.out, fun k hk => .inl hk⟩, (Frame.of_below B1.out).mono (fun _ h => h.elim)⟩
end Go.Proofs.YtafjegfmmnjpfaaDoor.LineT

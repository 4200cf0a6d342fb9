/- Proved: (*line.Line).Hear; conditions: the theorems' own premises. -/
import Derived.Test.YtafjegfmmnjpfaaDoorLPure
namespace Go.Proofs.YtafjegfmmnjpfaaDoor.LineT
open Go.RowKit Go.Proofs.YtafjegfmmnjpfaaDoor.YLine Go.Proofs.YtafjegfmmnjpfaaDoorW.PrintWords Go.Proofs.YtafjegfmmnjpfaaDoorW.PrintLast Go.Proofs.YtafjegfmmnjpfaaDoorW.PrintMore
set_option linter.unusedVariables false
set_option linter.unusedSimpArgs false
/-- A pack is kept, if it is awaited and not there. -/
def keepS (L : LS) (p : P4) : LS := if fndS p.f1 L.kept = none ∧ L.await ≤ p.f1 ∧ p.f1 < L.await + 8 then { L with kept := L.kept ++ [p] } else L
def hearS (L : LS) (p : P4) : LS × List (List Int) × Option Int :=
  if mayB p.f0 p.f1 p.f2 p.f3 = false then (L, [], some 1)
  else if L.given < p.f0 then (L, [], some 14)
  else if p.f1 = 0 then (ackS L p.f0, [], none)
  else drainS (keepS { ackS L p.f0 with owes := true } p)
theorem hear_of (L : LS) (a n : Int) (l : Bool) (d : List Int) : hearS L ⟨a, n, l, d⟩ = if mayB a n l d = false then (L, [], some 1) else if L.given < a then (L, [], some 14) else if n = 0 then (ackS L a, [], none) else drainS (keepS { ackS L a with owes := true } ⟨a, n, l, d⟩) := rfl
def WriteIs (e : Ending) (b : Bool) : Prop := ∃ v, e = .returned (.tuple #[v, errW (if b = true then none else some 1)])
theorem write_calls (w : World) (a n : Int) (last : Bool) (A : Option Addr) (c : Nat) (b : List Int) (hb : Bytes w A b) (hc : b.length ≤ c) (hl : b.length ≤ 9223372036854775807) :
    Calls Tryd.prog 29 #[.agg #[.int .i64 a, .int .i64 n, .bool last, .slice A b.length c]] w fun e w' => WriteIs e (mayB a n last b) ∧ Below w.heap.size w w' := by
  obtain ⟨k, hk⟩ := write_ev a n last b
  have hk := hk k (Nat.le_refl _)
  have hC := reads_bytes hb hl
  have hV : Kd.V (Kd.int .u8) 5 w w.heap.size (fun _ => True) (.slice A b.length c) b := Kd.V_mk hc (Kd.F_mono (Kd.C_F (Kd.heap_int .u8) hC) (fun _ _ => trivial))
  have hk' : piece_Write.f k a n last b = some (if mayB a n last b = true then (bytesOf a n last b, none) else ([], some 1)) := hk
  cases hm : mayB a n last b with
  | true =>
    rw [hm] at hk'
    refine (piece_Write.calls k a n last (fun _ => True) A c b (bytesOf a n last b) none w hV hk').mono ?_
    rintro e w1 ⟨v, he, _, hB⟩
    exact ⟨⟨v, he⟩, hB⟩
  | false =>
    rw [hm] at hk'
    refine (piece_Write.calls k a n last (fun _ => True) A c b [] (some 1) w hV hk').mono ?_
    rintro e w1 ⟨v, he, _, hB⟩
    exact ⟨⟨v, he⟩, hB⟩
theorem ackS_await (L : LS) (n : Int) : (ackS L n).await = L.await := by unfold ackS; split <;> rfl
theorem ackS_kept (L : LS) (n : Int) : (ackS L n).kept = L.kept := by unfold ackS; split <;> rfl
theorem ackS_coming (L : LS) (n : Int) : (ackS L n).coming = L.coming := by unfold ackS; split <;> rfl
theorem ackS_given (L : LS) (n : Int) : (ackS L n).given = L.given := by unfold ackS; split <;> rfl
theorem no_msgs (w : World) (base : Nat) : Msgs w base (.slice none 0 0) [] := ⟨⟨rfl, .inl ⟨rfl, none, rfl, fun a ha => by cases ha⟩⟩, fun p hp => by simp at hp⟩
theorem no_on (w : World) (D : Nat → Prop) : On w D (.slice none 0 0) [] := ⟨fun k hk => (by cases hk), fun p hp => by simp at hp⟩
theorem no_off (D : Nat → Prop) : Off D (.slice none 0 0) [] := ⟨fun k hk => (by cases hk), fun p hp => by simp at hp⟩
theorem LineAt.cellG {w : World} {base g : Nat} {D : Nat → Prop} {L : LS} (h : LineAt w base g D L) : w.cell? ⟨g, 1, none⟩ = some (.int .i64 L.given) := by
  obtain ⟨vq, mb, cv, qs, ks, h1, _⟩ := h
  exact (blk_cell h1.blk 1).trans rfl
theorem mapnew_step {ops : Array Oper} {o : Oper} {a : Act} {Q' : Exit → Act → World → Prop} {Kc : Act → World → Prop} {W : World} {mb : Nat} {p : Pk} {ks : List Pk} (hw : Region.wanted o (yielded ops a.tmps) = true) (hd : o.dst = none) (x y z : Operand)
    (ho : o.op = .mapUpdate 62 x y z) (hx : a.eval x = .map (some mb)) (hy : a.eval y = .int .i64 p.num) (hz : a.eval z = .agg ⟨p.cells⟩) (hm : MapIs W mb ks) (hj : fnd p.num ks = none)
    (h : ∀ w1, MapIs w1 mb (ks ++ [p]) → Frame W w1 (fun k => k = mb) → Kc a w1) : if Region.wanted o (yielded ops a.tmps) = true then Oper.wp Tryd.prog o a W Kc Q' else Kc (a.put o.dst undef) W := by
  obtain ⟨w1, hr, h1, h2⟩ := run_mapnew hm p hj
  rw [if_pos hw]
  have e : (execOp a.eval o).run Tryd.prog W = .ok .skip w1 := by
    unfold execOp
    rw [ho]
    show ((Instr.mapUpdate 62 (a.eval x) (a.eval y) (a.eval z)) >>= fun _ => pure Next.skip).run Tryd.prog W = _
    rw [hx, hy, hz, Sem.run_bind, hr]
    rfl
  unfold Oper.wp
  rw [e]
  have hh := h w1 h1 h2
  unfold Oper.upon
  first | exact hh | (simp only [hd]; exact hh) | (show Kc (a.put o.dst undef) w1; rw [hd]; exact hh)
/-- A pack is kept. -/
theorem IsLine.keeps {W w1 : World} {base g : Nat} {vq : Value} {mb : Nat} {cv : Value} {qs ks : List Pk} {L : LS} {p : Pk} (h : IsLine W base g vq mb cv qs ks L) (hm : MapIs w1 mb (ks ++ [p])) (hf : Frame W w1 (fun k => k = mb)) (hp : PkOk W base p) (ha : ∀ ad, p.A = some ad → some ad.block ≠ cv.ownBlock) :
    IsLine w1 base g vq mb cv qs (ks ++ [p]) { L with kept := L.kept ++ [p.say] } := by
  obtain ⟨n1, n2, n3, n4, n5, n6, n7⟩ := h.ne
  have hin : ∀ x ∈ qs ++ (ks ++ [p]), x ∈ qs ++ ks ∨ x = p := fun x hx => by
    rw [← List.append_assoc] at hx
    rcases List.mem_append.1 hx with hx | hx
    · exact .inl hx
    · exact .inr (List.mem_singleton.1 hx)
  refine ⟨(hf.blk h.blk n1).trans rfl, qi_keep h.row hf (fun k hk e => n4 (by rw [← e]; exact hk.symm)), hm, qi_keep h.com hf (fun k hk e => n5 (by rw [← e]; exact hk.symm)), fun x hx => ?_, fun x hx => ?_, h.queue, ?_, h.bg, h.bm⟩
  · rcases hin x hx with hx | rfl
    · exact (h.els x hx).keep hf (fun ad e => (n7 x hx ad e).2.1)
    · refine hp.keep hf (fun ad e e' => ?_)
      obtain ⟨_, cc, h2⟩ := hp.own ad e
      exact h.map.typed h2 e'
  · rcases hin x hx with hx | rfl
    · exact h.apart x hx
    · exact ha
  · rw [List.map_append, h.kept]; rfl
set_option maxHeartbeats 4000000 in
set_option maxRecDepth 100000 in
theorem hear_calls (w : World) (base g : Nat) (D : Nat → Prop) (L : LS) (p : Pk) (h : LineAt w base g D L) (hp : Bytes w p.A p.b) (hpc : p.b.length ≤ p.c) (hpl : p.b.length ≤ 1000000) (hpD : ∀ ad, p.A = some ad → ¬ D ad.block) (hq : L.queue.length ≤ 200)
    (hc : L.coming.length ≤ 1000000) (hk : ∀ p ∈ L.kept, p.f3.length ≤ 1000000) (ha : 0 ≤ L.await) (hk2 : L.kept.length ≤ 90000) (ha2 : L.await ≤ 2305843009213693952) :
    Calls Tryd.prog 13 #[.pointer (some ⟨g, 0, none⟩), .agg ⟨p.cells⟩] w fun e w' => DrainIs w w' base g D e (hearS L p.say) ∧ Frame w w' D := by
  have H0 := Aside0.mk h
  have P0 := Aside0.mk hp
  have PD := Aside0.mk hpD
  have B0 := Aside0.mk (show L.coming.length ≤ 1000000 ∧ (∀ p ∈ L.kept, p.f3.length ≤ 1000000) ∧ 0 ≤ L.await ∧ L.kept.length ≤ 90000 ∧ L.await ≤ 2305843009213693952 from ⟨hc, hk, ha, hk2, ha2⟩)
  have HQ := Aside0.mk hq
  obtain ⟨r, hr⟩ : ∃ r, hearS L p.say = r := ⟨_, rfl⟩
  have HR := Aside0.mk hr
  rw [hr]
  obtain ⟨ack, num, last, A, c, b⟩ := p
  have hpc' : b.length ≤ c := hpc
  have hpl' : b.length ≤ 1000000 := hpl
  have HE := Aside0.mk (show (if mayB ack num last b = false then (L, [], some 1) else if L.given < ack then (L, [], some 14) else if num = 0 then (ackS L ack, [], none) else drainS (keepS { ackS L ack with owes := true } ⟨ack, num, last, b⟩)) = r from hr)
  clear h hp hpD hc hk ha hk2 ha2 hq hr hpc hpl HR
  unfold Pk.cells
  go_enter Tryd.func13, Tryd.ntmps13
  go_wp2_with ((with_reducible refine gate_dst (N := 3) rfl ?_); refine stop_here ?_)
  refine ⟨?_⟩
  refine box_event rfl (N := 3) rfl (cs := ⟨[.int .i64 ack, .int .i64 num, .bool last, .slice A b.length c]⟩) (t := 37) ?hr3 ?_
  case hr3 => first | (go_simp; done) | (go_simp; rfl)
  intro q hq w1 hbox hb
  have X1 := Aside0.mk hbox
  have NQ := Aside0.mk (show w.heap.size ≤ q by rw [hq]; exact Nat.le_refl _)
  have H1 := Aside0.mk (H0.out.below hb)
  have B1 := Aside0.mk hb
  have P1 := Aside0.mk (P0.out.below hb)
  clear hq hbox hb
  go_wp2_with ((with_reducible refine gate_dst (N := 11) rfl ?_); refine stop_here ?_)
  refine ⟨?_⟩
  refine wpList_load_row rfl 37 (.tmp 3) rfl q rfl 37 ⟨Pk.cells ⟨ack, num, last, A, c, b⟩⟩ (0, 0) _ X1.out Tryd.underlying37 rfl rfl ?_
  go_wp2_with (go_at_call 29; refine stop_here ?_)
  refine ⟨?_⟩
  refine (write_calls w1 ack num last A c b P1.out hpc' (by omega)).mono ?_
  rintro e w2 ⟨⟨v, rfl⟩, hb⟩
  have H2 := Aside0.mk (H1.out.below hb)
  have X2 := Aside0.mk (blk_below X1.out hb)
  have B2 := Aside0.mk (below_step B1.out hb)
  have HDOM := Aside0.mk (show ∀ k, D k → k < w.heap.size from fun k hk => (H0.out.ge k hk).2)
  clear hb H1 X1 B1 P1
  cases hm : mayB ack num last b with
  | false =>
    have ER : Aside0 (r = (L, [], some 1)) := ⟨by rw [← HE.out, if_pos hm]⟩
    clear hm
    rw [if_neg (show ¬ false = true by decide), show errW (some 1) = .iface 67 (.int .i64 1) from rfl]
    go_wp2
    go_ret2
    rw [ER.out]
    exact ⟨⟨_, [], D, rfl, H2.out, fun k hk => .inl hk, no_msgs _ _, rfl, no_off _, no_on _ _⟩, (Frame.of_below B2.out).mono (fun _ h => h.elim)⟩
  | true =>
    have EM := Aside0.mk hm
    clear hm
    rw [if_pos rfl, show errW none = .nilIface from rfl]
    obtain ⟨gv, hgv⟩ : ∃ gv, L.given = gv := ⟨_, rfl⟩
    have GV := Aside0.mk hgv
    have cg : w2.cell? ⟨g, 1, none⟩ = some (.int .i64 gv) := by rw [← hgv]; exact H2.out.cellG
    have x0 := (blk_cell X2.out 0).trans (show (⟨Pk.cells ⟨ack, num, last, A, c, b⟩⟩ : Array Value)[0]? = some (.int .i64 ack) from rfl)
    clear hgv
    go_upto_region 4 with (fail)
    refine start_ (n := 7) (S := fun w' => w'.cell? ⟨g, 1, none⟩ = some (.int .i64 gv) ∧ w'.cell? ⟨q, 0, none⟩ = some (.int .i64 ack)) (ds := []) #[false, false, false, false, false, false, false] (by kernel_rfl) rfl rfl ⟨cg, x0⟩ (fun hHeld => ?_)
    refine pure_ (i := 0) (N := some 18) (v := ?_) (a' := ?_) #[true, false, false, false, false, false, false] rfl rfl (by kernel_rfl) (fun _ _ _ h => h) (Or.inl ⟨by rfl, ?_⟩) ?_ ?_
    rotate_left
    · intro w'
      go_simp
      with_reducible rfl
    rotate_left
    · simp only [Act.put, List.setIfInBounds_toArray, List.set_cons_zero, List.set_cons_succ, i64_w, i32_w]
      rfl
    refine pure_ (i := 2) (N := some 20) (v := ?_) (a' := ?_) #[true, false, true, false, false, false, false] rfl rfl (by kernel_rfl) (fun _ _ _ h => h) (Or.inl ⟨by rfl, ?_⟩) ?_ ?_
    rotate_left
    · intro w'
      go_simp
      with_reducible rfl
    rotate_left
    · simp only [Act.put, List.setIfInBounds_toArray, List.set_cons_zero, List.set_cons_succ, i64_w, i32_w]
      rfl
    refine pure_ (i := 3) (N := some 21) (v := ?_) (a' := ?_) #[true, false, true, true, false, false, false] rfl rfl (by kernel_rfl) (fun _ _ _ h => h) (Or.inl ⟨by rfl, ?_⟩) ?_ ?_
    rotate_left
    · intro w'
      go_simp
      with_reducible rfl
    rotate_left
    · simp only [Act.put, List.setIfInBounds_toArray, List.set_cons_zero, List.set_cons_succ, i64_w, i32_w]
      rfl
    refine pure_ (i := 4) (N := some 22) (v := ?_) (a' := ?_) #[true, false, true, true, true, false, false] rfl rfl (by kernel_rfl) (fun _ _ _ h => h) (Or.inl ⟨by rfl, ?_⟩) ?_ ?_
    rotate_left
    · intro w'
      go_simp
      with_reducible rfl
    rotate_left
    · simp only [Act.put, List.setIfInBounds_toArray, List.set_cons_zero, List.set_cons_succ, i64_w, i32_w]
      rfl
    refine take_ (i := 1) (N := some 19) (v := ?_) (a' := ?_) #[true, true, true, true, true, false, false] rfl rfl (by kernel_rfl) (fun _ _ _ h => h) (Or.inl ⟨by rfl, ?_⟩) hHeld ?_ ?_
    rotate_left
    · rintro w' ⟨s0, s1⟩
      go_simp
      with_reducible rfl
    rotate_left
    · simp only [Act.put, List.setIfInBounds_toArray, List.set_cons_zero, List.set_cons_succ, i64_w, i32_w]
      rfl
    refine take_ (i := 5) (N := some 23) (v := ?_) (a' := ?_) #[true, true, true, true, true, true, false] rfl rfl (by kernel_rfl) (fun _ _ _ h => h) (Or.inl ⟨by rfl, ?_⟩) hHeld ?_ ?_
    rotate_left
    · rintro w' ⟨s0, s1⟩
      go_simp
      with_reducible rfl
    rotate_left
    · simp only [Act.put, List.setIfInBounds_toArray, List.set_cons_zero, List.set_cons_succ, i64_w, i32_w]
      rfl
    refine pure_ (i := 6) (N := some 24) (v := ?_) (a' := ?_) #[true, true, true, true, true, true, true] rfl rfl (by kernel_rfl) (fun _ _ _ h => h) (Or.inl ⟨by rfl, ?_⟩) ?_ ?_
    rotate_left
    · intro w'
      go_simp
      with_reducible rfl
    rotate_left
    · simp only [Act.put, List.setIfInBounds_toArray, List.set_cons_zero, List.set_cons_succ, i64_w, i32_w]
      rfl
    refine done_ (by kernel_rfl) ?_
    clear cg x0
    have H3 := Aside0.mk (H2.out.below (below_drew1 (Below.refl w2.heap.size w2)))
    have X3 := Aside0.mk (blk_drew X2.out)
    have B3 := Aside0.mk (show Below w.heap.size w w2.drew from below_step B2.out (below_drew1 (Below.refl w2.heap.size w2)))
    obtain ⟨w3, hw3⟩ : ∃ w3, w2.drew = w3 := ⟨_, rfl⟩
    rw [hw3] at H3 X3 B3
    rw [hw3]
    clear hw3 H2 X2 B2
    by_cases hg : gv < ack
    · have ER : Aside0 (r = (L, [], some 14)) := ⟨by rw [← HE.out, if_neg (by rw [EM.out]; decide), if_pos (by rw [GV.out]; exact hg)]⟩
      go_wp2
      go_ret2
      rw [ER.out]
      exact ⟨⟨_, [], D, rfl, H3.out, fun k hk => .inl hk, no_msgs _ _, rfl, no_off _, no_on _ _⟩, (Frame.of_below B3.out).mono (fun _ h => h.elim)⟩
    · have EG : Aside0 (ack ≤ L.given) := ⟨by rw [GV.out]; exact Int.not_lt.1 hg⟩
      have x0 := (blk_cell X3.out 0).trans (show (⟨Pk.cells ⟨ack, num, last, A, c, b⟩⟩ : Array Value)[0]? = some (.int .i64 ack) from rfl)
      go_wp2_with (go_at_call 30; refine stop_here ?_)
      refine ⟨?_⟩
      refine (acked_calls w3 base g D L ack H3.out HQ.out).mono ?_
      rintro e w4 ⟨rfl, ⟨D1, hL, hD⟩, hF⟩
      have F4 := Aside0.mk (((Frame.of_below B3.out).mono (S' := D) (fun _ h => h.elim)).trans hF (fun k e => .inl e))
      have NQD := Aside0.mk (show ¬ D q from fun h => by have := HDOM.out q h; have := NQ.out; omega)
      have X4 := Aside0.mk (hF.blk X3.out NQD.out)
      have NQ1 : Aside0 (¬ D1 q) := ⟨fun h => (hD q h).elim NQD.out (fun h => by have := blk_lt X3.out; omega)⟩
      have D0 := Aside0.mk (show ∀ k, D1 k → D k ∨ w.heap.size ≤ k from fun k hk => (hD k hk).elim .inl (fun h => .inr (Nat.le_trans B3.out.size h)))
      have H4 := Aside0.mk hL
      clear hL hD hF H3 X3 B3 x0
      have x1 := (blk_cell X4.out 1).trans (show (⟨Pk.cells ⟨ack, num, last, A, c, b⟩⟩ : Array Value)[1]? = some (.int .i64 num) from rfl)
      have EH : Aside0 (r = if num = 0 then (ackS L ack, [], none) else drainS (keepS { ackS L ack with owes := true } ⟨ack, num, last, b⟩)) := ⟨by rw [← HE.out, if_neg (by rw [EM.out]; decide), if_neg (Int.not_lt.2 EG.out)]⟩
      by_cases hz : num = 0
      · have ER : Aside0 (r = (ackS L ack, [], none)) := ⟨by rw [EH.out, if_pos hz]⟩
        subst hz
        go_wp2
        go_ret2
        rw [ER.out]
        exact ⟨⟨_, [], D1, rfl, H4.out, D0.out, no_msgs _ _, rfl, no_off _, no_on _ _⟩, F4.out⟩
      · obtain ⟨L1, hL1⟩ : ∃ L1, ackS L ack = L1 := ⟨_, rfl⟩
        have EL := Aside0.mk hL1
        rw [hL1] at H4
        clear hL1
        obtain ⟨L2, hL2⟩ : ∃ L2 : LS, { L1 with owes := true } = L2 := ⟨_, rfl⟩
        have EL2 := Aside0.mk hL2
        have E2 : Aside0 (r = drainS (keepS L2 ⟨ack, num, last, b⟩)) := ⟨by rw [EH.out, if_neg hz, EL.out, EL2.out]⟩
        have BD : Aside0 (L2.coming.length ≤ 1000000 ∧ (∀ p ∈ L2.kept, p.f3.length ≤ 1000000) ∧ 0 ≤ L2.await ∧ L2.kept.length ≤ 100000 ∧ L2.await + L2.kept.length ≤ 4611686018427387904) := ⟨by
          obtain ⟨b1, b2, b3, b4, b5⟩ := B0.out
          rw [← EL2.out, ← EL.out]
          show (ackS L ack).coming.length ≤ _ ∧ (∀ p ∈ (ackS L ack).kept, _) ∧ 0 ≤ (ackS L ack).await ∧ (ackS L ack).kept.length ≤ _ ∧ (ackS L ack).await + ((ackS L ack).kept.length : Int) ≤ _
          rw [ackS_coming, ackS_kept, ackS_await]
          exact ⟨b1, b2, b3, by omega, by omega⟩⟩
        have BK : Aside0 (L2.kept.length ≤ 90000 ∧ L2.await ≤ 2305843009213693952) := ⟨by
          obtain ⟨b1, b2, b3, b4, b5⟩ := B0.out
          rw [← EL2.out, ← EL.out]
          show (ackS L ack).kept.length ≤ _ ∧ (ackS L ack).await ≤ _
          rw [ackS_kept, ackS_await]
          exact ⟨b4, b5⟩⟩
        have z0 : (num == 0) = false := by simpa using hz
        obtain ⟨vq, mb, cv, qs, ks, hI, hD1⟩ := H4.out
        have I4 := Aside0.mk hI
        have HD1 := Aside0.mk hD1
        clear hI hD1 H4
        have c7 := (blk_cell I4.out.blk 7).trans (show (⟨lineCells vq mb cv L1⟩ : Array Value)[7]? = some (.bool L1.owes) from rfl)
        have f7 := blk_frozen I4.out.blk 7
        clear hL2
        go_upto_region 10 with (fail)
        clear c7 f7 x1 z0
        have FS := Aside0.mk (Frame.of_set w4 g 7 (.bool true))
        have I5 := Aside0.mk (I4.out.upd (L' := { L1 with owes := true }) FS.out ((blk_set I4.out.blk 7 _).trans rfl) rfl rfl rfl)
        have X5 := Aside0.mk (FS.out.blk X4.out (fun e => NQ1.out (by have e' : q = g := e; rw [e']; exact (HD1.out g).2 (.inl rfl))))
        have F5 := Aside0.mk (F4.out.trans FS.out (fun k e => D0.out k (by have e' : k = g := e; rw [e']; exact (HD1.out g).2 (.inl rfl))))
        obtain ⟨w5, hw5⟩ : ∃ w5, w4.setCell ⟨g, 7, none⟩ (.bool true) = w5 := ⟨_, rfl⟩
        rw [hw5] at I5 X5 F5
        rw [hw5]
        rw [EL2.out] at I5
        clear hw5 FS I4 X4 F4
        have c3 := (blk_cell I5.out.blk 3).trans (show (⟨lineCells vq mb cv L2⟩ : Array Value)[3]? = some (.map (some mb)) from rfl)
        have x1 := (blk_cell X5.out 1).trans (show (⟨Pk.cells ⟨ack, num, last, A, c, b⟩⟩ : Array Value)[1]? = some (.int .i64 num) from rfl)
        have cm := I5.out.map
        have hlk : ∃ (pk : Pk) (ok : Bool), (∀ W : World, MapIs W mb ks → (Instr.lookup 62 (.map (some mb)) (.int .i64 num) true).run Tryd.prog W = .ok (.tuple #[.agg ⟨pk.cells⟩, .bool ok]) W) ∧ (fnd num ks).isSome = ok := ⟨_, _, fun W hW => run_lookup hW num, rfl⟩
        obtain ⟨pk, ok, lk, hok⟩ := hlk
        have HOK := Aside0.mk hok
        clear hok
        have I6 := Aside0.mk (I5.out.below (below_drew1 (Below.refl w5.heap.size w5)))
        have X6 := Aside0.mk (blk_drew X5.out)
        have F6 := Aside0.mk (F5.out.trans (Frame.of_drewN w5 1 D) (fun k e => .inl e))
        have DB := Aside0.mk (show ∀ k, D1 k → k < w5.heap.size from fun k hk => (I5.out.ge k ((HD1.out k).1 hk)).2)
        have WS5 := Aside0.mk (show w.heap.size ≤ w5.heap.size from F5.out.size)
        have QL5 := Aside0.mk (show q < w5.heap.size from blk_lt X5.out)
        refine start_ (n := 13) (S := fun w' => w'.cell? ⟨g, 3, none⟩ = some (.map (some mb)) ∧ w'.cell? ⟨q, 1, none⟩ = some (.int .i64 num) ∧ MapIs w' mb ks) (ds := []) #[false, false, false, false, false, false, false, false, false, false, false, false, false] (by kernel_rfl) rfl rfl ⟨c3, x1, cm.below (below_drew1 (Below.refl w5.heap.size w5))⟩ (fun hHeld => ?_)
        refine pure_ (i := 0) (N := some 37) (v := ?_) (a' := ?_) #[true, false, false, false, false, false, false, false, false, false, false, false, false] rfl rfl (by kernel_rfl) (fun _ _ _ h => h) (Or.inl ⟨by rfl, ?_⟩) ?_ ?_
        rotate_left
        · intro w'
          go_simp
          with_reducible rfl
        rotate_left
        · simp only [Act.put, List.setIfInBounds_toArray, List.set_cons_zero, List.set_cons_succ, i64_w, i32_w]
          rfl
        refine pure_ (i := 1) (N := some 38) (v := ?_) (a' := ?_) #[true, true, false, false, false, false, false, false, false, false, false, false, false] rfl rfl (by kernel_rfl) (fun _ _ _ h => h) (Or.inl ⟨by rfl, ?_⟩) ?_ ?_
        rotate_left
        · intro w'
          go_simp
          with_reducible rfl
        rotate_left
        · simp only [Act.put, List.setIfInBounds_toArray, List.set_cons_zero, List.set_cons_succ, i64_w, i32_w]
          rfl
        refine pure_ (i := 2) (N := some 39) (v := ?_) (a' := ?_) #[true, true, true, false, false, false, false, false, false, false, false, false, false] rfl rfl (by kernel_rfl) (fun _ _ _ h => h) (Or.inl ⟨by rfl, ?_⟩) ?_ ?_
        rotate_left
        · intro w'
          go_simp
          with_reducible rfl
        rotate_left
        · simp only [Act.put, List.setIfInBounds_toArray, List.set_cons_zero, List.set_cons_succ, i64_w, i32_w]
          rfl
        refine pure_ (i := 4) (N := some 41) (v := ?_) (a' := ?_) #[true, true, true, false, true, false, false, false, false, false, false, false, false] rfl rfl (by kernel_rfl) (fun _ _ _ h => h) (Or.inl ⟨by rfl, ?_⟩) ?_ ?_
        rotate_left
        · intro w'
          go_simp
          with_reducible rfl
        rotate_left
        · simp only [Act.put, List.setIfInBounds_toArray, List.set_cons_zero, List.set_cons_succ, i64_w, i32_w]
          rfl
        refine take_ (i := 3) (N := some 40) (v := ?_) (a' := ?_) #[true, true, true, true, true, false, false, false, false, false, false, false, false] rfl rfl (by kernel_rfl) (fun _ _ _ h => h) (Or.inl ⟨by rfl, ?_⟩) hHeld ?_ ?_
        rotate_left
        · rintro w' ⟨s0, s1, s2⟩
          go_simp
          with_reducible rfl
        rotate_left
        · simp only [Act.put, List.setIfInBounds_toArray, List.set_cons_zero, List.set_cons_succ, i64_w, i32_w]
          rfl
        refine take_ (i := 5) (N := some 42) (v := ?_) (a' := ?_) #[true, true, true, true, true, true, false, false, false, false, false, false, false] rfl rfl (by kernel_rfl) (fun _ _ _ h => h) (Or.inl ⟨by rfl, ?_⟩) hHeld ?_ ?_
        rotate_left
        · rintro w' ⟨s0, s1, s2⟩
          go_simp
          with_reducible rfl
        rotate_left
        · simp only [Act.put, List.setIfInBounds_toArray, List.set_cons_zero, List.set_cons_succ, i64_w, i32_w]
          rfl
        refine take_ (i := 6) (N := some 43) (v := ?_) (a' := ?_) #[true, true, true, true, true, true, true, false, false, false, false, false, false] rfl rfl (by kernel_rfl) (fun _ _ _ h => h) (Or.inl ⟨by rfl, ?_⟩) hHeld ?_ ?_
        rotate_left
        · rintro w' ⟨s0, s1, s2⟩
          go_simp
          with_reducible rfl
        rotate_left
        · simp only [Act.put, List.setIfInBounds_toArray, List.set_cons_zero, List.set_cons_succ, i64_w, i32_w]
          rfl
        refine pure_ (i := 7) (N := some 36) (v := ?_) (a' := ?_) #[true, true, true, true, true, true, true, true, false, false, false, false, false] rfl rfl (by kernel_rfl) (fun _ _ _ h => h) (Or.inl ⟨by rfl, ?_⟩) ?_ ?_
        rotate_left
        · intro w'
          go_simp
          with_reducible rfl
        rotate_left
        · simp only [Act.put, List.setIfInBounds_toArray, List.set_cons_zero, List.set_cons_succ, i64_w, i32_w]
          rfl
        refine pure_ (i := 8) (N := some 44) (v := ?_) (a' := ?_) #[true, true, true, true, true, true, true, true, true, false, false, false, false] rfl rfl (by kernel_rfl) (fun _ _ _ h => h) (Or.inl ⟨by rfl, ?_⟩) ?_ ?_
        rotate_left
        · intro w'
          go_simp
          with_reducible rfl
        rotate_left
        · simp only [Act.put, List.setIfInBounds_toArray, List.set_cons_zero, List.set_cons_succ, i64_w, i32_w]
          rfl
        refine pure_ (i := 9) (N := some 45) (v := ?_) (a' := ?_) #[true, true, true, true, true, true, true, true, true, true, false, false, false] rfl rfl (by kernel_rfl) (fun _ _ _ h => h) (Or.inl ⟨by rfl, ?_⟩) ?_ ?_
        rotate_left
        · intro w'
          go_simp
          with_reducible rfl
        rotate_left
        · simp only [Act.put, List.setIfInBounds_toArray, List.set_cons_zero, List.set_cons_succ, i64_w, i32_w]
          rfl
        refine one_ (i := 10) (N := some 8) #[true, true, true, true, true, true, true, true, true, true, true, false, false] rfl rfl (by kernel_rfl) (by decide) (fun K hK => ?_)
        refine box_step (by rfl) (N := 8) rfl (cs := ⟨pk0.cells⟩) (t := 37) ?hr8 ?_
        case hr8 => first | (go_simp; done) | (go_simp; rfl)
        intro q8 hq8 w7 hbox hb
        have Y7 := Aside0.mk hbox
        have NY := Aside0.mk (show w5.heap.size ≤ q8 by rw [hq8]; exact Nat.le_refl _)
        have I7 := Aside0.mk (I6.out.below hb)
        have X7 := Aside0.mk (blk_below X6.out hb)
        have F7 := Aside0.mk (F6.out.trans (Frame.of_below hb) (fun _ h => h.elim))
        clear hq8 hbox hb
        refine hK.out _ _ ⟨(blk_cell I7.out.blk 3).trans rfl, (blk_cell X7.out 1).trans rfl, I7.out.map⟩ (fun hHeld => ?_)
        clear hK K
        refine norm_ (a' := ?_) ?_ ?_
        rotate_left
        · show Act.put _ (some 8) _ = _
          simp only [Act.put, List.setIfInBounds_toArray, List.set_cons_zero, List.set_cons_succ, i64_w, i32_w]
          rfl
        refine one_ (i := 11) (N := none) #[true, true, true, true, true, true, true, true, true, true, true, true, false] rfl rfl (by kernel_rfl) (by decide) (fun K hK => ?_)
        refine mid_step (by rfl) rfl 37 (.tmp 8) (.tmp 44) (by rfl) q8 0 ⟨pk.cells⟩ (by rfl) (by rfl) (by have h := box_there Y7.out; exact h) rfl (pk_all _) ?_
        have FS := Aside0.mk (Frame.of_setCells w7 q8 0 pk.cells)
        have I8 := Aside0.mk (I7.out.keep FS.out (fun k hk e => by have h1 := DB.out k ((HD1.out k).2 hk); have h2 := NY.out; have e' : k = q8 := e; omega))
        have X8 := Aside0.mk (FS.out.blk X7.out (fun e => by have h1 := QL5.out; have h2 := NY.out; have e' : q = q8 := e; omega))
        have F8 := Aside0.mk (F7.out.trans FS.out (fun k e => .inr (by have h2 := NY.out; have h3 := WS5.out; have e' : k = q8 := e; omega)))
        refine hK.out _ _ ⟨(blk_cell I8.out.blk 3).trans rfl, (blk_cell X8.out 1).trans rfl, I8.out.map⟩ (fun hHeld => ?_)
        clear hK K
        refine pure_ (i := 12) (N := some 9) (v := ?_) (a' := ?_) #[true, true, true, true, true, true, true, true, true, true, true, true, true] rfl rfl (by kernel_rfl) (fun _ _ _ h => h) (Or.inl ⟨by rfl, ?_⟩) ?_ ?_
        rotate_left
        · intro w'
          go_simp
          with_reducible rfl
        rotate_left
        · simp only [Act.put, List.setIfInBounds_toArray, List.set_cons_zero, List.set_cons_succ, i64_w, i32_w]
          rfl
        refine done_ (by kernel_rfl) ?_
        obtain ⟨w8, hw8⟩ : ∃ w8, w7.setCells q8 0 pk.cells = w8 := ⟨_, rfl⟩
        have e8 : w7.setCells q8 0 (⟨pk.cells⟩ : Array Value).toList = w8 := hw8
        try rw [e8]
        try rw [hw8]
        rw [hw8] at X8 I8 F8
        clear hw8 e8 FS Y7 I7 X7 F7 I6 X6 F6 I5 X5 F5 lk c3 x1 cm
        obtain ⟨aw, haw⟩ : ∃ aw, L2.await = aw := ⟨_, rfl⟩
        have HAW := Aside0.mk haw
        have aw0 : 0 ≤ aw := by rw [← haw]; exact BD.out.2.2.1
        have aw1 : aw ≤ 2305843009213693952 := by rw [← haw]; exact BK.out.2
        have c2 := (blk_cell I8.out.blk 2).trans (show (⟨lineCells vq mb cv L2⟩ : Array Value)[2]? = some (.int .i64 aw) from by rw [← haw]; rfl)
        have x1 := (blk_cell X8.out 1).trans (show (⟨Pk.cells ⟨ack, num, last, A, c, b⟩⟩ : Array Value)[1]? = some (.int .i64 num) from rfl)
        clear haw
        go_upto_region 11 with (fail)
        have I9 := Aside0.mk (I8.out.below (below_drew1 (Below.refl w8.heap.size w8)))
        have X9 := Aside0.mk (blk_drew X8.out)
        have F9 := Aside0.mk (show Frame w w8.drew D from F8.out.trans (Frame.of_drewN w8 1 D) (fun k e => .inl e))
        have H9 := Aside0.mk (show LineAt w8.drew base g D1 L2 from ⟨vq, mb, cv, qs, ks, I9.out, HD1.out⟩)
        have KF := Aside0.mk (show fndS num L2.kept = fnd num ks by rw [← I8.out.kept, fnd_say])
        cases ok with
        | true =>
          have EK : Aside0 (r = drainS L2) := ⟨by
            rw [E2.out]
            unfold keepS
            rw [if_neg (fun h => by
              have h1 := h.1
              rw [show (⟨ack, num, last, b⟩ : P4).f1 = num from rfl, KF.out] at h1
              have h2 := HOK.out
              rw [h1] at h2
              cases h2)]⟩
          refine start_ (n := 21) (S := fun w' => True) (ds := []) #[false, false, false, false, false, false, false, false, false, false, false, false, false, false, false, false, false, false, false, false, false] (by kernel_rfl) rfl rfl trivial (fun hHeld => ?_)
          refine pure_ (i := 0) (N := some 46) (v := ?_) (a' := ?_) #[true, false, false, false, false, false, false, false, false, false, false, false, false, false, false, false, false, false, false, false, false] rfl rfl (by kernel_rfl) (fun _ _ _ h => h) (Or.inl ⟨by rfl, ?_⟩) ?_ ?_
          rotate_left
          · intro w'
            go_simp
            with_reducible rfl
          rotate_left
          · simp only [Act.put, List.setIfInBounds_toArray, List.set_cons_zero, List.set_cons_succ, i64_w, i32_w]
            rfl
          refine pure_ (i := 1) (N := some 47) (v := ?_) (a' := ?_) #[true, true, false, false, false, false, false, false, false, false, false, false, false, false, false, false, false, false, false, false, false] rfl rfl (by kernel_rfl) (fun _ _ _ h => h) (Or.inl ⟨by rfl, ?_⟩) ?_ ?_
          rotate_left
          · intro w'
            go_simp
            with_reducible rfl
          rotate_left
          · simp only [Act.put, List.setIfInBounds_toArray, List.set_cons_zero, List.set_cons_succ, i64_w, i32_w]
            rfl
          refine pure_ (i := 2) (N := some 48) (v := ?_) (a' := ?_) #[true, true, true, false, false, false, false, false, false, false, false, false, false, false, false, false, false, false, false, false, false] rfl rfl (by kernel_rfl) (fun _ _ _ h => h) (Or.inl ⟨by rfl, ?_⟩) ?_ ?_
          rotate_left
          · intro w'
            go_simp
            with_reducible rfl
          rotate_left
          · simp only [Act.put, List.setIfInBounds_toArray, List.set_cons_zero, List.set_cons_succ, i64_w, i32_w]
            rfl
          refine pure_ (i := 3) (N := some 49) (v := undef) (a' := ?_) #[true, true, true, true, false, false, false, false, false, false, false, false, false, false, false, false, false, false, false, false, false] rfl rfl (by kernel_rfl) (fun _ _ _ h => h) (Or.inr ⟨by rfl, rfl⟩) ?_ ?_
          rotate_left
          · simp only [Act.put, List.setIfInBounds_toArray, List.set_cons_zero, List.set_cons_succ, i64_w, i32_w]
            rfl
          refine pure_ (i := 4) (N := some 50) (v := undef) (a' := ?_) #[true, true, true, true, true, false, false, false, false, false, false, false, false, false, false, false, false, false, false, false, false] rfl rfl (by kernel_rfl) (fun _ _ _ h => h) (Or.inr ⟨by rfl, rfl⟩) ?_ ?_
          rotate_left
          · simp only [Act.put, List.setIfInBounds_toArray, List.set_cons_zero, List.set_cons_succ, i64_w, i32_w]
            rfl
          refine pure_ (i := 5) (N := some 51) (v := undef) (a' := ?_) #[true, true, true, true, true, true, false, false, false, false, false, false, false, false, false, false, false, false, false, false, false] rfl rfl (by kernel_rfl) (fun _ _ _ h => h) (Or.inr ⟨by rfl, rfl⟩) ?_ ?_
          rotate_left
          · simp only [Act.put, List.setIfInBounds_toArray, List.set_cons_zero, List.set_cons_succ, i64_w, i32_w]
            rfl
          refine pure_ (i := 6) (N := some 52) (v := undef) (a' := ?_) #[true, true, true, true, true, true, true, false, false, false, false, false, false, false, false, false, false, false, false, false, false] rfl rfl (by kernel_rfl) (fun _ _ _ h => h) (Or.inr ⟨by rfl, rfl⟩) ?_ ?_
          rotate_left
          · simp only [Act.put, List.setIfInBounds_toArray, List.set_cons_zero, List.set_cons_succ, i64_w, i32_w]
            rfl
          refine pure_ (i := 7) (N := some 53) (v := undef) (a' := ?_) #[true, true, true, true, true, true, true, true, false, false, false, false, false, false, false, false, false, false, false, false, false] rfl rfl (by kernel_rfl) (fun _ _ _ h => h) (Or.inr ⟨by rfl, rfl⟩) ?_ ?_
          rotate_left
          · simp only [Act.put, List.setIfInBounds_toArray, List.set_cons_zero, List.set_cons_succ, i64_w, i32_w]
            rfl
          refine pure_ (i := 8) (N := some 54) (v := undef) (a' := ?_) #[true, true, true, true, true, true, true, true, true, false, false, false, false, false, false, false, false, false, false, false, false] rfl rfl (by kernel_rfl) (fun _ _ _ h => h) (Or.inr ⟨by rfl, rfl⟩) ?_ ?_
          rotate_left
          · simp only [Act.put, List.setIfInBounds_toArray, List.set_cons_zero, List.set_cons_succ, i64_w, i32_w]
            rfl
          refine pure_ (i := 9) (N := some 55) (v := undef) (a' := ?_) #[true, true, true, true, true, true, true, true, true, true, false, false, false, false, false, false, false, false, false, false, false] rfl rfl (by kernel_rfl) (fun _ _ _ h => h) (Or.inr ⟨by rfl, rfl⟩) ?_ ?_
          rotate_left
          · simp only [Act.put, List.setIfInBounds_toArray, List.set_cons_zero, List.set_cons_succ, i64_w, i32_w]
            rfl
          refine pure_ (i := 10) (N := some 56) (v := ?_) (a' := ?_) #[true, true, true, true, true, true, true, true, true, true, true, false, false, false, false, false, false, false, false, false, false] rfl rfl (by kernel_rfl) (fun _ _ _ h => h) (Or.inl ⟨by rfl, ?_⟩) ?_ ?_
          rotate_left
          · intro w'
            go_simp
            with_reducible rfl
          rotate_left
          · simp only [Act.put, List.setIfInBounds_toArray, List.set_cons_zero, List.set_cons_succ, i64_w, i32_w]
            rfl
          refine pure_ (i := 11) (N := some 57) (v := ?_) (a' := ?_) #[true, true, true, true, true, true, true, true, true, true, true, true, false, false, false, false, false, false, false, false, false] rfl rfl (by kernel_rfl) (fun _ _ _ h => h) (Or.inl ⟨by rfl, ?_⟩) ?_ ?_
          rotate_left
          · intro w'
            go_simp
            with_reducible rfl
          rotate_left
          · simp only [Act.put, List.setIfInBounds_toArray, List.set_cons_zero, List.set_cons_succ, i64_w, i32_w]
            rfl
          refine pure_ (i := 12) (N := some 58) (v := undef) (a' := ?_) #[true, true, true, true, true, true, true, true, true, true, true, true, true, false, false, false, false, false, false, false, false] rfl rfl (by kernel_rfl) (fun _ _ _ h => h) (Or.inr ⟨by rfl, rfl⟩) ?_ ?_
          rotate_left
          · simp only [Act.put, List.setIfInBounds_toArray, List.set_cons_zero, List.set_cons_succ, i64_w, i32_w]
            rfl
          refine pure_ (i := 13) (N := some 59) (v := undef) (a' := ?_) #[true, true, true, true, true, true, true, true, true, true, true, true, true, true, false, false, false, false, false, false, false] rfl rfl (by kernel_rfl) (fun _ _ _ h => h) (Or.inr ⟨by rfl, rfl⟩) ?_ ?_
          rotate_left
          · simp only [Act.put, List.setIfInBounds_toArray, List.set_cons_zero, List.set_cons_succ, i64_w, i32_w]
            rfl
          refine pure_ (i := 14) (N := some 60) (v := undef) (a' := ?_) #[true, true, true, true, true, true, true, true, true, true, true, true, true, true, true, false, false, false, false, false, false] rfl rfl (by kernel_rfl) (fun _ _ _ h => h) (Or.inr ⟨by rfl, rfl⟩) ?_ ?_
          rotate_left
          · simp only [Act.put, List.setIfInBounds_toArray, List.set_cons_zero, List.set_cons_succ, i64_w, i32_w]
            rfl
          refine pure_ (i := 15) (N := some 61) (v := undef) (a' := ?_) #[true, true, true, true, true, true, true, true, true, true, true, true, true, true, true, true, false, false, false, false, false] rfl rfl (by kernel_rfl) (fun _ _ _ h => h) (Or.inr ⟨by rfl, rfl⟩) ?_ ?_
          rotate_left
          · simp only [Act.put, List.setIfInBounds_toArray, List.set_cons_zero, List.set_cons_succ, i64_w, i32_w]
            rfl
          refine pure_ (i := 16) (N := some 62) (v := undef) (a' := ?_) #[true, true, true, true, true, true, true, true, true, true, true, true, true, true, true, true, true, false, false, false, false] rfl rfl (by kernel_rfl) (fun _ _ _ h => h) (Or.inr ⟨by rfl, rfl⟩) ?_ ?_
          rotate_left
          · simp only [Act.put, List.setIfInBounds_toArray, List.set_cons_zero, List.set_cons_succ, i64_w, i32_w]
            rfl
          refine pure_ (i := 17) (N := some 63) (v := undef) (a' := ?_) #[true, true, true, true, true, true, true, true, true, true, true, true, true, true, true, true, true, true, false, false, false] rfl rfl (by kernel_rfl) (fun _ _ _ h => h) (Or.inr ⟨by rfl, rfl⟩) ?_ ?_
          rotate_left
          · simp only [Act.put, List.setIfInBounds_toArray, List.set_cons_zero, List.set_cons_succ, i64_w, i32_w]
            rfl
          refine pure_ (i := 18) (N := some 64) (v := undef) (a' := ?_) #[true, true, true, true, true, true, true, true, true, true, true, true, true, true, true, true, true, true, true, false, false] rfl rfl (by kernel_rfl) (fun _ _ _ h => h) (Or.inr ⟨by rfl, rfl⟩) ?_ ?_
          rotate_left
          · simp only [Act.put, List.setIfInBounds_toArray, List.set_cons_zero, List.set_cons_succ, i64_w, i32_w]
            rfl
          refine pure_ (i := 19) (N := some 65) (v := undef) (a' := ?_) #[true, true, true, true, true, true, true, true, true, true, true, true, true, true, true, true, true, true, true, true, false] rfl rfl (by kernel_rfl) (fun _ _ _ h => h) (Or.inr ⟨by rfl, rfl⟩) ?_ ?_
          rotate_left
          · simp only [Act.put, List.setIfInBounds_toArray, List.set_cons_zero, List.set_cons_succ, i64_w, i32_w]
            rfl
          refine pure_ (i := 20) (N := some 66) (v := ?_) (a' := ?_) #[true, true, true, true, true, true, true, true, true, true, true, true, true, true, true, true, true, true, true, true, true] rfl rfl (by kernel_rfl) (fun _ _ _ h => h) (Or.inl ⟨by rfl, ?_⟩) ?_ ?_
          rotate_left
          · intro w'
            go_simp
            with_reducible rfl
          rotate_left
          · simp only [Act.put, List.setIfInBounds_toArray, List.set_cons_zero, List.set_cons_succ, i64_w, i32_w]
            rfl
          refine done_ (by kernel_rfl) ?_
          clear c2 x1
          obtain ⟨w9, hw9⟩ : ∃ w9, w8.drew = w9 := ⟨_, rfl⟩
          rw [hw9] at I9 X9 F9 H9
          rw [hw9]
          clear hw9 I8 X8 F8
          go_wp2_with (go_at_call 32; refine stop_here ?_)
          refine ⟨?_⟩
          refine (drain_calls w9 base g D1 L2 H9.out BD.out.1 BD.out.2.1 BD.out.2.2.1 BD.out.2.2.2.1 BD.out.2.2.2.2).mono ?_
          rintro e w20 ⟨⟨v, ms, D20, rfl, hL, hD, hM, hb, hO⟩, hF⟩
          go_wp2
          go_ret2
          rw [EK.out]
          exact ⟨⟨v, ms, D20, rfl, hL, fun k hk => (hD k hk).elim (D0.out k) (fun h => .inr (Nat.le_trans F9.out.size h)), hM, hb, hO.1, fun k hk => Nat.le_trans F9.out.size (hO.2.1 k hk), fun p hp ad ea => (hO.2.2 p hp ad ea).elim (D0.out _) (fun h => .inr (Nat.le_trans F9.out.size h))⟩, F9.out.trans hF (fun k e => D0.out k e)⟩
        | false =>
          have EN : Aside0 (fnd num ks = none) := ⟨by
            have h2 := HOK.out
            cases h : fnd num ks with
            | none => rfl
            | some j => rw [h] at h2; cases h2⟩
          by_cases hge : aw ≤ num
          · have t1 : decide (aw ≤ num) = true := decide_eq_true hge
            have w2' : wrap64 (aw + 8) = aw + 8 := by unfold wrap64; omega
            obtain ⟨lt, hlt⟩ : ∃ lt : Bool, decide (num < aw + 8) = lt := ⟨_, rfl⟩
            refine start_ (n := 21) (S := fun w' => w'.cell? ⟨g, 2, none⟩ = some (.int .i64 aw) ∧ w'.cell? ⟨q, 1, none⟩ = some (.int .i64 num)) (ds := []) #[false, false, false, false, false, false, false, false, false, false, false, false, false, false, false, false, false, false, false, false, false] (by kernel_rfl) rfl rfl ⟨c2, x1⟩ (fun hHeld => ?_)
            refine pure_ (i := 0) (N := some 46) (v := ?_) (a' := ?_) #[true, false, false, false, false, false, false, false, false, false, false, false, false, false, false, false, false, false, false, false, false] rfl rfl (by kernel_rfl) (fun _ _ _ h => h) (Or.inl ⟨by rfl, ?_⟩) ?_ ?_
            rotate_left
            · intro w'
              go_simp
              with_reducible rfl
            rotate_left
            · simp only [Act.put, List.setIfInBounds_toArray, List.set_cons_zero, List.set_cons_succ, i64_w, i32_w]
              rfl
            refine pure_ (i := 1) (N := some 47) (v := ?_) (a' := ?_) #[true, true, false, false, false, false, false, false, false, false, false, false, false, false, false, false, false, false, false, false, false] rfl rfl (by kernel_rfl) (fun _ _ _ h => h) (Or.inl ⟨by rfl, ?_⟩) ?_ ?_
            rotate_left
            · intro w'
              go_simp
              with_reducible rfl
            rotate_left
            · simp only [Act.put, List.setIfInBounds_toArray, List.set_cons_zero, List.set_cons_succ, i64_w, i32_w]
              rfl
            refine pure_ (i := 2) (N := some 48) (v := ?_) (a' := ?_) #[true, true, true, false, false, false, false, false, false, false, false, false, false, false, false, false, false, false, false, false, false] rfl rfl (by kernel_rfl) (fun _ _ _ h => h) (Or.inl ⟨by rfl, ?_⟩) ?_ ?_
            rotate_left
            · intro w'
              go_simp
              with_reducible rfl
            rotate_left
            · simp only [Act.put, List.setIfInBounds_toArray, List.set_cons_zero, List.set_cons_succ, i64_w, i32_w]
              rfl
            refine pure_ (i := 3) (N := some 49) (v := ?_) (a' := ?_) #[true, true, true, true, false, false, false, false, false, false, false, false, false, false, false, false, false, false, false, false, false] rfl rfl (by kernel_rfl) (fun _ _ _ h => h) (Or.inl ⟨by rfl, ?_⟩) ?_ ?_
            rotate_left
            · intro w'
              go_simp
              with_reducible rfl
            rotate_left
            · simp only [Act.put, List.setIfInBounds_toArray, List.set_cons_zero, List.set_cons_succ, i64_w, i32_w]
              rfl
            refine pure_ (i := 5) (N := some 51) (v := ?_) (a' := ?_) #[true, true, true, true, false, true, false, false, false, false, false, false, false, false, false, false, false, false, false, false, false] rfl rfl (by kernel_rfl) (fun _ _ _ h => h) (Or.inl ⟨by rfl, ?_⟩) ?_ ?_
            rotate_left
            · intro w'
              go_simp
              with_reducible rfl
            rotate_left
            · simp only [Act.put, List.setIfInBounds_toArray, List.set_cons_zero, List.set_cons_succ, i64_w, i32_w]
              rfl
            refine pure_ (i := 6) (N := some 52) (v := ?_) (a' := ?_) #[true, true, true, true, false, true, true, false, false, false, false, false, false, false, false, false, false, false, false, false, false] rfl rfl (by kernel_rfl) (fun _ _ _ h => h) (Or.inl ⟨by rfl, ?_⟩) ?_ ?_
            rotate_left
            · intro w'
              go_simp
              with_reducible rfl
            rotate_left
            · simp only [Act.put, List.setIfInBounds_toArray, List.set_cons_zero, List.set_cons_succ, i64_w, i32_w]
              rfl
            refine pure_ (i := 7) (N := some 53) (v := ?_) (a' := ?_) #[true, true, true, true, false, true, true, true, false, false, false, false, false, false, false, false, false, false, false, false, false] rfl rfl (by kernel_rfl) (fun _ _ _ h => h) (Or.inl ⟨by rfl, ?_⟩) ?_ ?_
            rotate_left
            · intro w'
              go_simp
              with_reducible rfl
            rotate_left
            · simp only [Act.put, List.setIfInBounds_toArray, List.set_cons_zero, List.set_cons_succ, i64_w, i32_w]
              rfl
            refine take_ (i := 4) (N := some 50) (v := ?_) (a' := ?_) #[true, true, true, true, true, true, true, true, false, false, false, false, false, false, false, false, false, false, false, false, false] rfl rfl (by kernel_rfl) (fun _ _ _ h => h) (Or.inl ⟨by rfl, ?_⟩) hHeld ?_ ?_
            rotate_left
            · rintro w' ⟨s0, s1⟩
              go_simp
              with_reducible rfl
            rotate_left
            · simp only [Act.put, List.setIfInBounds_toArray, List.set_cons_zero, List.set_cons_succ, i64_w, i32_w]
              rfl
            refine take_ (i := 8) (N := some 54) (v := ?_) (a' := ?_) #[true, true, true, true, true, true, true, true, true, false, false, false, false, false, false, false, false, false, false, false, false] rfl rfl (by kernel_rfl) (fun _ _ _ h => h) (Or.inl ⟨by rfl, ?_⟩) hHeld ?_ ?_
            rotate_left
            · rintro w' ⟨s0, s1⟩
              go_simp
              with_reducible rfl
            rotate_left
            · simp only [Act.put, List.setIfInBounds_toArray, List.set_cons_zero, List.set_cons_succ, i64_w, i32_w]
              rfl
            refine pure_ (i := 9) (N := some 55) (v := ?_) (a' := ?_) #[true, true, true, true, true, true, true, true, true, true, false, false, false, false, false, false, false, false, false, false, false] rfl rfl (by kernel_rfl) (fun _ _ _ h => h) (Or.inl ⟨by rfl, ?_⟩) ?_ ?_
            rotate_left
            · intro w'
              go_simp
              with_reducible rfl
            rotate_left
            · simp only [Act.put, List.setIfInBounds_toArray, List.set_cons_zero, List.set_cons_succ, i64_w, i32_w]
              rfl
            refine pure_ (i := 10) (N := some 56) (v := ?_) (a' := ?_) #[true, true, true, true, true, true, true, true, true, true, true, false, false, false, false, false, false, false, false, false, false] rfl rfl (by kernel_rfl) (fun _ _ _ h => h) (Or.inl ⟨by rfl, ?_⟩) ?_ ?_
            rotate_left
            · intro w'
              go_simp
              with_reducible rfl
            rotate_left
            · simp only [Act.put, List.setIfInBounds_toArray, List.set_cons_zero, List.set_cons_succ, i64_w, i32_w]
              rfl
            refine pure_ (i := 11) (N := some 57) (v := ?_) (a' := ?_) #[true, true, true, true, true, true, true, true, true, true, true, true, false, false, false, false, false, false, false, false, false] rfl rfl (by kernel_rfl) (fun _ _ _ h => h) (Or.inl ⟨by rfl, ?_⟩) ?_ ?_
            rotate_left
            · intro w'
              go_simp
              with_reducible rfl
            rotate_left
            · simp only [Act.put, List.setIfInBounds_toArray, List.set_cons_zero, List.set_cons_succ, i64_w, i32_w]
              rfl
            refine pure_ (i := 12) (N := some 58) (v := ?_) (a' := ?_) #[true, true, true, true, true, true, true, true, true, true, true, true, true, false, false, false, false, false, false, false, false] rfl rfl (by kernel_rfl) (fun _ _ _ h => h) (Or.inl ⟨by rfl, ?_⟩) ?_ ?_
            rotate_left
            · intro w'
              go_simp
              with_reducible rfl
            rotate_left
            · simp only [Act.put, List.setIfInBounds_toArray, List.set_cons_zero, List.set_cons_succ, i64_w, i32_w]
              rfl
            refine pure_ (i := 14) (N := some 60) (v := ?_) (a' := ?_) #[true, true, true, true, true, true, true, true, true, true, true, true, true, false, true, false, false, false, false, false, false] rfl rfl (by kernel_rfl) (fun _ _ _ h => h) (Or.inl ⟨by rfl, ?_⟩) ?_ ?_
            rotate_left
            · intro w'
              go_simp
              with_reducible rfl
            rotate_left
            · simp only [Act.put, List.setIfInBounds_toArray, List.set_cons_zero, List.set_cons_succ, i64_w, i32_w]
              rfl
            refine pure_ (i := 15) (N := some 61) (v := ?_) (a' := ?_) #[true, true, true, true, true, true, true, true, true, true, true, true, true, false, true, true, false, false, false, false, false] rfl rfl (by kernel_rfl) (fun _ _ _ h => h) (Or.inl ⟨by rfl, ?_⟩) ?_ ?_
            rotate_left
            · intro w'
              go_simp
              with_reducible rfl
            rotate_left
            · simp only [Act.put, List.setIfInBounds_toArray, List.set_cons_zero, List.set_cons_succ, i64_w, i32_w]
              rfl
            refine pure_ (i := 16) (N := some 62) (v := ?_) (a' := ?_) #[true, true, true, true, true, true, true, true, true, true, true, true, true, false, true, true, true, false, false, false, false] rfl rfl (by kernel_rfl) (fun _ _ _ h => h) (Or.inl ⟨by rfl, ?_⟩) ?_ ?_
            rotate_left
            · intro w'
              go_simp
              with_reducible rfl
            rotate_left
            · simp only [Act.put, List.setIfInBounds_toArray, List.set_cons_zero, List.set_cons_succ, i64_w, i32_w]
              rfl
            refine take_ (i := 13) (N := some 59) (v := ?_) (a' := ?_) #[true, true, true, true, true, true, true, true, true, true, true, true, true, true, true, true, true, false, false, false, false] rfl rfl (by kernel_rfl) (fun _ _ _ h => h) (Or.inl ⟨by rfl, ?_⟩) hHeld ?_ ?_
            rotate_left
            · rintro w' ⟨s0, s1⟩
              go_simp
              with_reducible rfl
            rotate_left
            · simp only [Act.put, List.setIfInBounds_toArray, List.set_cons_zero, List.set_cons_succ, i64_w, i32_w]
              rfl
            refine take_ (i := 17) (N := some 63) (v := ?_) (a' := ?_) #[true, true, true, true, true, true, true, true, true, true, true, true, true, true, true, true, true, true, false, false, false] rfl rfl (by kernel_rfl) (fun _ _ _ h => h) (Or.inl ⟨by rfl, ?_⟩) hHeld ?_ ?_
            rotate_left
            · rintro w' ⟨s0, s1⟩
              go_simp
              with_reducible rfl
            rotate_left
            · simp only [Act.put, List.setIfInBounds_toArray, List.set_cons_zero, List.set_cons_succ, i64_w, i32_w]
              rfl
            refine pure_ (i := 18) (N := some 64) (v := ?_) (a' := ?_) #[true, true, true, true, true, true, true, true, true, true, true, true, true, true, true, true, true, true, true, false, false] rfl rfl (by kernel_rfl) (fun _ _ _ h => h) (Or.inl ⟨by rfl, ?_⟩) ?_ ?_
            rotate_left
            · intro w'
              go_simp
              with_reducible rfl
            rotate_left
            · simp only [Act.put, List.setIfInBounds_toArray, List.set_cons_zero, List.set_cons_succ, i64_w, i32_w]
              rfl
            refine pure_ (i := 19) (N := some 65) (v := ?_) (a' := ?_) #[true, true, true, true, true, true, true, true, true, true, true, true, true, true, true, true, true, true, true, true, false] rfl rfl (by kernel_rfl) (fun _ _ _ h => h) (Or.inl ⟨by rfl, ?_⟩) ?_ ?_
            rotate_left
            · intro w'
              go_simp
              with_reducible rfl
            rotate_left
            · simp only [Act.put, List.setIfInBounds_toArray, List.set_cons_zero, List.set_cons_succ, i64_w, i32_w]
              rfl
            refine pure_ (i := 20) (N := some 66) (v := ?_) (a' := ?_) #[true, true, true, true, true, true, true, true, true, true, true, true, true, true, true, true, true, true, true, true, true] rfl rfl (by kernel_rfl) (fun _ _ _ h => h) (Or.inl ⟨by rfl, ?_⟩) ?_ ?_
            rotate_left
            · intro w'
              go_simp
              with_reducible rfl
            rotate_left
            · simp only [Act.put, List.setIfInBounds_toArray, List.set_cons_zero, List.set_cons_succ, i64_w, i32_w]
              rfl
            refine done_ (by kernel_rfl) ?_
            clear c2 x1 w2' t1
            have HLT := Aside0.mk hlt
            clear hlt
            obtain ⟨w9, hw9⟩ : ∃ w9, w8.drew = w9 := ⟨_, rfl⟩
            rw [hw9] at I9 X9 F9 H9
            rw [hw9]
            clear hw9 I8 X8 F8
            cases lt with
            | false =>
              have EK : Aside0 (r = drainS L2) := ⟨by
                rw [E2.out]
                unfold keepS
                rw [if_neg (fun h => by
                  have h1 := h.2.2
                  rw [HAW.out] at h1
                  exact of_decide_eq_false HLT.out h1)]⟩
              go_wp2_with (go_at_call 32; refine stop_here ?_)
              refine ⟨?_⟩
              refine (drain_calls w9 base g D1 L2 H9.out BD.out.1 BD.out.2.1 BD.out.2.2.1 BD.out.2.2.2.1 BD.out.2.2.2.2).mono ?_
              rintro e w20 ⟨⟨v, ms, D20, rfl, hL, hD, hM, hb, hO⟩, hF⟩
              go_wp2
              go_ret2
              rw [EK.out]
              exact ⟨⟨v, ms, D20, rfl, hL, fun k hk => (hD k hk).elim (D0.out k) (fun h => .inr (Nat.le_trans F9.out.size h)), hM, hb, hO.1, fun k hk => Nat.le_trans F9.out.size (hO.2.1 k hk), fun p hp ad ea => (hO.2.2 p hp ad ea).elim (D0.out _) (fun h => .inr (Nat.le_trans F9.out.size h))⟩, F9.out.trans hF (fun k e => D0.out k e)⟩
            | true =>
              have EK : Aside0 (r = drainS { L2 with kept := L2.kept ++ [(⟨ack, num, last, b⟩ : P4)] }) := ⟨by
                rw [E2.out]
                unfold keepS
                rw [if_pos ⟨KF.out.trans EN.out, by rw [HAW.out]; exact hge, by rw [HAW.out]; exact of_decide_eq_true HLT.out⟩]⟩
              have x3 := (blk_cell X9.out 3).trans (show (⟨Pk.cells ⟨ack, num, last, A, c, b⟩⟩ : Array Value)[3]? = some (.slice A b.length c) from rfl)
              go_wp2_with (go_at_call 31; refine stop_here ?_)
              refine ⟨?_⟩
              refine (slices_Clone_byte_byte.calls A c b b w9 (reads_bytes (P0.out.frame F9.out (fun _ ad e => PD.out ad e)) (by omega)) hpc' (clone_f b (by omega))).mono ?_
              rintro e w10 ⟨vb, rfl, hR, hb⟩
              obtain ⟨An, cn, rfl, hcn, hby, hty⟩ := bytes_of_row hR
              have K10 : Aside0 (PkOk w10 w9.heap.size ⟨ack, num, last, An, cn, b⟩) := ⟨⟨hby, hcn, fun ad e => ⟨(hty ad e).1, (hty ad e).2⟩⟩⟩
              have I10 := Aside0.mk (I9.out.below hb)
              have X10 := Aside0.mk (blk_below X9.out hb)
              have F10 := Aside0.mk (F9.out.trans (Frame.of_below hb) (fun _ h => h.elim))
              have S9 := Aside0.mk (show ∀ k, dom g mb vq cv (qs ++ ks) k → base ≤ k ∧ k < w9.heap.size from fun k hk => I9.out.ge k hk)
              have S9w := Aside0.mk (show w.heap.size ≤ w9.heap.size from F9.out.size)
              have QL9 := Aside0.mk (show q < w9.heap.size from blk_lt X9.out)
              clear hR hb hby hcn hty I9 X9 F9 H9 x3
              have x3 := (blk_cell X10.out 3).trans (show (⟨Pk.cells ⟨ack, num, last, A, c, b⟩⟩ : Array Value)[3]? = some (.slice A b.length c) from rfl)
              have fx := blk_frozen X10.out 3
              go_upto_region 13 with (fail)
              have FS := Aside0.mk (Frame.of_set w10 q 3 (.slice An b.length cn))
              have X11 := Aside0.mk ((blk_set X10.out 3 (.slice An b.length cn)).trans (show _ = some (Obj.cells ⟨Pk.cells ⟨ack, num, last, An, cn, b⟩⟩ 37 (0, 0)) from rfl))
              have K11 := Aside0.mk (K10.out.keep FS.out (fun ad e h => by have h1 := (K10.out.own ad e).1; have h2 := QL9.out; have h' : ad.block = q := h; omega))
              have I11 := Aside0.mk (I10.out.keep FS.out (fun k hk e => NQ1.out (by have e' : k = q := e; rw [← e']; exact (HD1.out k).2 hk)))
              have F11 := Aside0.mk (F10.out.trans FS.out (fun k e => .inr (by have h2 := NQ.out; have e' : k = q := e; omega)))
              obtain ⟨w11, hw11⟩ : ∃ w11, w10.setCell ⟨q, 3, none⟩ (.slice An b.length cn) = w11 := ⟨_, rfl⟩
              rw [hw11] at X11 K11 I11 F11
              rw [hw11]
              clear hw11 FS X10 K10 I10 F10 x3 fx
              have c3 := (blk_cell I11.out.blk 3).trans (show (⟨lineCells vq mb cv L2⟩ : Array Value)[3]? = some (.map (some mb)) from rfl)
              have x1 := (blk_cell X11.out 1).trans (show (⟨Pk.cells ⟨ack, num, last, An, cn, b⟩⟩ : Array Value)[1]? = some (.int .i64 num) from rfl)
              have xq : w11.rangeAt q 0 (Pk.cells ⟨ack, num, last, An, cn, b⟩) := row_range X11.out
              have I12 := Aside0.mk (I11.out.below (below_drew1 (Below.refl w11.heap.size w11)))
              have K12 := Aside0.mk (K11.out.below (below_drew1 (Below.refl w11.heap.size w11)))
              have F12 := Aside0.mk (F11.out.trans (Frame.of_drewN w11 1 D) (fun k e => .inl e))
              refine start_ (n := 8) (S := fun w' => w'.cell? ⟨g, 3, none⟩ = some (.map (some mb)) ∧ w'.cell? ⟨q, 1, none⟩ = some (.int .i64 num) ∧ w'.rangeAt q 0 (Pk.cells ⟨ack, num, last, An, cn, b⟩)) (ds := [7]) #[false, false, false, false, false, false, false, false] (by kernel_rfl) rfl rfl ⟨c3, x1, xq⟩ (fun hHeld => ?_)
              refine pure_ (i := 0) (N := some 71) (v := ?_) (a' := ?_) #[true, false, false, false, false, false, false, false] rfl rfl (by kernel_rfl) (fun _ _ _ h => h) (Or.inl ⟨by rfl, ?_⟩) ?_ ?_
              rotate_left
              · intro w'
                go_simp
                with_reducible rfl
              rotate_left
              · simp only [Act.put, List.setIfInBounds_toArray, List.set_cons_zero, List.set_cons_succ, i64_w, i32_w]
                rfl
              refine pure_ (i := 1) (N := some 72) (v := ?_) (a' := ?_) #[true, true, false, false, false, false, false, false] rfl rfl (by kernel_rfl) (fun _ _ _ h => h) (Or.inl ⟨by rfl, ?_⟩) ?_ ?_
              rotate_left
              · intro w'
                go_simp
                with_reducible rfl
              rotate_left
              · simp only [Act.put, List.setIfInBounds_toArray, List.set_cons_zero, List.set_cons_succ, i64_w, i32_w]
                rfl
              refine pure_ (i := 2) (N := some 73) (v := ?_) (a' := ?_) #[true, true, true, false, false, false, false, false] rfl rfl (by kernel_rfl) (fun _ _ _ h => h) (Or.inl ⟨by rfl, ?_⟩) ?_ ?_
              rotate_left
              · intro w'
                go_simp
                with_reducible rfl
              rotate_left
              · simp only [Act.put, List.setIfInBounds_toArray, List.set_cons_zero, List.set_cons_succ, i64_w, i32_w]
                rfl
              refine pure_ (i := 4) (N := some 75) (v := ?_) (a' := ?_) #[true, true, true, false, true, false, false, false] rfl rfl (by kernel_rfl) (fun _ _ _ h => h) (Or.inl ⟨by rfl, ?_⟩) ?_ ?_
              rotate_left
              · intro w'
                go_simp
                with_reducible rfl
              rotate_left
              · simp only [Act.put, List.setIfInBounds_toArray, List.set_cons_zero, List.set_cons_succ, i64_w, i32_w]
                rfl
              refine take_ (i := 3) (N := some 74) (v := ?_) (a' := ?_) #[true, true, true, true, true, false, false, false] rfl rfl (by kernel_rfl) (fun _ _ _ h => h) (Or.inl ⟨by rfl, ?_⟩) hHeld ?_ ?_
              rotate_left
              · rintro w' ⟨s0, s1, s2⟩
                go_simp
                with_reducible rfl
              rotate_left
              · simp only [Act.put, List.setIfInBounds_toArray, List.set_cons_zero, List.set_cons_succ, i64_w, i32_w]
                rfl
              refine take_ (i := 5) (N := some 76) (v := ?_) (a' := ?_) #[true, true, true, true, true, true, false, false] rfl rfl (by kernel_rfl) (fun _ _ _ h => h) (Or.inl ⟨by rfl, ?_⟩) hHeld ?_ ?_
              rotate_left
              · rintro w' ⟨s0, s1, s2⟩
                go_simp
                with_reducible rfl
              rotate_left
              · simp only [Act.put, List.setIfInBounds_toArray, List.set_cons_zero, List.set_cons_succ, i64_w, i32_w]
                rfl
              refine take_ (i := 6) (N := some 77) (v := ?_) (a' := ?_) #[true, true, true, true, true, true, true, false] rfl rfl (by kernel_rfl) (fun _ _ _ h => h) (Or.inl ⟨by rfl, ?_⟩) hHeld ?_ ?_
              rotate_left
              · rintro w' ⟨s0, s1, s2⟩
                refine (load_mid_run 37 (.tmp 3) ?q1 q 0 ?q2 (Pk.cells ⟨ack, num, last, An, cn, b⟩) _ s2 Tryd.underlying37 rfl rfl); rfl; rfl
              rotate_left
              · simp only [Act.put, List.setIfInBounds_toArray, List.set_cons_zero, List.set_cons_succ, i64_w, i32_w]
                rfl
              refine last_ (i := 7) (N := none) #[true, true, true, true, true, true, true, true] rfl rfl (by kernel_rfl) (by decide) (fun K hK => ?_)
              refine mapnew_step (p := ⟨ack, num, last, An, cn, b⟩) (by rfl) rfl (.tmp 74) (.tmp 76) (.tmp 77) (by rfl) (by rfl) (by rfl) (by rfl) I12.out.map EN.out ?_
              intro w13 hm hf
              have I13 := Aside0.mk (I12.out.keeps hm hf (K12.out.lower (by have h1 := S9.out g (.inl rfl); omega)) (fun ad ea e => by have h1 := (K12.out.own ad ea).1; have h2 := (S9.out ad.block (.inr (.inr (.inr (.inl e))))).2; omega))
              have F13 := Aside0.mk (F12.out.trans hf (fun k e => D0.out k (by have e' : k = mb := e; rw [e']; exact (HD1.out mb).2 (.inr (.inl rfl)))))
              clear hm hf
              refine hK.out _ _ ?_
              clear hK K
              refine done_ (by kernel_rfl) ?_
              have D13 := Aside0.mk (show ∀ k, dom g mb vq cv (qs ++ (ks ++ [(⟨ack, num, last, An, cn, b⟩ : Pk)])) k → D k ∨ w.heap.size ≤ k from fun k hk => by
                rcases hk with h | h | h | h | ⟨p, hp, ad, e, h⟩
                · exact D0.out k ((HD1.out k).2 (.inl h))
                · exact D0.out k ((HD1.out k).2 (.inr (.inl h)))
                · exact D0.out k ((HD1.out k).2 (.inr (.inr (.inl h))))
                · exact D0.out k ((HD1.out k).2 (.inr (.inr (.inr (.inl h)))))
                · rw [← List.append_assoc] at hp
                  rcases List.mem_append.1 hp with hp | hp
                  · exact D0.out k ((HD1.out k).2 (.inr (.inr (.inr (.inr ⟨p, hp, ad, e, h⟩)))))
                  · obtain rfl := List.mem_singleton.1 hp
                    have h1 := (K12.out.own ad e).1
                    exact .inr (by have := S9w.out; omega))
              have H13 := Aside0.mk (show LineAt w13 base g _ _ from ⟨vq, mb, cv, qs, _, I13.out, fun k => Iff.rfl⟩)
              have BD2 : Aside0 ((({ L2 with kept := L2.kept ++ [(⟨ack, num, last, b⟩ : P4)] } : LS)).coming.length ≤ 1000000 ∧ (∀ p ∈ L2.kept ++ [(⟨ack, num, last, b⟩ : P4)], p.f3.length ≤ 1000000) ∧ 0 ≤ L2.await ∧ (L2.kept ++ [(⟨ack, num, last, b⟩ : P4)]).length ≤ 100000 ∧ L2.await + ((L2.kept ++ [(⟨ack, num, last, b⟩ : P4)]).length : Int) ≤ 4611686018427387904) := ⟨by
                obtain ⟨b1, b2, b3, b4, b5⟩ := BD.out
                obtain ⟨k1, k2⟩ := BK.out
                refine ⟨b1, fun p hp => ?_, b3, by rw [List.length_append]; show _ + 1 ≤ _; omega, by rw [List.length_append]; show _ + ((_ + 1 : Nat) : Int) ≤ _; omega⟩
                rcases List.mem_append.1 hp with hp | hp
                · exact b2 p hp
                · obtain rfl := List.mem_singleton.1 hp
                  exact hpl'⟩
              go_wp2_with (go_at_call 32; refine stop_here ?_)
              refine ⟨?_⟩
              refine (drain_calls w13 base g _ _ H13.out BD2.out.1 BD2.out.2.1 BD2.out.2.2.1 BD2.out.2.2.2.1 BD2.out.2.2.2.2).mono ?_
              rintro e w20 ⟨⟨v, ms, D20, rfl, hL, hD, hM, hb, hO⟩, hF⟩
              go_wp2
              go_ret2
              rw [EK.out]
              exact ⟨⟨v, ms, D20, rfl, hL, fun k hk => (hD k hk).elim (D13.out k) (fun h => .inr (Nat.le_trans F13.out.size h)), hM, hb, hO.1, fun k hk => Nat.le_trans F13.out.size (hO.2.1 k hk), fun p hp ad ea => (hO.2.2 p hp ad ea).elim (D13.out _) (fun h => .inr (Nat.le_trans F13.out.size h))⟩, F13.out.trans hF (fun k e => D13.out k e)⟩
          · have t1 : decide (aw ≤ num) = false := decide_eq_false hge
            have EK : Aside0 (r = drainS L2) := ⟨by
              rw [E2.out]
              unfold keepS
              rw [if_neg (fun h => by
                have h1 := h.2.1
                rw [HAW.out] at h1
                exact hge h1)]⟩
            refine start_ (n := 21) (S := fun w' => w'.cell? ⟨g, 2, none⟩ = some (.int .i64 aw) ∧ w'.cell? ⟨q, 1, none⟩ = some (.int .i64 num)) (ds := []) #[false, false, false, false, false, false, false, false, false, false, false, false, false, false, false, false, false, false, false, false, false] (by kernel_rfl) rfl rfl ⟨c2, x1⟩ (fun hHeld => ?_)
            refine pure_ (i := 0) (N := some 46) (v := ?_) (a' := ?_) #[true, false, false, false, false, false, false, false, false, false, false, false, false, false, false, false, false, false, false, false, false] rfl rfl (by kernel_rfl) (fun _ _ _ h => h) (Or.inl ⟨by rfl, ?_⟩) ?_ ?_
            rotate_left
            · intro w'
              go_simp
              with_reducible rfl
            rotate_left
            · simp only [Act.put, List.setIfInBounds_toArray, List.set_cons_zero, List.set_cons_succ, i64_w, i32_w]
              rfl
            refine pure_ (i := 1) (N := some 47) (v := ?_) (a' := ?_) #[true, true, false, false, false, false, false, false, false, false, false, false, false, false, false, false, false, false, false, false, false] rfl rfl (by kernel_rfl) (fun _ _ _ h => h) (Or.inl ⟨by rfl, ?_⟩) ?_ ?_
            rotate_left
            · intro w'
              go_simp
              with_reducible rfl
            rotate_left
            · simp only [Act.put, List.setIfInBounds_toArray, List.set_cons_zero, List.set_cons_succ, i64_w, i32_w]
              rfl
            refine pure_ (i := 2) (N := some 48) (v := ?_) (a' := ?_) #[true, true, true, false, false, false, false, false, false, false, false, false, false, false, false, false, false, false, false, false, false] rfl rfl (by kernel_rfl) (fun _ _ _ h => h) (Or.inl ⟨by rfl, ?_⟩) ?_ ?_
            rotate_left
            · intro w'
              go_simp
              with_reducible rfl
            rotate_left
            · simp only [Act.put, List.setIfInBounds_toArray, List.set_cons_zero, List.set_cons_succ, i64_w, i32_w]
              rfl
            refine pure_ (i := 3) (N := some 49) (v := ?_) (a' := ?_) #[true, true, true, true, false, false, false, false, false, false, false, false, false, false, false, false, false, false, false, false, false] rfl rfl (by kernel_rfl) (fun _ _ _ h => h) (Or.inl ⟨by rfl, ?_⟩) ?_ ?_
            rotate_left
            · intro w'
              go_simp
              with_reducible rfl
            rotate_left
            · simp only [Act.put, List.setIfInBounds_toArray, List.set_cons_zero, List.set_cons_succ, i64_w, i32_w]
              rfl
            refine pure_ (i := 5) (N := some 51) (v := ?_) (a' := ?_) #[true, true, true, true, false, true, false, false, false, false, false, false, false, false, false, false, false, false, false, false, false] rfl rfl (by kernel_rfl) (fun _ _ _ h => h) (Or.inl ⟨by rfl, ?_⟩) ?_ ?_
            rotate_left
            · intro w'
              go_simp
              with_reducible rfl
            rotate_left
            · simp only [Act.put, List.setIfInBounds_toArray, List.set_cons_zero, List.set_cons_succ, i64_w, i32_w]
              rfl
            refine pure_ (i := 6) (N := some 52) (v := ?_) (a' := ?_) #[true, true, true, true, false, true, true, false, false, false, false, false, false, false, false, false, false, false, false, false, false] rfl rfl (by kernel_rfl) (fun _ _ _ h => h) (Or.inl ⟨by rfl, ?_⟩) ?_ ?_
            rotate_left
            · intro w'
              go_simp
              with_reducible rfl
            rotate_left
            · simp only [Act.put, List.setIfInBounds_toArray, List.set_cons_zero, List.set_cons_succ, i64_w, i32_w]
              rfl
            refine pure_ (i := 7) (N := some 53) (v := ?_) (a' := ?_) #[true, true, true, true, false, true, true, true, false, false, false, false, false, false, false, false, false, false, false, false, false] rfl rfl (by kernel_rfl) (fun _ _ _ h => h) (Or.inl ⟨by rfl, ?_⟩) ?_ ?_
            rotate_left
            · intro w'
              go_simp
              with_reducible rfl
            rotate_left
            · simp only [Act.put, List.setIfInBounds_toArray, List.set_cons_zero, List.set_cons_succ, i64_w, i32_w]
              rfl
            refine take_ (i := 4) (N := some 50) (v := ?_) (a' := ?_) #[true, true, true, true, true, true, true, true, false, false, false, false, false, false, false, false, false, false, false, false, false] rfl rfl (by kernel_rfl) (fun _ _ _ h => h) (Or.inl ⟨by rfl, ?_⟩) hHeld ?_ ?_
            rotate_left
            · rintro w' ⟨s0, s1⟩
              go_simp
              with_reducible rfl
            rotate_left
            · simp only [Act.put, List.setIfInBounds_toArray, List.set_cons_zero, List.set_cons_succ, i64_w, i32_w]
              rfl
            refine take_ (i := 8) (N := some 54) (v := ?_) (a' := ?_) #[true, true, true, true, true, true, true, true, true, false, false, false, false, false, false, false, false, false, false, false, false] rfl rfl (by kernel_rfl) (fun _ _ _ h => h) (Or.inl ⟨by rfl, ?_⟩) hHeld ?_ ?_
            rotate_left
            · rintro w' ⟨s0, s1⟩
              go_simp
              with_reducible rfl
            rotate_left
            · simp only [Act.put, List.setIfInBounds_toArray, List.set_cons_zero, List.set_cons_succ, i64_w, i32_w]
              rfl
            refine pure_ (i := 9) (N := some 55) (v := ?_) (a' := ?_) #[true, true, true, true, true, true, true, true, true, true, false, false, false, false, false, false, false, false, false, false, false] rfl rfl (by kernel_rfl) (fun _ _ _ h => h) (Or.inl ⟨by rfl, ?_⟩) ?_ ?_
            rotate_left
            · intro w'
              go_simp
              with_reducible rfl
            rotate_left
            · simp only [Act.put, List.setIfInBounds_toArray, List.set_cons_zero, List.set_cons_succ, i64_w, i32_w]
              rfl
            refine pure_ (i := 10) (N := some 56) (v := ?_) (a' := ?_) #[true, true, true, true, true, true, true, true, true, true, true, false, false, false, false, false, false, false, false, false, false] rfl rfl (by kernel_rfl) (fun _ _ _ h => h) (Or.inl ⟨by rfl, ?_⟩) ?_ ?_
            rotate_left
            · intro w'
              go_simp
              with_reducible rfl
            rotate_left
            · simp only [Act.put, List.setIfInBounds_toArray, List.set_cons_zero, List.set_cons_succ, i64_w, i32_w]
              rfl
            refine pure_ (i := 11) (N := some 57) (v := ?_) (a' := ?_) #[true, true, true, true, true, true, true, true, true, true, true, true, false, false, false, false, false, false, false, false, false] rfl rfl (by kernel_rfl) (fun _ _ _ h => h) (Or.inl ⟨by rfl, ?_⟩) ?_ ?_
            rotate_left
            · intro w'
              go_simp
              with_reducible rfl
            rotate_left
            · simp only [Act.put, List.setIfInBounds_toArray, List.set_cons_zero, List.set_cons_succ, i64_w, i32_w]
              rfl
            refine pure_ (i := 12) (N := some 58) (v := undef) (a' := ?_) #[true, true, true, true, true, true, true, true, true, true, true, true, true, false, false, false, false, false, false, false, false] rfl rfl (by kernel_rfl) (fun _ _ _ h => h) (Or.inr ⟨by rfl, rfl⟩) ?_ ?_
            rotate_left
            · simp only [Act.put, List.setIfInBounds_toArray, List.set_cons_zero, List.set_cons_succ, i64_w, i32_w]
              rfl
            refine pure_ (i := 13) (N := some 59) (v := undef) (a' := ?_) #[true, true, true, true, true, true, true, true, true, true, true, true, true, true, false, false, false, false, false, false, false] rfl rfl (by kernel_rfl) (fun _ _ _ h => h) (Or.inr ⟨by rfl, rfl⟩) ?_ ?_
            rotate_left
            · simp only [Act.put, List.setIfInBounds_toArray, List.set_cons_zero, List.set_cons_succ, i64_w, i32_w]
              rfl
            refine pure_ (i := 14) (N := some 60) (v := undef) (a' := ?_) #[true, true, true, true, true, true, true, true, true, true, true, true, true, true, true, false, false, false, false, false, false] rfl rfl (by kernel_rfl) (fun _ _ _ h => h) (Or.inr ⟨by rfl, rfl⟩) ?_ ?_
            rotate_left
            · simp only [Act.put, List.setIfInBounds_toArray, List.set_cons_zero, List.set_cons_succ, i64_w, i32_w]
              rfl
            refine pure_ (i := 15) (N := some 61) (v := undef) (a' := ?_) #[true, true, true, true, true, true, true, true, true, true, true, true, true, true, true, true, false, false, false, false, false] rfl rfl (by kernel_rfl) (fun _ _ _ h => h) (Or.inr ⟨by rfl, rfl⟩) ?_ ?_
            rotate_left
            · simp only [Act.put, List.setIfInBounds_toArray, List.set_cons_zero, List.set_cons_succ, i64_w, i32_w]
              rfl
            refine pure_ (i := 16) (N := some 62) (v := undef) (a' := ?_) #[true, true, true, true, true, true, true, true, true, true, true, true, true, true, true, true, true, false, false, false, false] rfl rfl (by kernel_rfl) (fun _ _ _ h => h) (Or.inr ⟨by rfl, rfl⟩) ?_ ?_
            rotate_left
            · simp only [Act.put, List.setIfInBounds_toArray, List.set_cons_zero, List.set_cons_succ, i64_w, i32_w]
              rfl
            refine pure_ (i := 17) (N := some 63) (v := undef) (a' := ?_) #[true, true, true, true, true, true, true, true, true, true, true, true, true, true, true, true, true, true, false, false, false] rfl rfl (by kernel_rfl) (fun _ _ _ h => h) (Or.inr ⟨by rfl, rfl⟩) ?_ ?_
            rotate_left
            · simp only [Act.put, List.setIfInBounds_toArray, List.set_cons_zero, List.set_cons_succ, i64_w, i32_w]
              rfl
            refine pure_ (i := 18) (N := some 64) (v := undef) (a' := ?_) #[true, true, true, true, true, true, true, true, true, true, true, true, true, true, true, true, true, true, true, false, false] rfl rfl (by kernel_rfl) (fun _ _ _ h => h) (Or.inr ⟨by rfl, rfl⟩) ?_ ?_
            rotate_left
            · simp only [Act.put, List.setIfInBounds_toArray, List.set_cons_zero, List.set_cons_succ, i64_w, i32_w]
              rfl
            refine pure_ (i := 19) (N := some 65) (v := undef) (a' := ?_) #[true, true, true, true, true, true, true, true, true, true, true, true, true, true, true, true, true, true, true, true, false] rfl rfl (by kernel_rfl) (fun _ _ _ h => h) (Or.inr ⟨by rfl, rfl⟩) ?_ ?_
            rotate_left
            · simp only [Act.put, List.setIfInBounds_toArray, List.set_cons_zero, List.set_cons_succ, i64_w, i32_w]
              rfl
            refine pure_ (i := 20) (N := some 66) (v := ?_) (a' := ?_) #[true, true, true, true, true, true, true, true, true, true, true, true, true, true, true, true, true, true, true, true, true] rfl rfl (by kernel_rfl) (fun _ _ _ h => h) (Or.inl ⟨by rfl, ?_⟩) ?_ ?_
            rotate_left
            · intro w'
              go_simp
              with_reducible rfl
            rotate_left
            · simp only [Act.put, List.setIfInBounds_toArray, List.set_cons_zero, List.set_cons_succ, i64_w, i32_w]
              rfl
            refine done_ (by kernel_rfl) ?_
            clear c2 x1
            obtain ⟨w9, hw9⟩ : ∃ w9, w8.drew = w9 := ⟨_, rfl⟩
            rw [hw9] at I9 X9 F9 H9
            rw [hw9]
            clear hw9 I8 X8 F8
            go_wp2_with (go_at_call 32; refine stop_here ?_)
            refine ⟨?_⟩
            refine (drain_calls w9 base g D1 L2 H9.out BD.out.1 BD.out.2.1 BD.out.2.2.1 BD.out.2.2.2.1 BD.out.2.2.2.2).mono ?_
            rintro e w20 ⟨⟨v, ms, D20, rfl, hL, hD, hM, hb, hO⟩, hF⟩
            go_wp2
            go_ret2
            rw [EK.out]
            exact ⟨⟨v, ms, D20, rfl, hL, fun k hk => (hD k hk).elim (D0.out k) (fun h => .inr (Nat.le_trans F9.out.size h)), hM, hb, hO.1, fun k hk => Nat.le_trans F9.out.size (hO.2.1 k hk), fun p hp ad ea => (hO.2.2 p hp ad ea).elim (D0.out _) (fun h => .inr (Nat.le_trans F9.out.size h))⟩, F9.out.trans hF (fun k e => D0.out k e)⟩
end Go.Proofs.YtafjegfmmnjpfaaDoor.LineT

/- Proved: words and contracts for the law LineActs, part 3; conditions: the theorems' own premises. -/
import Derived.Test.YtafjegfmmnjpfaaDoorZLineActs2
import Derived.Deep.Matrix
section
namespace Go.Proofs.YtafjegfmmnjpfaaDoor.LineT
open Go.RowKit Go.Proofs.YtafjegfmmnjpfaaDoor.YLine Go.Proofs.YtafjegfmmnjpfaaDoorW.PrintWords Go.Proofs.YtafjegfmmnjpfaaDoorW.PrintLast Go.Proofs.YtafjegfmmnjpfaaDoorW.PrintMore
set_option linter.unusedVariables false
set_option linter.unusedSimpArgs false
/-- A pack is kept, if it is awaited and not there. -/
def keepS (L : LS) (p : P4) : LS := if fndS p.f1 L.kept = none ∧ L.await ≤ p.f1 ∧ p.f1 < L.await + 8 then { L with kept := L.kept ++ [p] } else L
def hearS (L : LS) (p : P4) : LS × List (List Int) × Option Int :=
  if mayB p.f0 p.f1 p.f2 p.f3 = false then (L, [], some 1)
  else if L.given < p.f0 then (L, [], some 14)
  else if p.f1 = 0 then (ackS L p.f0, [], none)
  else drainS (keepS { ackS L p.f0 with owes := true } p)
def WriteIs (e : Ending) (b : Bool) : Prop := ∃ v, e = .returned (.tuple #[v, errW (if b = true then none else some 1)])
theorem write_calls (w : World) (a n : Int) (last : Bool) (A : Option Addr) (c : Nat) (b : List Int) (hb : Bytes w A b) (hc : b.length ≤ c) (hl : b.length ≤ 9223372036854775807) :
    Calls Tryd.prog 29 #[.agg #[.int .i64 a, .int .i64 n, .bool last, .slice A b.length c]] w fun e w' => WriteIs e (mayB a n last b) ∧ Below w.heap.size w w' := by
  obtain ⟨k, hk⟩ := write_ev a n last b
  have hk := hk k (Nat.le_refl _)
  have hC := reads_bytes hb hl
  have hV : Kd.V (Kd.int .u8) 5 w w.heap.size (fun _ => True) (.slice A b.length c) b := Kd.V_mk hc (Kd.F_mono (Kd.C_F (Kd.heap_int .u8) hC) (fun _ _ => trivial))
  have hk' : piece_Write.f k a n last b = some (if mayB a n last b = true then (bytesOf a n last b, none) else ([], some 1)) := hk
  cases hm : mayB a n last b with
  | true =>
    rw [hm] at hk'
    refine (piece_Write.calls k a n last (fun _ => True) A c b (bytesOf a n last b) none w hV hk').mono ?_
    rintro e w1 ⟨v, he, _, hB⟩
    exact ⟨⟨v, he⟩, hB⟩
  | false =>
    rw [hm] at hk'
    refine (piece_Write.calls k a n last (fun _ => True) A c b [] (some 1) w hV hk').mono ?_
    rintro e w1 ⟨v, he, _, hB⟩
    exact ⟨⟨v, he⟩, hB⟩
theorem ackS_await (L : LS) (n : Int) : (ackS L n).await = L.await := by unfold ackS; split <;> rfl
theorem ackS_kept (L : LS) (n : Int) : (ackS L n).kept = L.kept := by unfold ackS; split <;> rfl
theorem ackS_coming (L : LS) (n : Int) : (ackS L n).coming = L.coming := by unfold ackS; split <;> rfl
theorem no_msgs (w : World) (base : Nat) : Msgs w base (.slice none 0 0) [] := ⟨⟨rfl, .inl ⟨rfl, none, rfl, fun a ha => by cases ha⟩⟩, fun p hp => by simp at hp⟩
theorem no_on (w : World) (D : Nat → Prop) : On w D (.slice none 0 0) [] := ⟨fun k hk => (by cases hk), fun p hp => by simp at hp⟩
theorem no_off (D : Nat → Prop) : Off D (.slice none 0 0) [] := ⟨fun k hk => (by cases hk), fun p hp => by simp at hp⟩
theorem LineAt.cellG {w : World} {base g : Nat} {D : Nat → Prop} {L : LS} (h : LineAt w base g D L) : w.cell? ⟨g, 1, none⟩ = some (.int .i64 L.given) := by
  obtain ⟨vq, mb, cv, qs, ks, h1, _⟩ := h
  exact (blk_cell h1.blk 1).trans rfl
theorem mapnew_step {ops : Array Oper} {o : Oper} {a : Act} {Q' : Exit → Act → World → Prop} {Kc : Act → World → Prop} {W : World} {mb : Nat} {p : Pk} {ks : List Pk} (hw : Region.wanted o (yielded ops a.tmps) = true) (hd : o.dst = none) (x y z : Operand)
    (ho : o.op = .mapUpdate 62 x y z) (hx : a.eval x = .map (some mb)) (hy : a.eval y = .int .i64 p.num) (hz : a.eval z = .agg ⟨p.cells⟩) (hm : MapIs W mb ks) (hj : fnd p.num ks = none)
    (h : ∀ w1, MapIs w1 mb (ks ++ [p]) → Frame W w1 (fun k => k = mb) → Kc a w1) : if Region.wanted o (yielded ops a.tmps) = true then Oper.wp Tryd.prog o a W Kc Q' else Kc (a.put o.dst undef) W := by
  obtain ⟨w1, hr, h1, h2⟩ := run_mapnew hm p hj
  rw [if_pos hw]
  have e : (execOp a.eval o).run Tryd.prog W = .ok .skip w1 := by
    unfold execOp
    rw [ho]
    show ((Instr.mapUpdate 62 (a.eval x) (a.eval y) (a.eval z)) >>= fun _ => pure Next.skip).run Tryd.prog W = _
    rw [hx, hy, hz, Sem.run_bind, hr]
    rfl
  unfold Oper.wp
  rw [e]
  have hh := h w1 h1 h2
  unfold Oper.upon
  first | exact hh | (simp only [hd]; exact hh) | (show Kc (a.put o.dst undef) w1; rw [hd]; exact hh)
/-- A pack is kept. -/
theorem IsLine.keeps {W w1 : World} {base g : Nat} {vq : Value} {mb : Nat} {cv : Value} {qs ks : List Pk} {L : LS} {p : Pk} (h : IsLine W base g vq mb cv qs ks L) (hm : MapIs w1 mb (ks ++ [p])) (hf : Frame W w1 (fun k => k = mb)) (hp : PkOk W base p) (ha : ∀ ad, p.A = some ad → some ad.block ≠ cv.ownBlock) :
    IsLine w1 base g vq mb cv qs (ks ++ [p]) { L with kept := L.kept ++ [p.say] } := by
  obtain ⟨n1, n2, n3, n4, n5, n6, n7⟩ := h.ne
  have hin : ∀ x ∈ qs ++ (ks ++ [p]), x ∈ qs ++ ks ∨ x = p := fun x hx => by
    rw [← List.append_assoc] at hx
    rcases List.mem_append.1 hx with hx | hx
    · exact .inl hx
    · exact .inr (List.mem_singleton.1 hx)
  refine ⟨(hf.blk h.blk n1).trans rfl, qi_keep h.row hf (fun k hk e => n4 (by rw [← e]; exact hk.symm)), hm, qi_keep h.com hf (fun k hk e => n5 (by rw [← e]; exact hk.symm)), fun x hx => ?_, fun x hx => ?_, h.queue, ?_, h.bg, h.bm⟩
  · rcases hin x hx with hx | rfl
    · exact (h.els x hx).keep hf (fun ad e => (n7 x hx ad e).2.1)
    · refine hp.keep hf (fun ad e e' => ?_)
      obtain ⟨_, cc, h2⟩ := hp.own ad e
      exact h.map.typed h2 e'
  · rcases hin x hx with hx | rfl
    · exact h.apart x hx
    · exact ha
  · rw [List.map_append, h.kept]; rfl
set_option maxHeartbeats 4000000 in
set_option maxRecDepth 100000 in
theorem hear_calls0 (w : World) (base g : Nat) (D : Nat → Prop) (L : LS) (p : Pk) (h : LineAt w base g D L) (hp : Bytes w p.A p.b) (hpc : p.b.length ≤ p.c) (hpl : p.b.length ≤ 1000000) (hpD : 0 < p.b.length → ∀ ad, p.A = some ad → ¬ D ad.block) (hq : L.queue.length ≤ 200)
    (hc : L.coming.length ≤ 1000000) (hk : ∀ p ∈ L.kept, p.f3.length ≤ 1000000) (ha : 0 ≤ L.await) (hk2 : L.kept.length ≤ 90000) (ha2 : L.await ≤ 2305843009213693952) :
    Calls Tryd.prog 13 #[.pointer (some ⟨g, 0, none⟩), .agg ⟨p.cells⟩] w fun e w' => DrainIs w w' base g D e (hearS L p.say) ∧ Frame w w' D := by
  have H0 := Aside0.mk h
  have P0 := Aside0.mk hp
  have PD := Aside0.mk hpD
  have B0 := Aside0.mk (show L.coming.length ≤ 1000000 ∧ (∀ p ∈ L.kept, p.f3.length ≤ 1000000) ∧ 0 ≤ L.await ∧ L.kept.length ≤ 90000 ∧ L.await ≤ 2305843009213693952 from ⟨hc, hk, ha, hk2, ha2⟩)
  have HQ := Aside0.mk hq
  obtain ⟨r, hr⟩ : ∃ r, hearS L p.say = r := ⟨_, rfl⟩
  have HR := Aside0.mk hr
  rw [hr]
  obtain ⟨ack, num, last, A, c, b⟩ := p
  have hpc' : b.length ≤ c := hpc
  have hpl' : b.length ≤ 1000000 := hpl
  have HE := Aside0.mk (show (if mayB ack num last b = false then (L, [], some 1) else if L.given < ack then (L, [], some 14) else if num = 0 then (ackS L ack, [], none) else drainS (keepS { ackS L ack with owes := true } ⟨ack, num, last, b⟩)) = r from hr)
  clear h hp hpD hc hk ha hk2 ha2 hq hr hpc hpl HR
  unfold Pk.cells
  go_enter Tryd.func13, Tryd.ntmps13
  go_wp2_with ((with_reducible refine gate_dst (N := 3) rfl ?_); refine stop_here ?_)
  refine ⟨?_⟩
  refine box_event rfl (N := 3) rfl (cs := ⟨[.int .i64 ack, .int .i64 num, .bool last, .slice A b.length c]⟩) (t := 37) ?hr3 ?_
  case hr3 => first | (go_simp; done) | (go_simp; rfl)
  intro q hq w1 hbox hb
  have X1 := Aside0.mk hbox
  have NQ := Aside0.mk (show w.heap.size ≤ q by rw [hq]; exact Nat.le_refl _)
  have H1 := Aside0.mk (H0.out.below hb)
  have B1 := Aside0.mk hb
  have P1 := Aside0.mk (P0.out.below hb)
  clear hq hbox hb
  go_wp2_with ((with_reducible refine gate_dst (N := 11) rfl ?_); refine stop_here ?_)
  refine ⟨?_⟩
  refine wpList_load_row rfl 37 (.tmp 3) rfl q rfl 37 ⟨Pk.cells ⟨ack, num, last, A, c, b⟩⟩ (0, 0) _ X1.out Tryd.underlying37 rfl rfl ?_
  go_wp2_with (go_at_call 29; refine stop_here ?_)
  refine ⟨?_⟩
  refine (write_calls w1 ack num last A c b P1.out hpc' (by omega)).mono ?_
  rintro e w2 ⟨⟨v, rfl⟩, hb⟩
  have H2 := Aside0.mk (H1.out.below hb)
  have X2 := Aside0.mk (blk_below X1.out hb)
  have B2 := Aside0.mk (below_step B1.out hb)
  have HDOM := Aside0.mk (show ∀ k, D k → k < w.heap.size from fun k hk => (H0.out.ge k hk).2)
  clear hb H1 X1 B1 P1
  cases hm : mayB ack num last b with
  | false =>
    have ER : Aside0 (r = (L, [], some 1)) := ⟨by rw [← HE.out, if_pos hm]⟩
    clear hm
    rw [if_neg (show ¬ false = true by decide), show errW (some 1) = .iface 67 (.int .i64 1) from rfl]
    go_wp2
    go_ret2
    rw [ER.out]
    exact ⟨⟨_, [], D, rfl, H2.out, fun k hk => .inl hk, no_msgs _ _, rfl, no_off _, no_on _ _⟩, (Frame.of_below B2.out).mono (fun _ h => h.elim)⟩
  | true =>
    have EM := Aside0.mk hm
    clear hm
    rw [if_pos rfl, show errW none = .nilIface from rfl]
    obtain ⟨gv, hgv⟩ : ∃ gv, L.given = gv := ⟨_, rfl⟩
    have GV := Aside0.mk hgv
    have cg : w2.cell? ⟨g, 1, none⟩ = some (.int .i64 gv) := by rw [← hgv]; exact H2.out.cellG
    have x0 := (blk_cell X2.out 0).trans (show (⟨Pk.cells ⟨ack, num, last, A, c, b⟩⟩ : Array Value)[0]? = some (.int .i64 ack) from rfl)
    clear hgv
    go_upto_region 4 with (fail)
    refine start_ (n := 7) (S := fun w' => w'.cell? ⟨g, 1, none⟩ = some (.int .i64 gv) ∧ w'.cell? ⟨q, 0, none⟩ = some (.int .i64 ack)) (ds := []) #[false, false, false, false, false, false, false] (by kernel_rfl) rfl rfl ⟨cg, x0⟩ (fun hHeld => ?_)
    refine pure_ (i := 0) (N := some 18) (v := ?_) (a' := ?_) #[true, false, false, false, false, false, false] rfl rfl (by kernel_rfl) (fun _ _ _ h => h) (Or.inl ⟨by rfl, ?_⟩) ?_ ?_
    rotate_left
    · intro w'
      go_simp
      with_reducible rfl
    rotate_left
    · simp only [Act.put, List.setIfInBounds_toArray, List.set_cons_zero, List.set_cons_succ, i64_w, i32_w]
      rfl
    refine pure_ (i := 2) (N := some 20) (v := ?_) (a' := ?_) #[true, false, true, false, false, false, false] rfl rfl (by kernel_rfl) (fun _ _ _ h => h) (Or.inl ⟨by rfl, ?_⟩) ?_ ?_
    rotate_left
    · intro w'
      go_simp
      with_reducible rfl
    rotate_left
    · simp only [Act.put, List.setIfInBounds_toArray, List.set_cons_zero, List.set_cons_succ, i64_w, i32_w]
      rfl
    refine pure_ (i := 3) (N := some 21) (v := ?_) (a' := ?_) #[true, false, true, true, false, false, false] rfl rfl (by kernel_rfl) (fun _ _ _ h => h) (Or.inl ⟨by rfl, ?_⟩) ?_ ?_
    rotate_left
    · intro w'
      go_simp
      with_reducible rfl
    rotate_left
    · simp only [Act.put, List.setIfInBounds_toArray, List.set_cons_zero, List.set_cons_succ, i64_w, i32_w]
      rfl
    refine pure_ (i := 4) (N := some 22) (v := ?_) (a' := ?_) #[true, false, true, true, true, false, false] rfl rfl (by kernel_rfl) (fun _ _ _ h => h) (Or.inl ⟨by rfl, ?_⟩) ?_ ?_
    rotate_left
    · intro w'
      go_simp
      with_reducible rfl
    rotate_left
    · simp only [Act.put, List.setIfInBounds_toArray, List.set_cons_zero, List.set_cons_succ, i64_w, i32_w]
      rfl
    refine take_ (i := 1) (N := some 19) (v := ?_) (a' := ?_) #[true, true, true, true, true, false, false] rfl rfl (by kernel_rfl) (fun _ _ _ h => h) (Or.inl ⟨by rfl, ?_⟩) hHeld ?_ ?_
    rotate_left
    · rintro w' ⟨s0, s1⟩
      go_simp
      with_reducible rfl
    rotate_left
    · simp only [Act.put, List.setIfInBounds_toArray, List.set_cons_zero, List.set_cons_succ, i64_w, i32_w]
      rfl
    refine take_ (i := 5) (N := some 23) (v := ?_) (a' := ?_) #[true, true, true, true, true, true, false] rfl rfl (by kernel_rfl) (fun _ _ _ h => h) (Or.inl ⟨by rfl, ?_⟩) hHeld ?_ ?_
    rotate_left
    · rintro w' ⟨s0, s1⟩
      go_simp
      with_reducible rfl
    rotate_left
    · simp only [Act.put, List.setIfInBounds_toArray, List.set_cons_zero, List.set_cons_succ, i64_w, i32_w]
      rfl
    refine pure_ (i := 6) (N := some 24) (v := ?_) (a' := ?_) #[true, true, true, true, true, true, true] rfl rfl (by kernel_rfl) (fun _ _ _ h => h) (Or.inl ⟨by rfl, ?_⟩) ?_ ?_
    rotate_left
    · intro w'
      go_simp
      with_reducible rfl
    rotate_left
    · simp only [Act.put, List.setIfInBounds_toArray, List.set_cons_zero, List.set_cons_succ, i64_w, i32_w]
      rfl
    refine done_ (by kernel_rfl) ?_
    clear cg x0
    have H3 := Aside0.mk (H2.out.below (below_drew1 (Below.refl w2.heap.size w2)))
    have X3 := Aside0.mk (blk_drew X2.out)
    have B3 := Aside0.mk (show Below w.heap.size w w2.drew from below_step B2.out (below_drew1 (Below.refl w2.heap.size w2)))
    obtain ⟨w3, hw3⟩ : ∃ w3, w2.drew = w3 := ⟨_, rfl⟩
    rw [hw3] at H3 X3 B3
    rw [hw3]
    clear hw3 H2 X2 B2
    by_cases hg : gv < ack
    · have ER : Aside0 (r = (L, [], some 14)) := ⟨by rw [← HE.out, if_neg (by rw [EM.out]; decide), if_pos (by rw [GV.out]; exact hg)]⟩
      go_wp2
      go_ret2
      rw [ER.out]
      exact ⟨⟨_, [], D, rfl, H3.out, fun k hk => .inl hk, no_msgs _ _, rfl, no_off _, no_on _ _⟩, (Frame.of_below B3.out).mono (fun _ h => h.elim)⟩
    · have EG : Aside0 (ack ≤ L.given) := ⟨by rw [GV.out]; exact Int.not_lt.1 hg⟩
      have x0 := (blk_cell X3.out 0).trans (show (⟨Pk.cells ⟨ack, num, last, A, c, b⟩⟩ : Array Value)[0]? = some (.int .i64 ack) from rfl)
      go_wp2_with (go_at_call 30; refine stop_here ?_)
      refine ⟨?_⟩
      refine (acked_calls w3 base g D L ack H3.out HQ.out).mono ?_
      rintro e w4 ⟨rfl, ⟨D1, hL, hD⟩, hF⟩
      have F4 := Aside0.mk (((Frame.of_below B3.out).mono (S' := D) (fun _ h => h.elim)).trans hF (fun k e => .inl e))
      have NQD := Aside0.mk (show ¬ D q from fun h => by have := HDOM.out q h; have := NQ.out; omega)
      have X4 := Aside0.mk (hF.blk X3.out NQD.out)
      have NQ1 : Aside0 (¬ D1 q) := ⟨fun h => (hD q h).elim NQD.out (fun h => by have := blk_lt X3.out; omega)⟩
      have D0 := Aside0.mk (show ∀ k, D1 k → D k ∨ w.heap.size ≤ k from fun k hk => (hD k hk).elim .inl (fun h => .inr (Nat.le_trans B3.out.size h)))
      have H4 := Aside0.mk hL
      clear hL hD hF H3 X3 B3 x0
      have x1 := (blk_cell X4.out 1).trans (show (⟨Pk.cells ⟨ack, num, last, A, c, b⟩⟩ : Array Value)[1]? = some (.int .i64 num) from rfl)
      have EH : Aside0 (r = if num = 0 then (ackS L ack, [], none) else drainS (keepS { ackS L ack with owes := true } ⟨ack, num, last, b⟩)) := ⟨by rw [← HE.out, if_neg (by rw [EM.out]; decide), if_neg (Int.not_lt.2 EG.out)]⟩
      by_cases hz : num = 0
      · have ER : Aside0 (r = (ackS L ack, [], none)) := ⟨by rw [EH.out, if_pos hz]⟩
        subst hz
        go_wp2
        go_ret2
        rw [ER.out]
        exact ⟨⟨_, [], D1, rfl, H4.out, D0.out, no_msgs _ _, rfl, no_off _, no_on _ _⟩, F4.out⟩
      · obtain ⟨L1, hL1⟩ : ∃ L1, ackS L ack = L1 := ⟨_, rfl⟩
        have EL := Aside0.mk hL1
        rw [hL1] at H4
        clear hL1
        obtain ⟨L2, hL2⟩ : ∃ L2 : LS, { L1 with owes := true } = L2 := ⟨_, rfl⟩
        have EL2 := Aside0.mk hL2
        have E2 : Aside0 (r = drainS (keepS L2 ⟨ack, num, last, b⟩)) := ⟨by rw [EH.out, if_neg hz, EL.out, EL2.out]⟩
        have BD : Aside0 (L2.coming.length ≤ 1000000 ∧ (∀ p ∈ L2.kept, p.f3.length ≤ 1000000) ∧ 0 ≤ L2.await ∧ L2.kept.length ≤ 100000 ∧ L2.await + L2.kept.length ≤ 4611686018427387904) := ⟨by
          obtain ⟨b1, b2, b3, b4, b5⟩ := B0.out
          rw [← EL2.out, ← EL.out]
          show (ackS L ack).coming.length ≤ _ ∧ (∀ p ∈ (ackS L ack).kept, _) ∧ 0 ≤ (ackS L ack).await ∧ (ackS L ack).kept.length ≤ _ ∧ (ackS L ack).await + ((ackS L ack).kept.length : Int) ≤ _
          rw [ackS_coming, ackS_kept, ackS_await]
          exact ⟨b1, b2, b3, by omega, by omega⟩⟩
        have BK : Aside0 (L2.kept.length ≤ 90000 ∧ L2.await ≤ 2305843009213693952) := ⟨by
          obtain ⟨b1, b2, b3, b4, b5⟩ := B0.out
          rw [← EL2.out, ← EL.out]
          show (ackS L ack).kept.length ≤ _ ∧ (ackS L ack).await ≤ _
          rw [ackS_kept, ackS_await]
          exact ⟨b4, b5⟩⟩
        have z0 : (num == 0) = false := by simpa using hz
        obtain ⟨vq, mb, cv, qs, ks, hI, hD1⟩ := H4.out
        have I4 := Aside0.mk hI
        have HD1 := Aside0.mk hD1
        clear hI hD1 H4
        have c7 := (blk_cell I4.out.blk 7).trans (show (⟨lineCells vq mb cv L1⟩ : Array Value)[7]? = some (.bool L1.owes) from rfl)
        have f7 := blk_frozen I4.out.blk 7
        clear hL2
        go_upto_region 10 with (fail)
        clear c7 f7 x1 z0
        have FS := Aside0.mk (Frame.of_set w4 g 7 (.bool true))
        have I5 := Aside0.mk (I4.out.upd (L' := { L1 with owes := true }) FS.out ((blk_set I4.out.blk 7 _).trans rfl) rfl rfl rfl)
        have X5 := Aside0.mk (FS.out.blk X4.out (fun e => NQ1.out (by have e' : q = g := e; rw [e']; exact (HD1.out g).2 (.inl rfl))))
        have F5 := Aside0.mk (F4.out.trans FS.out (fun k e => D0.out k (by have e' : k = g := e; rw [e']; exact (HD1.out g).2 (.inl rfl))))
        obtain ⟨w5, hw5⟩ : ∃ w5, w4.setCell ⟨g, 7, none⟩ (.bool true) = w5 := ⟨_, rfl⟩
        rw [hw5] at I5 X5 F5
        rw [hw5]
        rw [EL2.out] at I5
        clear hw5 FS I4 X4 F4
        have c3 := (blk_cell I5.out.blk 3).trans (show (⟨lineCells vq mb cv L2⟩ : Array Value)[3]? = some (.map (some mb)) from rfl)
        have x1 := (blk_cell X5.out 1).trans (show (⟨Pk.cells ⟨ack, num, last, A, c, b⟩⟩ : Array Value)[1]? = some (.int .i64 num) from rfl)
        have cm := I5.out.map
        have hlk : ∃ (pk : Pk) (ok : Bool), (∀ W : World, MapIs W mb ks → (Instr.lookup 62 (.map (some mb)) (.int .i64 num) true).run Tryd.prog W = .ok (.tuple #[.agg ⟨pk.cells⟩, .bool ok]) W) ∧ (fnd num ks).isSome = ok := ⟨_, _, fun W hW => run_lookup hW num, rfl⟩
        obtain ⟨pk, ok, lk, hok⟩ := hlk
        have HOK := Aside0.mk hok
        clear hok
        have I6 := Aside0.mk (I5.out.below (below_drew1 (Below.refl w5.heap.size w5)))
        have X6 := Aside0.mk (blk_drew X5.out)
        have F6 := Aside0.mk (F5.out.trans (Frame.of_drewN w5 1 D) (fun k e => .inl e))
        have DB := Aside0.mk (show ∀ k, D1 k → k < w5.heap.size from fun k hk => (I5.out.ge k ((HD1.out k).1 hk)).2)
        have WS5 := Aside0.mk (show w.heap.size ≤ w5.heap.size from F5.out.size)
        have QL5 := Aside0.mk (show q < w5.heap.size from blk_lt X5.out)
        refine start_ (n := 13) (S := fun w' => w'.cell? ⟨g, 3, none⟩ = some (.map (some mb)) ∧ w'.cell? ⟨q, 1, none⟩ = some (.int .i64 num) ∧ MapIs w' mb ks) (ds := []) #[false, false, false, false, false, false, false, false, false, false, false, false, false] (by kernel_rfl) rfl rfl ⟨c3, x1, cm.below (below_drew1 (Below.refl w5.heap.size w5))⟩ (fun hHeld => ?_)
        refine pure_ (i := 0) (N := some 37) (v := ?_) (a' := ?_) #[true, false, false, false, false, false, false, false, false, false, false, false, false] rfl rfl (by kernel_rfl) (fun _ _ _ h => h) (Or.inl ⟨by rfl, ?_⟩) ?_ ?_
        rotate_left
        · intro w'
          go_simp
          with_reducible rfl
        rotate_left
        · simp only [Act.put, List.setIfInBounds_toArray, List.set_cons_zero, List.set_cons_succ, i64_w, i32_w]
          rfl
        refine pure_ (i := 1) (N := some 38) (v := ?_) (a' := ?_) #[true, true, false, false, false, false, false, false, false, false, false, false, false] rfl rfl (by kernel_rfl) (fun _ _ _ h => h) (Or.inl ⟨by rfl, ?_⟩) ?_ ?_
        rotate_left
        · intro w'
          go_simp
          with_reducible rfl
        rotate_left
        · simp only [Act.put, List.setIfInBounds_toArray, List.set_cons_zero, List.set_cons_succ, i64_w, i32_w]
          rfl
        refine pure_ (i := 2) (N := some 39) (v := ?_) (a' := ?_) #[true, true, true, false, false, false, false, false, false, false, false, false, false] rfl rfl (by kernel_rfl) (fun _ _ _ h => h) (Or.inl ⟨by rfl, ?_⟩) ?_ ?_
        rotate_left
        · intro w'
          go_simp
          with_reducible rfl
        rotate_left
        · simp only [Act.put, List.setIfInBounds_toArray, List.set_cons_zero, List.set_cons_succ, i64_w, i32_w]
          rfl
        refine pure_ (i := 4) (N := some 41) (v := ?_) (a' := ?_) #[true, true, true, false, true, false, false, false, false, false, false, false, false] rfl rfl (by kernel_rfl) (fun _ _ _ h => h) (Or.inl ⟨by rfl, ?_⟩) ?_ ?_
        rotate_left
        · intro w'
          go_simp
          with_reducible rfl
        rotate_left
        · simp only [Act.put, List.setIfInBounds_toArray, List.set_cons_zero, List.set_cons_succ, i64_w, i32_w]
          rfl
        refine take_ (i := 3) (N := some 40) (v := ?_) (a' := ?_) #[true, true, true, true, true, false, false, false, false, false, false, false, false] rfl rfl (by kernel_rfl) (fun _ _ _ h => h) (Or.inl ⟨by rfl, ?_⟩) hHeld ?_ ?_
        rotate_left
        · rintro w' ⟨s0, s1, s2⟩
          go_simp
          with_reducible rfl
        rotate_left
        · simp only [Act.put, List.setIfInBounds_toArray, List.set_cons_zero, List.set_cons_succ, i64_w, i32_w]
          rfl
        refine take_ (i := 5) (N := some 42) (v := ?_) (a' := ?_) #[true, true, true, true, true, true, false, false, false, false, false, false, false] rfl rfl (by kernel_rfl) (fun _ _ _ h => h) (Or.inl ⟨by rfl, ?_⟩) hHeld ?_ ?_
        rotate_left
        · rintro w' ⟨s0, s1, s2⟩
          go_simp
          with_reducible rfl
        rotate_left
        · simp only [Act.put, List.setIfInBounds_toArray, List.set_cons_zero, List.set_cons_succ, i64_w, i32_w]
          rfl
        refine take_ (i := 6) (N := some 43) (v := ?_) (a' := ?_) #[true, true, true, true, true, true, true, false, false, false, false, false, false] rfl rfl (by kernel_rfl) (fun _ _ _ h => h) (Or.inl ⟨by rfl, ?_⟩) hHeld ?_ ?_
        rotate_left
        · rintro w' ⟨s0, s1, s2⟩
          go_simp
          with_reducible rfl
        rotate_left
        · simp only [Act.put, List.setIfInBounds_toArray, List.set_cons_zero, List.set_cons_succ, i64_w, i32_w]
          rfl
        refine pure_ (i := 7) (N := some 36) (v := ?_) (a' := ?_) #[true, true, true, true, true, true, true, true, false, false, false, false, false] rfl rfl (by kernel_rfl) (fun _ _ _ h => h) (Or.inl ⟨by rfl, ?_⟩) ?_ ?_
        rotate_left
        · intro w'
          go_simp
          with_reducible rfl
        rotate_left
        · simp only [Act.put, List.setIfInBounds_toArray, List.set_cons_zero, List.set_cons_succ, i64_w, i32_w]
          rfl
        refine pure_ (i := 8) (N := some 44) (v := ?_) (a' := ?_) #[true, true, true, true, true, true, true, true, true, false, false, false, false] rfl rfl (by kernel_rfl) (fun _ _ _ h => h) (Or.inl ⟨by rfl, ?_⟩) ?_ ?_
        rotate_left
        · intro w'
          go_simp
          with_reducible rfl
        rotate_left
        · simp only [Act.put, List.setIfInBounds_toArray, List.set_cons_zero, List.set_cons_succ, i64_w, i32_w]
          rfl
        refine pure_ (i := 9) (N := some 45) (v := ?_) (a' := ?_) #[true, true, true, true, true, true, true, true, true, true, false, false, false] rfl rfl (by kernel_rfl) (fun _ _ _ h => h) (Or.inl ⟨by rfl, ?_⟩) ?_ ?_
        rotate_left
        · intro w'
          go_simp
          with_reducible rfl
        rotate_left
        · simp only [Act.put, List.setIfInBounds_toArray, List.set_cons_zero, List.set_cons_succ, i64_w, i32_w]
          rfl
        refine one_ (i := 10) (N := some 8) #[true, true, true, true, true, true, true, true, true, true, true, false, false] rfl rfl (by kernel_rfl) (by decide) (fun K hK => ?_)
        refine box_step (by rfl) (N := 8) rfl (cs := ⟨pk0.cells⟩) (t := 37) ?hr8 ?_
        case hr8 => first | (go_simp; done) | (go_simp; rfl)
        intro q8 hq8 w7 hbox hb
        have Y7 := Aside0.mk hbox
        have NY := Aside0.mk (show w5.heap.size ≤ q8 by rw [hq8]; exact Nat.le_refl _)
        have I7 := Aside0.mk (I6.out.below hb)
        have X7 := Aside0.mk (blk_below X6.out hb)
        have F7 := Aside0.mk (F6.out.trans (Frame.of_below hb) (fun _ h => h.elim))
        clear hq8 hbox hb
        refine hK.out _ _ ⟨(blk_cell I7.out.blk 3).trans rfl, (blk_cell X7.out 1).trans rfl, I7.out.map⟩ (fun hHeld => ?_)
        clear hK K
        refine norm_ (a' := ?_) ?_ ?_
        rotate_left
        · show Act.put _ (some 8) _ = _
          simp only [Act.put, List.setIfInBounds_toArray, List.set_cons_zero, List.set_cons_succ, i64_w, i32_w]
          rfl
        refine one_ (i := 11) (N := none) #[true, true, true, true, true, true, true, true, true, true, true, true, false] rfl rfl (by kernel_rfl) (by decide) (fun K hK => ?_)
        refine mid_step (by rfl) rfl 37 (.tmp 8) (.tmp 44) (by rfl) q8 0 ⟨pk.cells⟩ (by rfl) (by rfl) (by have h := box_there Y7.out; exact h) rfl (pk_all _) ?_
        have FS := Aside0.mk (Frame.of_setCells w7 q8 0 pk.cells)
        have I8 := Aside0.mk (I7.out.keep FS.out (fun k hk e => by have h1 := DB.out k ((HD1.out k).2 hk); have h2 := NY.out; have e' : k = q8 := e; omega))
        have X8 := Aside0.mk (FS.out.blk X7.out (fun e => by have h1 := QL5.out; have h2 := NY.out; have e' : q = q8 := e; omega))
        have F8 := Aside0.mk (F7.out.trans FS.out (fun k e => .inr (by have h2 := NY.out; have h3 := WS5.out; have e' : k = q8 := e; omega)))
        refine hK.out _ _ ⟨(blk_cell I8.out.blk 3).trans rfl, (blk_cell X8.out 1).trans rfl, I8.out.map⟩ (fun hHeld => ?_)
        clear hK K
        refine pure_ (i := 12) (N := some 9) (v := ?_) (a' := ?_) #[true, true, true, true, true, true, true, true, true, true, true, true, true] rfl rfl (by kernel_rfl) (fun _ _ _ h => h) (Or.inl ⟨by rfl, ?_⟩) ?_ ?_
        rotate_left
        · intro w'
          go_simp
          with_reducible rfl
        rotate_left
        · simp only [Act.put, List.setIfInBounds_toArray, List.set_cons_zero, List.set_cons_succ, i64_w, i32_w]
          rfl
        refine done_ (by kernel_rfl) ?_
        obtain ⟨w8, hw8⟩ : ∃ w8, w7.setCells q8 0 pk.cells = w8 := ⟨_, rfl⟩
        have e8 : w7.setCells q8 0 (⟨pk.cells⟩ : Array Value).toList = w8 := hw8
        try rw [e8]
        try rw [hw8]
        rw [hw8] at X8 I8 F8
        clear hw8 e8 FS Y7 I7 X7 F7 I6 X6 F6 I5 X5 F5 lk c3 x1 cm
        obtain ⟨aw, haw⟩ : ∃ aw, L2.await = aw := ⟨_, rfl⟩
        have HAW := Aside0.mk haw
        have aw0 : 0 ≤ aw := by rw [← haw]; exact BD.out.2.2.1
        have aw1 : aw ≤ 2305843009213693952 := by rw [← haw]; exact BK.out.2
        have c2 := (blk_cell I8.out.blk 2).trans (show (⟨lineCells vq mb cv L2⟩ : Array Value)[2]? = some (.int .i64 aw) from by rw [← haw]; rfl)
        have x1 := (blk_cell X8.out 1).trans (show (⟨Pk.cells ⟨ack, num, last, A, c, b⟩⟩ : Array Value)[1]? = some (.int .i64 num) from rfl)
        clear haw
        go_upto_region 11 with (fail)
        have I9 := Aside0.mk (I8.out.below (below_drew1 (Below.refl w8.heap.size w8)))
        have X9 := Aside0.mk (blk_drew X8.out)
        have F9 := Aside0.mk (show Frame w w8.drew D from F8.out.trans (Frame.of_drewN w8 1 D) (fun k e => .inl e))
        have H9 := Aside0.mk (show LineAt w8.drew base g D1 L2 from ⟨vq, mb, cv, qs, ks, I9.out, HD1.out⟩)
        have KF := Aside0.mk (show fndS num L2.kept = fnd num ks by rw [← I8.out.kept, fnd_say])
        cases ok with
        | true =>
          have EK : Aside0 (r = drainS L2) := ⟨by
            rw [E2.out]
            unfold keepS
            rw [if_neg (fun h => by
              have h1 := h.1
              rw [show (⟨ack, num, last, b⟩ : P4).f1 = num from rfl, KF.out] at h1
              have h2 := HOK.out
              rw [h1] at h2
              cases h2)]⟩
          refine start_ (n := 21) (S := fun w' => True) (ds := []) #[false, false, false, false, false, false, false, false, false, false, false, false, false, false, false, false, false, false, false, false, false] (by kernel_rfl) rfl rfl trivial (fun hHeld => ?_)
          refine pure_ (i := 0) (N := some 46) (v := ?_) (a' := ?_) #[true, false, false, false, false, false, false, false, false, false, false, false, false, false, false, false, false, false, false, false, false] rfl rfl (by kernel_rfl) (fun _ _ _ h => h) (Or.inl ⟨by rfl, ?_⟩) ?_ ?_
          rotate_left
          · intro w'
            go_simp
            with_reducible rfl
          rotate_left
          · simp only [Act.put, List.setIfInBounds_toArray, List.set_cons_zero, List.set_cons_succ, i64_w, i32_w]
            rfl
          refine pure_ (i := 1) (N := some 47) (v := ?_) (a' := ?_) #[true, true, false, false, false, false, false, false, false, false, false, false, false, false, false, false, false, false, false, false, false] rfl rfl (by kernel_rfl) (fun _ _ _ h => h) (Or.inl ⟨by rfl, ?_⟩) ?_ ?_
          rotate_left
          · intro w'
            go_simp
            with_reducible rfl
          rotate_left
          · simp only [Act.put, List.setIfInBounds_toArray, List.set_cons_zero, List.set_cons_succ, i64_w, i32_w]
            rfl
          refine pure_ (i := 2) (N := some 48) (v := ?_) (a' := ?_) #[true, true, true, false, false, false, false, false, false, false, false, false, false, false, false, false, false, false, false, false, false] rfl rfl (by kernel_rfl) (fun _ _ _ h => h) (Or.inl ⟨by rfl, ?_⟩) ?_ ?_
          rotate_left
          · intro w'
            go_simp
            with_reducible rfl
          rotate_left
          · simp only [Act.put, List.setIfInBounds_toArray, List.set_cons_zero, List.set_cons_succ, i64_w, i32_w]
            rfl
          refine pure_ (i := 3) (N := some 49) (v := undef) (a' := ?_) #[true, true, true, true, false, false, false, false, false, false, false, false, false, false, false, false, false, false, false, false, false] rfl rfl (by kernel_rfl) (fun _ _ _ h => h) (Or.inr ⟨by rfl, rfl⟩) ?_ ?_
          rotate_left
          · simp only [Act.put, List.setIfInBounds_toArray, List.set_cons_zero, List.set_cons_succ, i64_w, i32_w]
            rfl
          refine pure_ (i := 4) (N := some 50) (v := undef) (a' := ?_) #[true, true, true, true, true, false, false, false, false, false, false, false, false, false, false, false, false, false, false, false, false] rfl rfl (by kernel_rfl) (fun _ _ _ h => h) (Or.inr ⟨by rfl, rfl⟩) ?_ ?_
          rotate_left
          · simp only [Act.put, List.setIfInBounds_toArray, List.set_cons_zero, List.set_cons_succ, i64_w, i32_w]
            rfl
          refine pure_ (i := 5) (N := some 51) (v := undef) (a' := ?_) #[true, true, true, true, true, true, false, false, false, false, false, false, false, false, false, false, false, false, false, false, false] rfl rfl (by kernel_rfl) (fun _ _ _ h => h) (Or.inr ⟨by rfl, rfl⟩) ?_ ?_
          rotate_left
          · simp only [Act.put, List.setIfInBounds_toArray, List.set_cons_zero, List.set_cons_succ, i64_w, i32_w]
            rfl
          refine pure_ (i := 6) (N := some 52) (v := undef) (a' := ?_) #[true, true, true, true, true, true, true, false, false, false, false, false, false, false, false, false, false, false, false, false, false] rfl rfl (by kernel_rfl) (fun _ _ _ h => h) (Or.inr ⟨by rfl, rfl⟩) ?_ ?_
          rotate_left
          · simp only [Act.put, List.setIfInBounds_toArray, List.set_cons_zero, List.set_cons_succ, i64_w, i32_w]
            rfl
          refine pure_ (i := 7) (N := some 53) (v := undef) (a' := ?_) #[true, true, true, true, true, true, true, true, false, false, false, false, false, false, false, false, false, false, false, false, false] rfl rfl (by kernel_rfl) (fun _ _ _ h => h) (Or.inr ⟨by rfl, rfl⟩) ?_ ?_
          rotate_left
          · simp only [Act.put, List.setIfInBounds_toArray, List.set_cons_zero, List.set_cons_succ, i64_w, i32_w]
            rfl
          refine pure_ (i := 8) (N := some 54) (v := undef) (a' := ?_) #[true, true, true, true, true, true, true, true, true, false, false, false, false, false, false, false, false, false, false, false, false] rfl rfl (by kernel_rfl) (fun _ _ _ h => h) (Or.inr ⟨by rfl, rfl⟩) ?_ ?_
          rotate_left
          · simp only [Act.put, List.setIfInBounds_toArray, List.set_cons_zero, List.set_cons_succ, i64_w, i32_w]
            rfl
          refine pure_ (i := 9) (N := some 55) (v := undef) (a' := ?_) #[true, true, true, true, true, true, true, true, true, true, false, false, false, false, false, false, false, false, false, false, false] rfl rfl (by kernel_rfl) (fun _ _ _ h => h) (Or.inr ⟨by rfl, rfl⟩) ?_ ?_
          rotate_left
          · simp only [Act.put, List.setIfInBounds_toArray, List.set_cons_zero, List.set_cons_succ, i64_w, i32_w]
            rfl
          refine pure_ (i := 10) (N := some 56) (v := ?_) (a' := ?_) #[true, true, true, true, true, true, true, true, true, true, true, false, false, false, false, false, false, false, false, false, false] rfl rfl (by kernel_rfl) (fun _ _ _ h => h) (Or.inl ⟨by rfl, ?_⟩) ?_ ?_
          rotate_left
          · intro w'
            go_simp
            with_reducible rfl
          rotate_left
          · simp only [Act.put, List.setIfInBounds_toArray, List.set_cons_zero, List.set_cons_succ, i64_w, i32_w]
            rfl
          refine pure_ (i := 11) (N := some 57) (v := ?_) (a' := ?_) #[true, true, true, true, true, true, true, true, true, true, true, true, false, false, false, false, false, false, false, false, false] rfl rfl (by kernel_rfl) (fun _ _ _ h => h) (Or.inl ⟨by rfl, ?_⟩) ?_ ?_
          rotate_left
          · intro w'
            go_simp
            with_reducible rfl
          rotate_left
          · simp only [Act.put, List.setIfInBounds_toArray, List.set_cons_zero, List.set_cons_succ, i64_w, i32_w]
            rfl
          refine pure_ (i := 12) (N := some 58) (v := undef) (a' := ?_) #[true, true, true, true, true, true, true, true, true, true, true, true, true, false, false, false, false, false, false, false, false] rfl rfl (by kernel_rfl) (fun _ _ _ h => h) (Or.inr ⟨by rfl, rfl⟩) ?_ ?_
          rotate_left
          · simp only [Act.put, List.setIfInBounds_toArray, List.set_cons_zero, List.set_cons_succ, i64_w, i32_w]
            rfl
          refine pure_ (i := 13) (N := some 59) (v := undef) (a' := ?_) #[true, true, true, true, true, true, true, true, true, true, true, true, true, true, false, false, false, false, false, false, false] rfl rfl (by kernel_rfl) (fun _ _ _ h => h) (Or.inr ⟨by rfl, rfl⟩) ?_ ?_
          rotate_left
          · simp only [Act.put, List.setIfInBounds_toArray, List.set_cons_zero, List.set_cons_succ, i64_w, i32_w]
            rfl
          refine pure_ (i := 14) (N := some 60) (v := undef) (a' := ?_) #[true, true, true, true, true, true, true, true, true, true, true, true, true, true, true, false, false, false, false, false, false] rfl rfl (by kernel_rfl) (fun _ _ _ h => h) (Or.inr ⟨by rfl, rfl⟩) ?_ ?_
          rotate_left
          · simp only [Act.put, List.setIfInBounds_toArray, List.set_cons_zero, List.set_cons_succ, i64_w, i32_w]
            rfl
          refine pure_ (i := 15) (N := some 61) (v := undef) (a' := ?_) #[true, true, true, true, true, true, true, true, true, true, true, true, true, true, true, true, false, false, false, false, false] rfl rfl (by kernel_rfl) (fun _ _ _ h => h) (Or.inr ⟨by rfl, rfl⟩) ?_ ?_
          rotate_left
          · simp only [Act.put, List.setIfInBounds_toArray, List.set_cons_zero, List.set_cons_succ, i64_w, i32_w]
            rfl
          refine pure_ (i := 16) (N := some 62) (v := undef) (a' := ?_) #[true, true, true, true, true, true, true, true, true, true, true, true, true, true, true, true, true, false, false, false, false] rfl rfl (by kernel_rfl) (fun _ _ _ h => h) (Or.inr ⟨by rfl, rfl⟩) ?_ ?_
          rotate_left
          · simp only [Act.put, List.setIfInBounds_toArray, List.set_cons_zero, List.set_cons_succ, i64_w, i32_w]
            rfl
          refine pure_ (i := 17) (N := some 63) (v := undef) (a' := ?_) #[true, true, true, true, true, true, true, true, true, true, true, true, true, true, true, true, true, true, false, false, false] rfl rfl (by kernel_rfl) (fun _ _ _ h => h) (Or.inr ⟨by rfl, rfl⟩) ?_ ?_
          rotate_left
          · simp only [Act.put, List.setIfInBounds_toArray, List.set_cons_zero, List.set_cons_succ, i64_w, i32_w]
            rfl
          refine pure_ (i := 18) (N := some 64) (v := undef) (a' := ?_) #[true, true, true, true, true, true, true, true, true, true, true, true, true, true, true, true, true, true, true, false, false] rfl rfl (by kernel_rfl) (fun _ _ _ h => h) (Or.inr ⟨by rfl, rfl⟩) ?_ ?_
          rotate_left
          · simp only [Act.put, List.setIfInBounds_toArray, List.set_cons_zero, List.set_cons_succ, i64_w, i32_w]
            rfl
          refine pure_ (i := 19) (N := some 65) (v := undef) (a' := ?_) #[true, true, true, true, true, true, true, true, true, true, true, true, true, true, true, true, true, true, true, true, false] rfl rfl (by kernel_rfl) (fun _ _ _ h => h) (Or.inr ⟨by rfl, rfl⟩) ?_ ?_
          rotate_left
          · simp only [Act.put, List.setIfInBounds_toArray, List.set_cons_zero, List.set_cons_succ, i64_w, i32_w]
            rfl
          refine pure_ (i := 20) (N := some 66) (v := ?_) (a' := ?_) #[true, true, true, true, true, true, true, true, true, true, true, true, true, true, true, true, true, true, true, true, true] rfl rfl (by kernel_rfl) (fun _ _ _ h => h) (Or.inl ⟨by rfl, ?_⟩) ?_ ?_
          rotate_left
          · intro w'
            go_simp
            with_reducible rfl
          rotate_left
          · simp only [Act.put, List.setIfInBounds_toArray, List.set_cons_zero, List.set_cons_succ, i64_w, i32_w]
            rfl
          refine done_ (by kernel_rfl) ?_
          clear c2 x1
          obtain ⟨w9, hw9⟩ : ∃ w9, w8.drew = w9 := ⟨_, rfl⟩
          rw [hw9] at I9 X9 F9 H9
          rw [hw9]
          clear hw9 I8 X8 F8
          go_wp2_with (go_at_call 32; refine stop_here ?_)
          refine ⟨?_⟩
          refine (drain_calls w9 base g D1 L2 H9.out BD.out.1 BD.out.2.1 BD.out.2.2.1 BD.out.2.2.2.1 BD.out.2.2.2.2).mono ?_
          rintro e w20 ⟨⟨v, ms, D20, rfl, hL, hD, hM, hb, hO⟩, hF⟩
          go_wp2
          go_ret2
          rw [EK.out]
          exact ⟨⟨v, ms, D20, rfl, hL, fun k hk => (hD k hk).elim (D0.out k) (fun h => .inr (Nat.le_trans F9.out.size h)), hM, hb, hO.1, fun k hk => Nat.le_trans F9.out.size (hO.2.1 k hk), fun p hp ad ea => (hO.2.2 p hp ad ea).elim (D0.out _) (fun h => .inr (Nat.le_trans F9.out.size h))⟩, F9.out.trans hF (fun k e => D0.out k e)⟩
        | false =>
          have EN : Aside0 (fnd num ks = none) := ⟨by
            have h2 := HOK.out
            cases h : fnd num ks with
            | none => rfl
            | some j => rw [h] at h2; cases h2⟩
          by_cases hge : aw ≤ num
          · have t1 : decide (aw ≤ num) = true := decide_eq_true hge
            have w2' : wrap64 (aw + 8) = aw + 8 := by unfold wrap64; omega
            obtain ⟨lt, hlt⟩ : ∃ lt : Bool, decide (num < aw + 8) = lt := ⟨_, rfl⟩
            refine start_ (n := 21) (S := fun w' => w'.cell? ⟨g, 2, none⟩ = some (.int .i64 aw) ∧ w'.cell? ⟨q, 1, none⟩ = some (.int .i64 num)) (ds := []) #[false, false, false, false, false, false, false, false, false, false, false, false, false, false, false, false, false, false, false, false, false] (by kernel_rfl) rfl rfl ⟨c2, x1⟩ (fun hHeld => ?_)
            refine pure_ (i := 0) (N := some 46) (v := ?_) (a' := ?_) #[true, false, false, false, false, false, false, false, false, false, false, false, false, false, false, false, false, false, false, false, false] rfl rfl (by kernel_rfl) (fun _ _ _ h => h) (Or.inl ⟨by rfl, ?_⟩) ?_ ?_
            rotate_left
            · intro w'
              go_simp
              with_reducible rfl
            rotate_left
            · simp only [Act.put, List.setIfInBounds_toArray, List.set_cons_zero, List.set_cons_succ, i64_w, i32_w]
              rfl
            refine pure_ (i := 1) (N := some 47) (v := ?_) (a' := ?_) #[true, true, false, false, false, false, false, false, false, false, false, false, false, false, false, false, false, false, false, false, false] rfl rfl (by kernel_rfl) (fun _ _ _ h => h) (Or.inl ⟨by rfl, ?_⟩) ?_ ?_
            rotate_left
            · intro w'
              go_simp
              with_reducible rfl
            rotate_left
            · simp only [Act.put, List.setIfInBounds_toArray, List.set_cons_zero, List.set_cons_succ, i64_w, i32_w]
              rfl
            refine pure_ (i := 2) (N := some 48) (v := ?_) (a' := ?_) #[true, true, true, false, false, false, false, false, false, false, false, false, false, false, false, false, false, false, false, false, false] rfl rfl (by kernel_rfl) (fun _ _ _ h => h) (Or.inl ⟨by rfl, ?_⟩) ?_ ?_
            rotate_left
            · intro w'
              go_simp
              with_reducible rfl
            rotate_left
            · simp only [Act.put, List.setIfInBounds_toArray, List.set_cons_zero, List.set_cons_succ, i64_w, i32_w]
              rfl
            refine pure_ (i := 3) (N := some 49) (v := ?_) (a' := ?_) #[true, true, true, true, false, false, false, false, false, false, false, false, false, false, false, false, false, false, false, false, false] rfl rfl (by kernel_rfl) (fun _ _ _ h => h) (Or.inl ⟨by rfl, ?_⟩) ?_ ?_
            rotate_left
            · intro w'
              go_simp
              with_reducible rfl
            rotate_left
            · simp only [Act.put, List.setIfInBounds_toArray, List.set_cons_zero, List.set_cons_succ, i64_w, i32_w]
              rfl
            refine pure_ (i := 5) (N := some 51) (v := ?_) (a' := ?_) #[true, true, true, true, false, true, false, false, false, false, false, false, false, false, false, false, false, false, false, false, false] rfl rfl (by kernel_rfl) (fun _ _ _ h => h) (Or.inl ⟨by rfl, ?_⟩) ?_ ?_
            rotate_left
            · intro w'
              go_simp
              with_reducible rfl
            rotate_left
            · simp only [Act.put, List.setIfInBounds_toArray, List.set_cons_zero, List.set_cons_succ, i64_w, i32_w]
              rfl
            refine pure_ (i := 6) (N := some 52) (v := ?_) (a' := ?_) #[true, true, true, true, false, true, true, false, false, false, false, false, false, false, false, false, false, false, false, false, false] rfl rfl (by kernel_rfl) (fun _ _ _ h => h) (Or.inl ⟨by rfl, ?_⟩) ?_ ?_
            rotate_left
            · intro w'
              go_simp
              with_reducible rfl
            rotate_left
            · simp only [Act.put, List.setIfInBounds_toArray, List.set_cons_zero, List.set_cons_succ, i64_w, i32_w]
              rfl
            refine pure_ (i := 7) (N := some 53) (v := ?_) (a' := ?_) #[true, true, true, true, false, true, true, true, false, false, false, false, false, false, false, false, false, false, false, false, false] rfl rfl (by kernel_rfl) (fun _ _ _ h => h) (Or.inl ⟨by rfl, ?_⟩) ?_ ?_
            rotate_left
            · intro w'
              go_simp
              with_reducible rfl
            rotate_left
            · simp only [Act.put, List.setIfInBounds_toArray, List.set_cons_zero, List.set_cons_succ, i64_w, i32_w]
              rfl
            refine take_ (i := 4) (N := some 50) (v := ?_) (a' := ?_) #[true, true, true, true, true, true, true, true, false, false, false, false, false, false, false, false, false, false, false, false, false] rfl rfl (by kernel_rfl) (fun _ _ _ h => h) (Or.inl ⟨by rfl, ?_⟩) hHeld ?_ ?_
            rotate_left
            · rintro w' ⟨s0, s1⟩
              go_simp
              with_reducible rfl
            rotate_left
            · simp only [Act.put, List.setIfInBounds_toArray, List.set_cons_zero, List.set_cons_succ, i64_w, i32_w]
              rfl
            refine take_ (i := 8) (N := some 54) (v := ?_) (a' := ?_) #[true, true, true, true, true, true, true, true, true, false, false, false, false, false, false, false, false, false, false, false, false] rfl rfl (by kernel_rfl) (fun _ _ _ h => h) (Or.inl ⟨by rfl, ?_⟩) hHeld ?_ ?_
            rotate_left
            · rintro w' ⟨s0, s1⟩
              go_simp
              with_reducible rfl
            rotate_left
            · simp only [Act.put, List.setIfInBounds_toArray, List.set_cons_zero, List.set_cons_succ, i64_w, i32_w]
              rfl
            refine pure_ (i := 9) (N := some 55) (v := ?_) (a' := ?_) #[true, true, true, true, true, true, true, true, true, true, false, false, false, false, false, false, false, false, false, false, false] rfl rfl (by kernel_rfl) (fun _ _ _ h => h) (Or.inl ⟨by rfl, ?_⟩) ?_ ?_
            rotate_left
            · intro w'
              go_simp
              with_reducible rfl
            rotate_left
            · simp only [Act.put, List.setIfInBounds_toArray, List.set_cons_zero, List.set_cons_succ, i64_w, i32_w]
              rfl
            refine pure_ (i := 10) (N := some 56) (v := ?_) (a' := ?_) #[true, true, true, true, true, true, true, true, true, true, true, false, false, false, false, false, false, false, false, false, false] rfl rfl (by kernel_rfl) (fun _ _ _ h => h) (Or.inl ⟨by rfl, ?_⟩) ?_ ?_
            rotate_left
            · intro w'
              go_simp
              with_reducible rfl
            rotate_left
            · simp only [Act.put, List.setIfInBounds_toArray, List.set_cons_zero, List.set_cons_succ, i64_w, i32_w]
              rfl
            refine pure_ (i := 11) (N := some 57) (v := ?_) (a' := ?_) #[true, true, true, true, true, true, true, true, true, true, true, true, false, false, false, false, false, false, false, false, false] rfl rfl (by kernel_rfl) (fun _ _ _ h => h) (Or.inl ⟨by rfl, ?_⟩) ?_ ?_
            rotate_left
            · intro w'
              go_simp
              with_reducible rfl
            rotate_left
            · simp only [Act.put, List.setIfInBounds_toArray, List.set_cons_zero, List.set_cons_succ, i64_w, i32_w]
              rfl
            refine pure_ (i := 12) (N := some 58) (v := ?_) (a' := ?_) #[true, true, true, true, true, true, true, true, true, true, true, true, true, false, false, false, false, false, false, false, false] rfl rfl (by kernel_rfl) (fun _ _ _ h => h) (Or.inl ⟨by rfl, ?_⟩) ?_ ?_
            rotate_left
            · intro w'
              go_simp
              with_reducible rfl
            rotate_left
            · simp only [Act.put, List.setIfInBounds_toArray, List.set_cons_zero, List.set_cons_succ, i64_w, i32_w]
              rfl
            refine pure_ (i := 14) (N := some 60) (v := ?_) (a' := ?_) #[true, true, true, true, true, true, true, true, true, true, true, true, true, false, true, false, false, false, false, false, false] rfl rfl (by kernel_rfl) (fun _ _ _ h => h) (Or.inl ⟨by rfl, ?_⟩) ?_ ?_
            rotate_left
            · intro w'
              go_simp
              with_reducible rfl
            rotate_left
            · simp only [Act.put, List.setIfInBounds_toArray, List.set_cons_zero, List.set_cons_succ, i64_w, i32_w]
              rfl
            refine pure_ (i := 15) (N := some 61) (v := ?_) (a' := ?_) #[true, true, true, true, true, true, true, true, true, true, true, true, true, false, true, true, false, false, false, false, false] rfl rfl (by kernel_rfl) (fun _ _ _ h => h) (Or.inl ⟨by rfl, ?_⟩) ?_ ?_
            rotate_left
            · intro w'
              go_simp
              with_reducible rfl
            rotate_left
            · simp only [Act.put, List.setIfInBounds_toArray, List.set_cons_zero, List.set_cons_succ, i64_w, i32_w]
              rfl
            refine pure_ (i := 16) (N := some 62) (v := ?_) (a' := ?_) #[true, true, true, true, true, true, true, true, true, true, true, true, true, false, true, true, true, false, false, false, false] rfl rfl (by kernel_rfl) (fun _ _ _ h => h) (Or.inl ⟨by rfl, ?_⟩) ?_ ?_
            rotate_left
            · intro w'
              go_simp
              with_reducible rfl
            rotate_left
            · simp only [Act.put, List.setIfInBounds_toArray, List.set_cons_zero, List.set_cons_succ, i64_w, i32_w]
              rfl
            refine take_ (i := 13) (N := some 59) (v := ?_) (a' := ?_) #[true, true, true, true, true, true, true, true, true, true, true, true, true, true, true, true, true, false, false, false, false] rfl rfl (by kernel_rfl) (fun _ _ _ h => h) (Or.inl ⟨by rfl, ?_⟩) hHeld ?_ ?_
            rotate_left
            · rintro w' ⟨s0, s1⟩
              go_simp
              with_reducible rfl
            rotate_left
            · simp only [Act.put, List.setIfInBounds_toArray, List.set_cons_zero, List.set_cons_succ, i64_w, i32_w]
              rfl
            refine take_ (i := 17) (N := some 63) (v := ?_) (a' := ?_) #[true, true, true, true, true, true, true, true, true, true, true, true, true, true, true, true, true, true, false, false, false] rfl rfl (by kernel_rfl) (fun _ _ _ h => h) (Or.inl ⟨by rfl, ?_⟩) hHeld ?_ ?_
            rotate_left
            · rintro w' ⟨s0, s1⟩
              go_simp
              with_reducible rfl
            rotate_left
            · simp only [Act.put, List.setIfInBounds_toArray, List.set_cons_zero, List.set_cons_succ, i64_w, i32_w]
              rfl
            refine pure_ (i := 18) (N := some 64) (v := ?_) (a' := ?_) #[true, true, true, true, true, true, true, true, true, true, true, true, true, true, true, true, true, true, true, false, false] rfl rfl (by kernel_rfl) (fun _ _ _ h => h) (Or.inl ⟨by rfl, ?_⟩) ?_ ?_
            rotate_left
            · intro w'
              go_simp
              with_reducible rfl
            rotate_left
            · simp only [Act.put, List.setIfInBounds_toArray, List.set_cons_zero, List.set_cons_succ, i64_w, i32_w]
              rfl
            refine pure_ (i := 19) (N := some 65) (v := ?_) (a' := ?_) #[true, true, true, true, true, true, true, true, true, true, true, true, true, true, true, true, true, true, true, true, false] rfl rfl (by kernel_rfl) (fun _ _ _ h => h) (Or.inl ⟨by rfl, ?_⟩) ?_ ?_
            rotate_left
            · intro w'
              go_simp
              with_reducible rfl
            rotate_left
            · simp only [Act.put, List.setIfInBounds_toArray, List.set_cons_zero, List.set_cons_succ, i64_w, i32_w]
              rfl
            refine pure_ (i := 20) (N := some 66) (v := ?_) (a' := ?_) #[true, true, true, true, true, true, true, true, true, true, true, true, true, true, true, true, true, true, true, true, true] rfl rfl (by kernel_rfl) (fun _ _ _ h => h) (Or.inl ⟨by rfl, ?_⟩) ?_ ?_
            rotate_left
            · intro w'
              go_simp
              with_reducible rfl
            rotate_left
            · simp only [Act.put, List.setIfInBounds_toArray, List.set_cons_zero, List.set_cons_succ, i64_w, i32_w]
              rfl
            refine done_ (by kernel_rfl) ?_
            clear c2 x1 w2' t1
            have HLT := Aside0.mk hlt
            clear hlt
            obtain ⟨w9, hw9⟩ : ∃ w9, w8.drew = w9 := ⟨_, rfl⟩
            rw [hw9] at I9 X9 F9 H9
            rw [hw9]
            clear hw9 I8 X8 F8
            cases lt with
            | false =>
              have EK : Aside0 (r = drainS L2) := ⟨by
                rw [E2.out]
                unfold keepS
                rw [if_neg (fun h => by
                  have h1 := h.2.2
                  rw [HAW.out] at h1
                  exact of_decide_eq_false HLT.out h1)]⟩
              go_wp2_with (go_at_call 32; refine stop_here ?_)
              refine ⟨?_⟩
              refine (drain_calls w9 base g D1 L2 H9.out BD.out.1 BD.out.2.1 BD.out.2.2.1 BD.out.2.2.2.1 BD.out.2.2.2.2).mono ?_
              rintro e w20 ⟨⟨v, ms, D20, rfl, hL, hD, hM, hb, hO⟩, hF⟩
              go_wp2
              go_ret2
              rw [EK.out]
              exact ⟨⟨v, ms, D20, rfl, hL, fun k hk => (hD k hk).elim (D0.out k) (fun h => .inr (Nat.le_trans F9.out.size h)), hM, hb, hO.1, fun k hk => Nat.le_trans F9.out.size (hO.2.1 k hk), fun p hp ad ea => (hO.2.2 p hp ad ea).elim (D0.out _) (fun h => .inr (Nat.le_trans F9.out.size h))⟩, F9.out.trans hF (fun k e => D0.out k e)⟩
            | true =>
              have EK : Aside0 (r = drainS { L2 with kept := L2.kept ++ [(⟨ack, num, last, b⟩ : P4)] }) := ⟨by
                rw [E2.out]
                unfold keepS
                rw [if_pos ⟨KF.out.trans EN.out, by rw [HAW.out]; exact hge, by rw [HAW.out]; exact of_decide_eq_true HLT.out⟩]⟩
              have x3 := (blk_cell X9.out 3).trans (show (⟨Pk.cells ⟨ack, num, last, A, c, b⟩⟩ : Array Value)[3]? = some (.slice A b.length c) from rfl)
              go_wp2_with (go_at_call 31; refine stop_here ?_)
              refine ⟨?_⟩
              refine (slices_Clone_byte_byte.calls A c b b w9 (reads_bytes (P0.out.frame F9.out (fun h0 ad e => PD.out h0 ad e)) (by omega)) hpc' (clone_f b (by omega))).mono ?_
              rintro e w10 ⟨vb, rfl, hR, hb⟩
              obtain ⟨An, cn, rfl, hcn, hby, hty⟩ := bytes_of_row hR
              have K10 : Aside0 (PkOk w10 w9.heap.size ⟨ack, num, last, An, cn, b⟩) := ⟨⟨hby, hcn, fun ad e => ⟨(hty ad e).1, (hty ad e).2⟩⟩⟩
              have I10 := Aside0.mk (I9.out.below hb)
              have X10 := Aside0.mk (blk_below X9.out hb)
              have F10 := Aside0.mk (F9.out.trans (Frame.of_below hb) (fun _ h => h.elim))
              have S9 := Aside0.mk (show ∀ k, dom g mb vq cv (qs ++ ks) k → base ≤ k ∧ k < w9.heap.size from fun k hk => I9.out.ge k hk)
              have S9w := Aside0.mk (show w.heap.size ≤ w9.heap.size from F9.out.size)
              have QL9 := Aside0.mk (show q < w9.heap.size from blk_lt X9.out)
              clear hR hb hby hcn hty I9 X9 F9 H9 x3
              have x3 := (blk_cell X10.out 3).trans (show (⟨Pk.cells ⟨ack, num, last, A, c, b⟩⟩ : Array Value)[3]? = some (.slice A b.length c) from rfl)
              have fx := blk_frozen X10.out 3
              go_upto_region 13 with (fail)
              have FS := Aside0.mk (Frame.of_set w10 q 3 (.slice An b.length cn))
              have X11 := Aside0.mk ((blk_set X10.out 3 (.slice An b.length cn)).trans (show _ = some (Obj.cells ⟨Pk.cells ⟨ack, num, last, An, cn, b⟩⟩ 37 (0, 0)) from rfl))
              have K11 := Aside0.mk (K10.out.keep FS.out (fun ad e h => by have h1 := (K10.out.own ad e).1; have h2 := QL9.out; have h' : ad.block = q := h; omega))
              have I11 := Aside0.mk (I10.out.keep FS.out (fun k hk e => NQ1.out (by have e' : k = q := e; rw [← e']; exact (HD1.out k).2 hk)))
              have F11 := Aside0.mk (F10.out.trans FS.out (fun k e => .inr (by have h2 := NQ.out; have e' : k = q := e; omega)))
              obtain ⟨w11, hw11⟩ : ∃ w11, w10.setCell ⟨q, 3, none⟩ (.slice An b.length cn) = w11 := ⟨_, rfl⟩
              rw [hw11] at X11 K11 I11 F11
              rw [hw11]
              clear hw11 FS X10 K10 I10 F10 x3 fx
              have c3 := (blk_cell I11.out.blk 3).trans (show (⟨lineCells vq mb cv L2⟩ : Array Value)[3]? = some (.map (some mb)) from rfl)
              have x1 := (blk_cell X11.out 1).trans (show (⟨Pk.cells ⟨ack, num, last, An, cn, b⟩⟩ : Array Value)[1]? = some (.int .i64 num) from rfl)
              have xq : w11.rangeAt q 0 (Pk.cells ⟨ack, num, last, An, cn, b⟩) := row_range X11.out
              have I12 := Aside0.mk (I11.out.below (below_drew1 (Below.refl w11.heap.size w11)))
              have K12 := Aside0.mk (K11.out.below (below_drew1 (Below.refl w11.heap.size w11)))
              have F12 := Aside0.mk (F11.out.trans (Frame.of_drewN w11 1 D) (fun k e => .inl e))
              refine start_ (n := 8) (S := fun w' => w'.cell? ⟨g, 3, none⟩ = some (.map (some mb)) ∧ w'.cell? ⟨q, 1, none⟩ = some (.int .i64 num) ∧ w'.rangeAt q 0 (Pk.cells ⟨ack, num, last, An, cn, b⟩)) (ds := [7]) #[false, false, false, false, false, false, false, false] (by kernel_rfl) rfl rfl ⟨c3, x1, xq⟩ (fun hHeld => ?_)
              refine pure_ (i := 0) (N := some 71) (v := ?_) (a' := ?_) #[true, false, false, false, false, false, false, false] rfl rfl (by kernel_rfl) (fun _ _ _ h => h) (Or.inl ⟨by rfl, ?_⟩) ?_ ?_
              rotate_left
              · intro w'
                go_simp
                with_reducible rfl
              rotate_left
              · simp only [Act.put, List.setIfInBounds_toArray, List.set_cons_zero, List.set_cons_succ, i64_w, i32_w]
                rfl
              refine pure_ (i := 1) (N := some 72) (v := ?_) (a' := ?_) #[true, true, false, false, false, false, false, false] rfl rfl (by kernel_rfl) (fun _ _ _ h => h) (Or.inl ⟨by rfl, ?_⟩) ?_ ?_
              rotate_left
              · intro w'
                go_simp
                with_reducible rfl
              rotate_left
              · simp only [Act.put, List.setIfInBounds_toArray, List.set_cons_zero, List.set_cons_succ, i64_w, i32_w]
                rfl
              refine pure_ (i := 2) (N := some 73) (v := ?_) (a' := ?_) #[true, true, true, false, false, false, false, false] rfl rfl (by kernel_rfl) (fun _ _ _ h => h) (Or.inl ⟨by rfl, ?_⟩) ?_ ?_
              rotate_left
              · intro w'
                go_simp
                with_reducible rfl
              rotate_left
              · simp only [Act.put, List.setIfInBounds_toArray, List.set_cons_zero, List.set_cons_succ, i64_w, i32_w]
                rfl
              refine pure_ (i := 4) (N := some 75) (v := ?_) (a' := ?_) #[true, true, true, false, true, false, false, false] rfl rfl (by kernel_rfl) (fun _ _ _ h => h) (Or.inl ⟨by rfl, ?_⟩) ?_ ?_
              rotate_left
              · intro w'
                go_simp
                with_reducible rfl
              rotate_left
              · simp only [Act.put, List.setIfInBounds_toArray, List.set_cons_zero, List.set_cons_succ, i64_w, i32_w]
                rfl
              refine take_ (i := 3) (N := some 74) (v := ?_) (a' := ?_) #[true, true, true, true, true, false, false, false] rfl rfl (by kernel_rfl) (fun _ _ _ h => h) (Or.inl ⟨by rfl, ?_⟩) hHeld ?_ ?_
              rotate_left
              · rintro w' ⟨s0, s1, s2⟩
                go_simp
                with_reducible rfl
              rotate_left
              · simp only [Act.put, List.setIfInBounds_toArray, List.set_cons_zero, List.set_cons_succ, i64_w, i32_w]
                rfl
              refine take_ (i := 5) (N := some 76) (v := ?_) (a' := ?_) #[true, true, true, true, true, true, false, false] rfl rfl (by kernel_rfl) (fun _ _ _ h => h) (Or.inl ⟨by rfl, ?_⟩) hHeld ?_ ?_
              rotate_left
              · rintro w' ⟨s0, s1, s2⟩
                go_simp
                with_reducible rfl
              rotate_left
              · simp only [Act.put, List.setIfInBounds_toArray, List.set_cons_zero, List.set_cons_succ, i64_w, i32_w]
                rfl
              refine take_ (i := 6) (N := some 77) (v := ?_) (a' := ?_) #[true, true, true, true, true, true, true, false] rfl rfl (by kernel_rfl) (fun _ _ _ h => h) (Or.inl ⟨by rfl, ?_⟩) hHeld ?_ ?_
              rotate_left
              · rintro w' ⟨s0, s1, s2⟩
                refine (load_mid_run 37 (.tmp 3) ?q1 q 0 ?q2 (Pk.cells ⟨ack, num, last, An, cn, b⟩) _ s2 Tryd.underlying37 rfl rfl); rfl; rfl
              rotate_left
              · simp only [Act.put, List.setIfInBounds_toArray, List.set_cons_zero, List.set_cons_succ, i64_w, i32_w]
                rfl
              refine last_ (i := 7) (N := none) #[true, true, true, true, true, true, true, true] rfl rfl (by kernel_rfl) (by decide) (fun K hK => ?_)
              refine mapnew_step (p := ⟨ack, num, last, An, cn, b⟩) (by rfl) rfl (.tmp 74) (.tmp 76) (.tmp 77) (by rfl) (by rfl) (by rfl) (by rfl) I12.out.map EN.out ?_
              intro w13 hm hf
              have I13 := Aside0.mk (I12.out.keeps hm hf (K12.out.lower (by have h1 := S9.out g (.inl rfl); omega)) (fun ad ea e => by have h1 := (K12.out.own ad ea).1; have h2 := (S9.out ad.block (.inr (.inr (.inr (.inl e))))).2; omega))
              have F13 := Aside0.mk (F12.out.trans hf (fun k e => D0.out k (by have e' : k = mb := e; rw [e']; exact (HD1.out mb).2 (.inr (.inl rfl)))))
              clear hm hf
              refine hK.out _ _ ?_
              clear hK K
              refine done_ (by kernel_rfl) ?_
              have D13 := Aside0.mk (show ∀ k, dom g mb vq cv (qs ++ (ks ++ [(⟨ack, num, last, An, cn, b⟩ : Pk)])) k → D k ∨ w.heap.size ≤ k from fun k hk => by
                rcases hk with h | h | h | h | ⟨p, hp, ad, e, h⟩
                · exact D0.out k ((HD1.out k).2 (.inl h))
                · exact D0.out k ((HD1.out k).2 (.inr (.inl h)))
                · exact D0.out k ((HD1.out k).2 (.inr (.inr (.inl h))))
                · exact D0.out k ((HD1.out k).2 (.inr (.inr (.inr (.inl h)))))
                · rw [← List.append_assoc] at hp
                  rcases List.mem_append.1 hp with hp | hp
                  · exact D0.out k ((HD1.out k).2 (.inr (.inr (.inr (.inr ⟨p, hp, ad, e, h⟩)))))
                  · obtain rfl := List.mem_singleton.1 hp
                    have h1 := (K12.out.own ad e).1
                    exact .inr (by have := S9w.out; omega))
              have H13 := Aside0.mk (show LineAt w13 base g _ _ from ⟨vq, mb, cv, qs, _, I13.out, fun k => Iff.rfl⟩)
              have BD2 : Aside0 ((({ L2 with kept := L2.kept ++ [(⟨ack, num, last, b⟩ : P4)] } : LS)).coming.length ≤ 1000000 ∧ (∀ p ∈ L2.kept ++ [(⟨ack, num, last, b⟩ : P4)], p.f3.length ≤ 1000000) ∧ 0 ≤ L2.await ∧ (L2.kept ++ [(⟨ack, num, last, b⟩ : P4)]).length ≤ 100000 ∧ L2.await + ((L2.kept ++ [(⟨ack, num, last, b⟩ : P4)]).length : Int) ≤ 4611686018427387904) := ⟨by
                obtain ⟨b1, b2, b3, b4, b5⟩ := BD.out
                obtain ⟨k1, k2⟩ := BK.out
                refine ⟨b1, fun p hp => ?_, b3, by rw [List.length_append]; show _ + 1 ≤ _; omega, by rw [List.length_append]; show _ + ((_ + 1 : Nat) : Int) ≤ _; omega⟩
                rcases List.mem_append.1 hp with hp | hp
                · exact b2 p hp
                · obtain rfl := List.mem_singleton.1 hp
                  exact hpl'⟩
              go_wp2_with (go_at_call 32; refine stop_here ?_)
              refine ⟨?_⟩
              refine (drain_calls w13 base g _ _ H13.out BD2.out.1 BD2.out.2.1 BD2.out.2.2.1 BD2.out.2.2.2.1 BD2.out.2.2.2.2).mono ?_
              rintro e w20 ⟨⟨v, ms, D20, rfl, hL, hD, hM, hb, hO⟩, hF⟩
              go_wp2
              go_ret2
              rw [EK.out]
              exact ⟨⟨v, ms, D20, rfl, hL, fun k hk => (hD k hk).elim (D13.out k) (fun h => .inr (Nat.le_trans F13.out.size h)), hM, hb, hO.1, fun k hk => Nat.le_trans F13.out.size (hO.2.1 k hk), fun p hp ad ea => (hO.2.2 p hp ad ea).elim (D13.out _) (fun h => .inr (Nat.le_trans F13.out.size h))⟩, F13.out.trans hF (fun k e => D13.out k e)⟩
          · have t1 : decide (aw ≤ num) = false := decide_eq_false hge
            have EK : Aside0 (r = drainS L2) := ⟨by
              rw [E2.out]
              unfold keepS
              rw [if_neg (fun h => by
                have h1 := h.2.1
                rw [HAW.out] at h1
                exact hge h1)]⟩
            refine start_ (n := 21) (S := fun w' => w'.cell? ⟨g, 2, none⟩ = some (.int .i64 aw) ∧ w'.cell? ⟨q, 1, none⟩ = some (.int .i64 num)) (ds := []) #[false, false, false, false, false, false, false, false, false, false, false, false, false, false, false, false, false, false, false, false, false] (by kernel_rfl) rfl rfl ⟨c2, x1⟩ (fun hHeld => ?_)
            refine pure_ (i := 0) (N := some 46) (v := ?_) (a' := ?_) #[true, false, false, false, false, false, false, false, false, false, false, false, false, false, false, false, false, false, false, false, false] rfl rfl (by kernel_rfl) (fun _ _ _ h => h) (Or.inl ⟨by rfl, ?_⟩) ?_ ?_
            rotate_left
            · intro w'
              go_simp
              with_reducible rfl
            rotate_left
            · simp only [Act.put, List.setIfInBounds_toArray, List.set_cons_zero, List.set_cons_succ, i64_w, i32_w]
              rfl
            refine pure_ (i := 1) (N := some 47) (v := ?_) (a' := ?_) #[true, true, false, false, false, false, false, false, false, false, false, false, false, false, false, false, false, false, false, false, false] rfl rfl (by kernel_rfl) (fun _ _ _ h => h) (Or.inl ⟨by rfl, ?_⟩) ?_ ?_
            rotate_left
            · intro w'
              go_simp
              with_reducible rfl
            rotate_left
            · simp only [Act.put, List.setIfInBounds_toArray, List.set_cons_zero, List.set_cons_succ, i64_w, i32_w]
              rfl
            refine pure_ (i := 2) (N := some 48) (v := ?_) (a' := ?_) #[true, true, true, false, false, false, false, false, false, false, false, false, false, false, false, false, false, false, false, false, false] rfl rfl (by kernel_rfl) (fun _ _ _ h => h) (Or.inl ⟨by rfl, ?_⟩) ?_ ?_
            rotate_left
            · intro w'
              go_simp
              with_reducible rfl
            rotate_left
            · simp only [Act.put, List.setIfInBounds_toArray, List.set_cons_zero, List.set_cons_succ, i64_w, i32_w]
              rfl
            refine pure_ (i := 3) (N := some 49) (v := ?_) (a' := ?_) #[true, true, true, true, false, false, false, false, false, false, false, false, false, false, false, false, false, false, false, false, false] rfl rfl (by kernel_rfl) (fun _ _ _ h => h) (Or.inl ⟨by rfl, ?_⟩) ?_ ?_
            rotate_left
            · intro w'
              go_simp
              with_reducible rfl
            rotate_left
            · simp only [Act.put, List.setIfInBounds_toArray, List.set_cons_zero, List.set_cons_succ, i64_w, i32_w]
              rfl
            refine pure_ (i := 5) (N := some 51) (v := ?_) (a' := ?_) #[true, true, true, true, false, true, false, false, false, false, false, false, false, false, false, false, false, false, false, false, false] rfl rfl (by kernel_rfl) (fun _ _ _ h => h) (Or.inl ⟨by rfl, ?_⟩) ?_ ?_
            rotate_left
            · intro w'
              go_simp
              with_reducible rfl
            rotate_left
            · simp only [Act.put, List.setIfInBounds_toArray, List.set_cons_zero, List.set_cons_succ, i64_w, i32_w]
              rfl
            refine pure_ (i := 6) (N := some 52) (v := ?_) (a' := ?_) #[true, true, true, true, false, true, true, false, false, false, false, false, false, false, false, false, false, false, false, false, false] rfl rfl (by kernel_rfl) (fun _ _ _ h => h) (Or.inl ⟨by rfl, ?_⟩) ?_ ?_
            rotate_left
            · intro w'
              go_simp
              with_reducible rfl
            rotate_left
            · simp only [Act.put, List.setIfInBounds_toArray, List.set_cons_zero, List.set_cons_succ, i64_w, i32_w]
              rfl
            refine pure_ (i := 7) (N := some 53) (v := ?_) (a' := ?_) #[true, true, true, true, false, true, true, true, false, false, false, false, false, false, false, false, false, false, false, false, false] rfl rfl (by kernel_rfl) (fun _ _ _ h => h) (Or.inl ⟨by rfl, ?_⟩) ?_ ?_
            rotate_left
            · intro w'
              go_simp
              with_reducible rfl
            rotate_left
            · simp only [Act.put, List.setIfInBounds_toArray, List.set_cons_zero, List.set_cons_succ, i64_w, i32_w]
              rfl
            refine take_ (i := 4) (N := some 50) (v := ?_) (a' := ?_) #[true, true, true, true, true, true, true, true, false, false, false, false, false, false, false, false, false, false, false, false, false] rfl rfl (by kernel_rfl) (fun _ _ _ h => h) (Or.inl ⟨by rfl, ?_⟩) hHeld ?_ ?_
            rotate_left
            · rintro w' ⟨s0, s1⟩
              go_simp
              with_reducible rfl
            rotate_left
            · simp only [Act.put, List.setIfInBounds_toArray, List.set_cons_zero, List.set_cons_succ, i64_w, i32_w]
              rfl
            refine take_ (i := 8) (N := some 54) (v := ?_) (a' := ?_) #[true, true, true, true, true, true, true, true, true, false, false, false, false, false, false, false, false, false, false, false, false] rfl rfl (by kernel_rfl) (fun _ _ _ h => h) (Or.inl ⟨by rfl, ?_⟩) hHeld ?_ ?_
            rotate_left
            · rintro w' ⟨s0, s1⟩
              go_simp
              with_reducible rfl
            rotate_left
            · simp only [Act.put, List.setIfInBounds_toArray, List.set_cons_zero, List.set_cons_succ, i64_w, i32_w]
              rfl
            refine pure_ (i := 9) (N := some 55) (v := ?_) (a' := ?_) #[true, true, true, true, true, true, true, true, true, true, false, false, false, false, false, false, false, false, false, false, false] rfl rfl (by kernel_rfl) (fun _ _ _ h => h) (Or.inl ⟨by rfl, ?_⟩) ?_ ?_
            rotate_left
            · intro w'
              go_simp
              with_reducible rfl
            rotate_left
            · simp only [Act.put, List.setIfInBounds_toArray, List.set_cons_zero, List.set_cons_succ, i64_w, i32_w]
              rfl
            refine pure_ (i := 10) (N := some 56) (v := ?_) (a' := ?_) #[true, true, true, true, true, true, true, true, true, true, true, false, false, false, false, false, false, false, false, false, false] rfl rfl (by kernel_rfl) (fun _ _ _ h => h) (Or.inl ⟨by rfl, ?_⟩) ?_ ?_
            rotate_left
            · intro w'
              go_simp
              with_reducible rfl
            rotate_left
            · simp only [Act.put, List.setIfInBounds_toArray, List.set_cons_zero, List.set_cons_succ, i64_w, i32_w]
              rfl
            refine pure_ (i := 11) (N := some 57) (v := ?_) (a' := ?_) #[true, true, true, true, true, true, true, true, true, true, true, true, false, false, false, false, false, false, false, false, false] rfl rfl (by kernel_rfl) (fun _ _ _ h => h) (Or.inl ⟨by rfl, ?_⟩) ?_ ?_
            rotate_left
            · intro w'
              go_simp
              with_reducible rfl
            rotate_left
            · simp only [Act.put, List.setIfInBounds_toArray, List.set_cons_zero, List.set_cons_succ, i64_w, i32_w]
              rfl
            refine pure_ (i := 12) (N := some 58) (v := undef) (a' := ?_) #[true, true, true, true, true, true, true, true, true, true, true, true, true, false, false, false, false, false, false, false, false] rfl rfl (by kernel_rfl) (fun _ _ _ h => h) (Or.inr ⟨by rfl, rfl⟩) ?_ ?_
            rotate_left
            · simp only [Act.put, List.setIfInBounds_toArray, List.set_cons_zero, List.set_cons_succ, i64_w, i32_w]
              rfl
            refine pure_ (i := 13) (N := some 59) (v := undef) (a' := ?_) #[true, true, true, true, true, true, true, true, true, true, true, true, true, true, false, false, false, false, false, false, false] rfl rfl (by kernel_rfl) (fun _ _ _ h => h) (Or.inr ⟨by rfl, rfl⟩) ?_ ?_
            rotate_left
            · simp only [Act.put, List.setIfInBounds_toArray, List.set_cons_zero, List.set_cons_succ, i64_w, i32_w]
              rfl
            refine pure_ (i := 14) (N := some 60) (v := undef) (a' := ?_) #[true, true, true, true, true, true, true, true, true, true, true, true, true, true, true, false, false, false, false, false, false] rfl rfl (by kernel_rfl) (fun _ _ _ h => h) (Or.inr ⟨by rfl, rfl⟩) ?_ ?_
            rotate_left
            · simp only [Act.put, List.setIfInBounds_toArray, List.set_cons_zero, List.set_cons_succ, i64_w, i32_w]
              rfl
            refine pure_ (i := 15) (N := some 61) (v := undef) (a' := ?_) #[true, true, true, true, true, true, true, true, true, true, true, true, true, true, true, true, false, false, false, false, false] rfl rfl (by kernel_rfl) (fun _ _ _ h => h) (Or.inr ⟨by rfl, rfl⟩) ?_ ?_
            rotate_left
            · simp only [Act.put, List.setIfInBounds_toArray, List.set_cons_zero, List.set_cons_succ, i64_w, i32_w]
              rfl
            refine pure_ (i := 16) (N := some 62) (v := undef) (a' := ?_) #[true, true, true, true, true, true, true, true, true, true, true, true, true, true, true, true, true, false, false, false, false] rfl rfl (by kernel_rfl) (fun _ _ _ h => h) (Or.inr ⟨by rfl, rfl⟩) ?_ ?_
            rotate_left
            · simp only [Act.put, List.setIfInBounds_toArray, List.set_cons_zero, List.set_cons_succ, i64_w, i32_w]
              rfl
            refine pure_ (i := 17) (N := some 63) (v := undef) (a' := ?_) #[true, true, true, true, true, true, true, true, true, true, true, true, true, true, true, true, true, true, false, false, false] rfl rfl (by kernel_rfl) (fun _ _ _ h => h) (Or.inr ⟨by rfl, rfl⟩) ?_ ?_
            rotate_left
            · simp only [Act.put, List.setIfInBounds_toArray, List.set_cons_zero, List.set_cons_succ, i64_w, i32_w]
              rfl
            refine pure_ (i := 18) (N := some 64) (v := undef) (a' := ?_) #[true, true, true, true, true, true, true, true, true, true, true, true, true, true, true, true, true, true, true, false, false] rfl rfl (by kernel_rfl) (fun _ _ _ h => h) (Or.inr ⟨by rfl, rfl⟩) ?_ ?_
            rotate_left
            · simp only [Act.put, List.setIfInBounds_toArray, List.set_cons_zero, List.set_cons_succ, i64_w, i32_w]
              rfl
            refine pure_ (i := 19) (N := some 65) (v := undef) (a' := ?_) #[true, true, true, true, true, true, true, true, true, true, true, true, true, true, true, true, true, true, true, true, false] rfl rfl (by kernel_rfl) (fun _ _ _ h => h) (Or.inr ⟨by rfl, rfl⟩) ?_ ?_
            rotate_left
            · simp only [Act.put, List.setIfInBounds_toArray, List.set_cons_zero, List.set_cons_succ, i64_w, i32_w]
              rfl
            refine pure_ (i := 20) (N := some 66) (v := ?_) (a' := ?_) #[true, true, true, true, true, true, true, true, true, true, true, true, true, true, true, true, true, true, true, true, true] rfl rfl (by kernel_rfl) (fun _ _ _ h => h) (Or.inl ⟨by rfl, ?_⟩) ?_ ?_
            rotate_left
            · intro w'
              go_simp
              with_reducible rfl
            rotate_left
            · simp only [Act.put, List.setIfInBounds_toArray, List.set_cons_zero, List.set_cons_succ, i64_w, i32_w]
              rfl
            refine done_ (by kernel_rfl) ?_
            clear c2 x1
            obtain ⟨w9, hw9⟩ : ∃ w9, w8.drew = w9 := ⟨_, rfl⟩
            rw [hw9] at I9 X9 F9 H9
            rw [hw9]
            clear hw9 I8 X8 F8
            go_wp2_with (go_at_call 32; refine stop_here ?_)
            refine ⟨?_⟩
            refine (drain_calls w9 base g D1 L2 H9.out BD.out.1 BD.out.2.1 BD.out.2.2.1 BD.out.2.2.2.1 BD.out.2.2.2.2).mono ?_
            rintro e w20 ⟨⟨v, ms, D20, rfl, hL, hD, hM, hb, hO⟩, hF⟩
            go_wp2
            go_ret2
            rw [EK.out]
            exact ⟨⟨v, ms, D20, rfl, hL, fun k hk => (hD k hk).elim (D0.out k) (fun h => .inr (Nat.le_trans F9.out.size h)), hM, hb, hO.1, fun k hk => Nat.le_trans F9.out.size (hO.2.1 k hk), fun p hp ad ea => (hO.2.2 p hp ad ea).elim (D0.out _) (fun h => .inr (Nat.le_trans F9.out.size h))⟩, F9.out.trans hF (fun k e => D0.out k e)⟩
theorem hear_calls (w : World) (base g : Nat) (D : Nat → Prop) (L : LS) (p : Pk) (h : LineAt w base g D L) (hp : Bytes w p.A p.b) (hpc : p.b.length ≤ p.c) (hpl : p.b.length ≤ 1000000) (hpD : ∀ ad, p.A = some ad → ¬ D ad.block) (hq : L.queue.length ≤ 200)
    (hc : L.coming.length ≤ 1000000) (hk : ∀ p ∈ L.kept, p.f3.length ≤ 1000000) (ha : 0 ≤ L.await) (hk2 : L.kept.length ≤ 90000) (ha2 : L.await ≤ 2305843009213693952) :
    Calls Tryd.prog 13 #[.pointer (some ⟨g, 0, none⟩), .agg ⟨p.cells⟩] w fun e w' => DrainIs w w' base g D e (hearS L p.say) ∧ Frame w w' D :=
  hear_calls0 w base g D L p h hp hpc hpl (fun _ => hpD) hq hc hk ha hk2 ha2
end Go.Proofs.YtafjegfmmnjpfaaDoor.LineT
end
section
namespace Go.Proofs.YtafjegfmmnjpfaaDoor.LineT
open Go.RowKit Go.ChangeShapes Go.WideShapes Go.Deep Go.Proofs.YtafjegfmmnjpfaaDoor.YLine Go.Proofs.YtafjegfmmnjpfaaDoorW.PrintWords Go.Proofs.YtafjegfmmnjpfaaDoorW.PrintLast Go.Proofs.YtafjegfmmnjpfaaDoorW.PrintMore
set_option linter.unusedVariables false
set_option linter.unusedSimpArgs false
/-- Texts that lie in a row. -/
def TextsAt (w : World) (A : Option Addr) (ps : List (List Int)) : Prop :=
  0 < ps.length → ∃ b o, A = some ⟨b, o, none⟩ ∧ ∀ i (hi : i < ps.length), ∃ A' c, w.cell? ⟨b, o + i, none⟩ = some (.slice A' (ps[i]).length c) ∧ (ps[i]).length ≤ c ∧ Bytes w A' (ps[i])
theorem TextsAt.frame {w w1 : World} {A : Option Addr} {ps : List (List Int)} {S : Nat → Prop} (h : TextsAt w A ps) (hf : Frame w w1 S) (hS : ∀ k, S k → w.heap.size ≤ k) : TextsAt w1 A ps := by
  intro hp
  obtain ⟨b, o, rfl, hx⟩ := h hp
  refine ⟨b, o, rfl, fun i hi => ?_⟩
  obtain ⟨A', c, h1, h2, h3⟩ := hx i hi
  exact ⟨A', c, hf.cell h1 (fun h => by have h4 := hS _ h; have h5 := World.block_lt_of_cell? w _ h1; omega), h2, h3.frame hf (fun h0 ad e h => by have h4 := hS _ h; have h5 := h3.lt h0 ad e; omega)⟩
theorem TextsAt.below {w w1 : World} {A : Option Addr} {ps : List (List Int)} (h : TextsAt w A ps) (hb : Below w.heap.size w w1) : TextsAt w1 A ps := h.frame (Frame.of_below hb) (fun _ h => h.elim)
section
variable {H : Type} {enc : TypeId × Value → H} {w : World} {base : Nat} {held : Bool}
end
end Go.Proofs.YtafjegfmmnjpfaaDoor.LineT
end
section
namespace Go.Proofs.YtafjegfmmnjpfaaDoor.LineT
open Go.RowKit Go.Proofs.YtafjegfmmnjpfaaDoor.YLine Go.Proofs.YtafjegfmmnjpfaaDoorW.PrintWords Go.Proofs.YtafjegfmmnjpfaaDoorW.PrintLast Go.Proofs.YtafjegfmmnjpfaaDoorW.PrintMore
set_option linter.unusedVariables false
set_option linter.unusedSimpArgs false
/-- Texts that lie in a row are read. -/
theorem Msgs.at_ {w : World} {B : Nat} {v : Value} {ms : List Pk} (h : Msgs w B v ms) : ∃ A c, v = .slice A ms.length c ∧ ms.length ≤ c ∧ TextsAt w A (ms.map Pk.b) := by
  obtain ⟨hq, hk⟩ := h
  obtain ⟨A, c, rfl, hle⟩ := q_slice hq
  refine ⟨A, c, rfl, hle, fun hp => ?_⟩
  rw [List.length_map] at hp
  obtain ⟨gr, off, rfl⟩ := row_at hq hp
  refine ⟨gr, off, rfl, fun i hi => ?_⟩
  rw [List.length_map] at hi
  obtain ⟨ad, ea, hc⟩ := q_cells hq hp
  injection ea with ea
  subst ea
  have h1 := hc i (ms[i]).val (by rw [List.getElem?_map, List.getElem?_eq_getElem hi]; rfl)
  rw [add_at] at h1
  have h2 := hk _ (List.getElem_mem hi)
  rw [List.getElem_map]
  exact ⟨ms[i].A, ms[i].c, h1, h2.cap, h2.bytes⟩
theorem TextsAt.take {w : World} {A : Option Addr} {ps : List (List Int)} (h : TextsAt w A ps) (n : Nat) : TextsAt w A (ps.take n) := by
  intro hp
  rw [List.length_take] at hp
  obtain ⟨b, o, rfl, hx⟩ := h (by omega)
  refine ⟨b, o, rfl, fun i hi => ?_⟩
  rw [List.length_take] at hi
  rw [List.getElem_take]
  exact hx i (by omega)
set_option maxHeartbeats 4000000 in
set_option maxRecDepth 100000 in
/-- Texts that are the same are told so. -/
theorem same_true (w : World) (n : Nat) (A1 A2 : Option Addr) (c1 c2 : Nat) (l : List (List Int)) (h1 : TextsAt w A1 l) (h2 : TextsAt w A2 l) (hn : l.length = n) (hb : n ≤ 9000000000) (hl : ∀ q ∈ l, q.length ≤ 9223372036854775807) :
    Calls Tryd.prog 19 #[.slice A1 n c1, .slice A2 n c2] w fun e w' => e = .returned (.bool true) ∧ Below w.heap.size w w' := by
  have H1 := Aside0.mk h1
  have H2 := Aside0.mk h2
  have HN := Aside0.mk hn
  have HL := Aside0.mk hl
  have B0 := Aside0.mk (Below.refl w.heap.size w)
  clear h1 h2 hn hl
  go_enter Tryd.func19, Tryd.ntmps19
  go_wp2
  go_loopg [5] n (fun kq v5 w' => ∃ (i : Nat), i ≤ n ∧ v5 = .int .i64 (i : Int) ∧ Aside0 (kq = n - i) ∧ Aside0 (Below w.heap.size w w'))
  case atStart => exact ⟨0, by omega, rfl, ⟨rfl⟩, B0⟩
  case round =>
    clear B0
    obtain ⟨i, hi, rfl, HK, B1⟩ := hrel
    have zi : 0 ≤ (i : Int) := by omega
    by_cases hlt : i < n
    · have lt : (i : Int) < (n : Int) := by omega
      obtain ⟨b1, o1, hA1, hx1⟩ := (H1.out.below B1.out) (by rw [HN.out]; omega)
      obtain ⟨b2, o2, hA2, hx2⟩ := (H2.out.below B1.out) (by rw [HN.out]; omega)
      subst hA1
      subst hA2
      obtain ⟨Ai, ci, hc1, _, hy1⟩ := hx1 i (by rw [HN.out]; exact hlt)
      obtain ⟨Aj, cj, hc2, _, hy2⟩ := hx2 i (by rw [HN.out]; exact hlt)
      obtain ⟨t, ht⟩ : ∃ t, l[i]'(by rw [HN.out]; exact hlt) = t := ⟨_, rfl⟩
      have htl : t.length ≤ 9223372036854775807 := HL.out t (by rw [← ht]; exact List.getElem_mem _)
      rw [ht] at hc1 hc2 hy1 hy2
      have k1 := reads_bytes hy1 htl
      have k2 := reads_bytes hy2 htl
      have hcv := fun nq => Kd.C_string (P := Tryd.prog) (A := Ai) (c := ci) Tryd.underlying32 Tryd.underlying5 Tryd.underlying9 (Kd.C_drewN k1 nq)
      have hcb := fun nq => Kd.C_string (P := Tryd.prog) (A := Aj) (c := cj) Tryd.underlying32 Tryd.underlying5 Tryd.underlying9 (Kd.C_drewN k2 nq)
      clear hx1 hx2 hy1 hy2 ht
      go_upto_region 6 with (fail)
      go_quiet (fail)
      go_wp2
      go_roundg (n - i - 1)
      case measure => have := HK.out; omega
      case rel => exact ⟨i + 1, by omega, by go_num, ⟨by omega⟩, ⟨below_frame B1.out (Frame.of_drewN wr nq (fun _ => False)) B1.out.size (fun _ h => h.elim)⟩⟩
    · have lt : ¬ (i : Int) < (n : Int) := by omega
      go_wp2
      go_ret
      exact ⟨rfl, B1.out⟩
end Go.Proofs.YtafjegfmmnjpfaaDoor.LineT
end
section
namespace Go.Proofs.YtafjegfmmnjpfaaDoor.LineT
open Go.RowKit Go.Proofs.YtafjegfmmnjpfaaDoor.YLine Go.Proofs.YtafjegfmmnjpfaaDoorW.PrintWords Go.Proofs.YtafjegfmmnjpfaaDoorW.PrintLast Go.Proofs.YtafjegfmmnjpfaaDoorW.PrintMore
set_option linter.unusedVariables false
set_option linter.unusedSimpArgs false
def refCells (vq vk vc : Value) (M : LS) : List Value := [vq, .int .i64 M.given, .int .i64 M.await, vk, vc, .int .i64 M.wait, .int .i64 M.left, .bool M.owes]
theorem ref_all (vq vk vc : Value) (M : LS) (hq : vq.oneCell' = true) (hk : vk.oneCell' = true) (hc : vc.oneCell' = true) : (⟨refCells vq vk vc M⟩ : Array Value).all (·.oneCell') = true := by
  rw [List.all_toArray, List.all_eq_true]
  intro u hu
  simp only [refCells, List.mem_cons, List.not_mem_nil, or_false] at hu
  rcases hu with rfl | rfl | rfl | rfl | rfl | rfl | rfl | rfl <;> first | rfl | assumption
theorem row_one {w : World} {base e size n : Nat} {v : Value} {xs : List Value} (h : QRow w base e size v n xs) : v.oneCell' = true := by
  obtain ⟨A, c, rfl, _⟩ := q_slice h
  rfl
/-- A pack that can be read, off what a line writes. -/
structure Rd (w : World) (D : Nat → Prop) (p : Pk) : Prop where
  bytes : Bytes w p.A p.b
  cap : p.b.length ≤ p.c
  off : 0 < p.b.length → ∀ ad, p.A = some ad → ¬ D ad.block
theorem Rd.turn {w w1 : World} {D D' : Nat → Prop} {p : Pk} (h : Rd w D p) (hf : Frame w w1 D) (hD : ∀ k, D' k → D k ∨ w.heap.size ≤ k) : Rd w1 D' p :=
  ⟨h.bytes.frame hf h.off, h.cap, fun hp ad e h1 => (hD _ h1).elim (h.off hp ad e) (fun h2 => by have := h.bytes.lt hp ad e; omega)⟩
theorem Rd.below {w w1 : World} {D : Nat → Prop} {p : Pk} (h : Rd w D p) (hb : Below w.heap.size w w1) : Rd w1 D p := ⟨h.bytes.below hb, h.cap, h.off⟩
/-- A row of packs, of the reference's own; their bytes may lie elsewhere. -/
structure RPs (w : World) (base : Nat) (D : Nat → Prop) (v : Value) (ps : List Pk) : Prop where
  row : QRow w base 37 4 v ps.length (pkCells ps)
  ob : ∀ k, v.ownBlock = some k → ¬ D k
  els : ∀ p ∈ ps, Rd w D p
theorem RPs.turn {w w1 : World} {base : Nat} {D D' : Nat → Prop} {v : Value} {ps : List Pk} (h : RPs w base D v ps) (hf : Frame w w1 D) (hD : ∀ k, D' k → D k ∨ w.heap.size ≤ k) : RPs w1 base D' v ps :=
  ⟨qi_keep h.row hf h.ob, fun k hk h1 => (hD k h1).elim (h.ob k hk) (fun h2 => by have := q_lt h.row k hk; omega), fun p hp => (h.els p hp).turn hf hD⟩
theorem RPs.below {w w1 : World} {base : Nat} {D : Nat → Prop} {v : Value} {ps : List Pk} (h : RPs w base D v ps) (hb : Below w.heap.size w w1) : RPs w1 base D v ps := ⟨qi_below h.row hb, h.ob, fun p hp => (h.els p hp).below hb⟩
structure RefIs (w : World) (base : Nat) (D : Nat → Prop) (vq vk vc : Value) (qs ks : List Pk) (M : LS) : Prop where
  que : RPs w base D vq qs
  kep : RPs w base D vk ks
  com : QRow w base 5 1 vc M.coming.length (nums .u8 M.coming)
  cob : ∀ k, vc.ownBlock = some k → ¬ D k
  queue : qs.map Pk.say = M.queue
  kept : ks.map Pk.say = M.kept
theorem RefIs.turn {w w1 : World} {base : Nat} {D D' : Nat → Prop} {vq vk vc : Value} {qs ks : List Pk} {M : LS} (h : RefIs w base D vq vk vc qs ks M) (hf : Frame w w1 D) (hD : ∀ k, D' k → D k ∨ w.heap.size ≤ k) : RefIs w1 base D' vq vk vc qs ks M :=
  ⟨h.que.turn hf hD, h.kep.turn hf hD, qi_keep h.com hf h.cob, fun k hk h1 => (hD k h1).elim (h.cob k hk) (fun h2 => by have := q_lt h.com k hk; omega), h.queue, h.kept⟩
theorem RefIs.below {w w1 : World} {base : Nat} {D : Nat → Prop} {vq vk vc : Value} {qs ks : List Pk} {M : LS} (h : RefIs w base D vq vk vc qs ks M) (hb : Below w.heap.size w w1) : RefIs w1 base D vq vk vc qs ks M :=
  ⟨h.que.below hb, h.kep.below hb, qi_below h.com hb, h.cob, h.queue, h.kept⟩
theorem RefIs.of {w : World} {base : Nat} {D : Nat → Prop} {vq vk vc : Value} {qs ks : List Pk} {M M' : LS} (h : RefIs w base D vq vk vc qs ks M) (h1 : M'.queue = M.queue) (h2 : M'.kept = M.kept) (h3 : M'.coming = M.coming) : RefIs w base D vq vk vc qs ks M' :=
  ⟨h.que, h.kep, by rw [h3]; exact h.com, h.cob, by rw [h1]; exact h.queue, by rw [h2]; exact h.kept⟩
/-- The reference's line, as1 a value. -/
def RefAt (w : World) (base : Nat) (D : Nat → Prop) (cs : List Value) (M : LS) : Prop := ∃ vq vk vc qs ks, cs = refCells vq vk vc M ∧ RefIs w base D vq vk vc qs ks M
theorem RefAt.turn {w w1 : World} {base : Nat} {D D' : Nat → Prop} {cs : List Value} {M : LS} (h : RefAt w base D cs M) (hf : Frame w w1 D) (hD : ∀ k, D' k → D k ∨ w.heap.size ≤ k) : RefAt w1 base D' cs M := by
  obtain ⟨vq, vk, vc, qs, ks, e, h⟩ := h
  exact ⟨vq, vk, vc, qs, ks, e, h.turn hf hD⟩
theorem RefAt.below {w w1 : World} {base : Nat} {D : Nat → Prop} {cs : List Value} {M : LS} (h : RefAt w base D cs M) (hb : Below w.heap.size w w1) : RefAt w1 base D cs M := by
  obtain ⟨vq, vk, vc, qs, ks, e, h⟩ := h
  exact ⟨vq, vk, vc, qs, ks, e, h.below hb⟩
theorem nil_row (w : World) (base e size : Nat) : QRow w base e size (.slice none 0 0) 0 [] := ⟨by simp, .inl ⟨rfl, none, rfl, fun a ha => by cases ha⟩⟩
def refZero : List Value := refCells (.slice none 0 0) (.slice none 0 0) (.slice none 0 0) ⟨[], 0, 0, [], [], 0, 0, false⟩
set_option maxHeartbeats 4000000 in
set_option maxRecDepth 100000 in
theorem rnew_calls (w : World) (base : Nat) (D : Nat → Prop) : Calls Tryd.prog 17 #[] w fun e w' => (∃ cs, e = .returned (.agg ⟨cs⟩) ∧ RefAt w' base D cs ls0) ∧ Below w.heap.size w w' := by
  have HB := Aside0.mk (Below.refl w.heap.size w)
  go_enter Tryd.func17, Tryd.ntmps17
  go_wp2_with ((with_reducible refine gate_dst (N := 0) rfl ?_); refine stop_here ?_)
  refine ⟨?_⟩
  refine box_event rfl (N := 0) rfl (cs := ⟨refZero⟩) (t := 48) ?hr0 ?_
  case hr0 => first | (go_simp; done) | (go_simp; rfl)
  intro q hq w1 hbox hb
  have X1 := Aside0.mk hbox
  have NQ := Aside0.mk (show w.heap.size ≤ q by rw [hq]; exact Nat.le_refl _)
  have B1 := Aside0.mk hb
  clear hq hbox hb HB
  go_wp2_with ((with_reducible refine gate_store (t := 48) (p := 0) rfl ?_); refine stop_here ?_)
  refine ⟨?_⟩
  refine wpList_store_mid rfl 48 (.tmp 0) (.tmp 1) rfl q 0 ⟨refCells (.slice none 0 0) (.slice none 0 0) (.slice none 0 0) ls0⟩ rfl rfl (by have h := box_there X1.out; exact h) rfl (ref_all _ _ _ _ rfl rfl rfl) ?_
  have FS := Aside0.mk (Frame.of_setCells w1 q 0 (refCells (.slice none 0 0) (.slice none 0 0) (.slice none 0 0) ls0))
  have X2 := Aside0.mk (box_put (refCells (.slice none 0 0) (.slice none 0 0) (.slice none 0 0) ls0) X1.out rfl)
  have B2 := Aside0.mk (below_frame B1.out FS.out B1.out.size (fun k e => by rw [e]; exact NQ.out))
  obtain ⟨w2, hw2⟩ : ∃ w2, w1.setCells q 0 (refCells (.slice none 0 0) (.slice none 0 0) (.slice none 0 0) ls0) = w2 := ⟨_, rfl⟩
  have e2 : w1.setCells q 0 (⟨refCells (.slice none 0 0) (.slice none 0 0) (.slice none 0 0) ls0⟩ : Array Value).toList = w2 := hw2
  rw [e2]
  rw [hw2] at X2 B2
  clear hw2 e2 FS X1 B1
  go_wp2
  exact bodyPost_ret (results_cell_row rfl _ _ q 48 ⟨refCells (.slice none 0 0) (.slice none 0 0) (.slice none 0 0) ls0⟩ (0, 0) _ rfl X2.out Tryd.underlying48 rfl (by kernel_rfl)) rfl ⟨⟨_, rfl, _, _, _, [], [], rfl, ⟨⟨nil_row _ _ _ _, fun k hk => (by cases hk), fun p hp => by simp at hp⟩, ⟨nil_row _ _ _ _, fun k hk => (by cases hk), fun p hp => by simp at hp⟩, nil_row _ _ _ _, fun k hk => (by cases hk), rfl, rfl⟩⟩, B2.out⟩
end Go.Proofs.YtafjegfmmnjpfaaDoor.LineT
end
section
namespace Go.Proofs.YtafjegfmmnjpfaaDoor.LineT
open Go.RowKit Go.Proofs.YtafjegfmmnjpfaaDoor.YLine Go.Proofs.YtafjegfmmnjpfaaDoorW.PrintWords Go.Proofs.YtafjegfmmnjpfaaDoorW.PrintLast Go.Proofs.YtafjegfmmnjpfaaDoorW.PrintMore
set_option linter.unusedVariables false
set_option linter.unusedSimpArgs false
theorem ref_blk {w : World} {q : Nat} {vq vk vc : Value} {M : LS} {j : Nat} {u : Value} (h : w.heap[q]? = some (.cells ⟨refCells vq vk vc M⟩ 48 (0, 0))) (hj : (refCells vq vk vc M)[j]? = some u) : w.cell? ⟨q, j, none⟩ = some u := (blk_cell h j).trans (by rw [List.getElem?_toArray]; exact hj)
def notU8 (u : Value) : Bool := match u with | .int .u8 _ => false | _ => true
theorem q_no8 {w : World} {base e size n : Nat} {v : Value} {xs : List Value} (h : QRow w base e size v n xs) : notU8 v = true := by
  obtain ⟨A, c, rfl, _⟩ := q_slice h
  rfl
theorem ref_no8 (vq vk vc : Value) (M : LS) (hq : notU8 vq = true) (hk : notU8 vk = true) (hc : notU8 vc = true) : ∀ (j : Nat) (x : Int), (refCells vq vk vc M)[j]? ≠ some (.int .u8 x) := by
  intro j x e
  have hm := List.mem_of_getElem? e
  simp only [refCells, List.mem_cons, List.not_mem_nil, or_false] at hm
  rcases hm with h | h | h | h | h | h | h | h
  · rw [← h] at hq; cases hq
  · cases h
  · cases h
  · rw [← h] at hk; cases hk
  · rw [← h] at hc; cases hc
  · cases h
  · cases h
  · cases h
/-- A store into a block without bytes leaves bytes. -/
theorem rd_set {w w1 : World} {D : Nat → Prop} {p : Pk} {q : Nat} {cs : List Value} {ty : TypeId} (h : Rd w D p) (hf : Frame w w1 (fun k => k = q)) (hb : w.heap[q]? = some (.cells ⟨cs⟩ ty (0, 0))) (hn : ∀ (j : Nat) (x : Int), cs[j]? ≠ some (.int .u8 x)) : Rd w1 D p := by
  obtain ⟨h1, h2, h3⟩ := h
  refine ⟨h1.frame hf (fun hp0 ad e e' => ?_), h2, h3⟩
  obtain ⟨ad', ea, hc⟩ := h1 hp0
  rw [e] at ea
  obtain rfl := Option.some.inj ea
  have hc0 := hc 0 (.int .u8 (p.b[0]'hp0)) (by unfold nums; rw [List.getElem?_map, List.getElem?_eq_getElem hp0]; rfl)
  have e0 : ad.add 0 = ad := by
    rcases ad with ⟨x, o, s⟩
    cases s <;> rfl
  rw [e0] at hc0
  obtain ⟨b', o', rfl⟩ := spot_none hc0
  have e'' : b' = q := e'
  subst e''
  rw [blk_cell hb, List.getElem?_toArray] at hc0
  exact hn _ _ hc0
def RTickIs (w : World) (base : Nat) (D : Nat → Prop) (e : Ending) (M : LS) (o : List P4) : Prop := ∃ cs v ps, e = .returned (.tuple #[.agg ⟨cs⟩, v]) ∧ RefAt w base D cs M ∧ RPs w base D v ps ∧ ps.map Pk.say = o
set_option maxHeartbeats 8000000 in
set_option maxRecDepth 100000 in
theorem rtick_calls (w : World) (base : Nat) (D : Nat → Prop) (cs : List Value) (M : LS) (h : RefAt w base D cs M) (hD : ∀ k, D k → k < w.heap.size) (hb : base ≤ w.heap.size) (hM : LOk M) :
    Calls Tryd.prog 21 #[.agg ⟨cs⟩] w fun e w' => RTickIs w' base D e (tickS M) (tickOutS M) ∧ Below w.heap.size w w' := by
  obtain ⟨vq, vk, vc, qs, ks, rfl, hI⟩ := h
  have I0 := Aside0.mk hI
  have HD := Aside0.mk hD
  have HB0 := Aside0.mk hb
  have HL := Aside0.mk hM
  have HQ := Aside0.mk (show M.queue.length = qs.length by rw [← hI.queue, List.length_map])
  clear hI hD hb hM
  obtain ⟨Av, cq, hv, hle⟩ := q_slice I0.out.que.row
  subst hv
  have n200 : (qs.length : Int) ≤ 200 := by have := HL.out.queue; have := HQ.out; omega
  have b0 := HL.out.left0
  have b1 := HL.out.left1
  have wt0 := HL.out.wait0
  have wt1 := HL.out.wait1
  have aw0 := HL.out.await0
  have aw1 := HL.out.await1
  have B0 := Aside0.mk (Below.refl w.heap.size w)
  unfold refCells
  go_enter Tryd.func21, Tryd.ntmps21
  go_wp2_with ((with_reducible refine gate_dst (N := 1) rfl ?_); refine stop_here ?_)
  refine ⟨?_⟩
  refine box_event rfl (N := 1) rfl (cs := ⟨refCells (.slice Av qs.length cq) vk vc M⟩) (t := 48) ?hr1 ?_
  case hr1 => first | (go_simp; done) | (go_simp; rfl)
  intro q1 hq1 w1 hbox hb
  have X1 := Aside0.mk hbox
  have N1 := Aside0.mk (show w.heap.size ≤ q1 by rw [hq1]; exact Nat.le_refl _)
  have B1 := Aside0.mk (below_step B0.out hb)
  clear hq1 hbox hb B0
  go_wp2_with ((with_reducible refine gate_dst (N := 2) rfl ?_); refine stop_here ?_)
  refine ⟨?_⟩
  refine box_event rfl (N := 2) rfl (cs := ⟨refZero⟩) (t := 48) ?hr2 ?_
  case hr2 => first | (go_simp; done) | (go_simp; rfl)
  intro q2 hq2 w2 hbox hb
  have Y2 := Aside0.mk hbox
  have N2 := Aside0.mk (show w.heap.size ≤ q2 by rw [hq2]; exact B1.out.size)
  have N12 := Aside0.mk (show q2 ≠ q1 by rw [hq2]; have := blk_lt X1.out; omega)
  have X2 := Aside0.mk (blk_below X1.out hb)
  have B2 := Aside0.mk (below_step B1.out hb)
  clear hq2 hbox hb X1 B1
  have c0 := ref_blk X2.out (j := 0) rfl
  have c6 := ref_blk X2.out (j := 6) rfl
  have f6 := blk_frozen X2.out 6
  go_upto_if 10 with (fail)
  go_cut [4] (fun v4 w' => ∃ ps : List Pk, Aside0 (QRow w' base 37 4 v4 ps.length (pkCells ps)) ∧ Aside0 (∀ k, v4.ownBlock = some k → w.heap.size ≤ k) ∧ Aside0 (∀ p ∈ ps, ∃ q ∈ qs, p.A = q.A ∧ p.b = q.b ∧ p.c = q.c) ∧ Aside0 (ps.map Pk.say = firstS (left1S M)) ∧ Aside0 (w'.heap[q1]? = some (.cells ⟨refCells (.slice Av qs.length cq) vk vc (afterS (left1S M))⟩ 48 (0, 0))) ∧ Aside0 (w'.heap[q2]? = some (.cells ⟨refZero⟩ 48 (0, 0))) ∧ Aside0 (Below w.heap.size w w'))
  case first =>
    by_cases hz : 0 < qs.length
    · have z0 : 0 < (qs.length : Int) := by omega
      obtain ⟨x, hx⟩ : ∃ x, M.left = x := ⟨_, rfl⟩
      have HX := Aside0.mk hx
      rw [hx] at c6 b0 b1
      clear hx
      by_cases h1 : 1 < x
      · have x0 : 0 < x := by omega
        have EL : Aside0 (left1S M = { M with left := x - 1 }) := ⟨by
          unfold left1S
          rw [if_pos (by have := HQ.out; omega), HX.out, show max 0 (x - 1) = x - 1 by omega]⟩
        have ES : Aside0 (sendsS (left1S M) = false) := ⟨by
          unfold sendsS
          rw [EL.out]
          show (decide _ && decide (x - 1 = 0)) = false
          rw [decide_eq_false (show ¬ x - 1 = 0 by omega), Bool.and_false]⟩
        have EF : Aside0 (firstS (left1S M) = [] ∧ afterS (left1S M) = { M with left := x - 1 }) := ⟨by
          unfold firstS afterS
          rw [ES.out]
          exact ⟨if_neg (by decide), by rw [if_neg (by decide), EL.out]⟩⟩
        have e1 : (x - 1 == 0) = false := by
          have : ¬ x - 1 = 0 := by omega
          simpa using this
        go_wp2
        go_meet
        have FS := Frame.of_set w2 q1 6 (.int .i64 (x - 1))
        rw [EF.out.1, EF.out.2]
        exact ⟨[], ⟨nil_row _ _ _ _⟩, ⟨fun k hk => (by cases hk)⟩, ⟨fun p hp => by simp at hp⟩, ⟨rfl⟩, ⟨(blk_set X2.out 6 (.int .i64 (x - 1))).trans rfl⟩, ⟨FS.blk Y2.out N12.out⟩, ⟨below_frame B2.out FS B2.out.size (fun k e => by rw [e]; exact N1.out)⟩⟩
      · have EL : Aside0 (left1S M = { M with left := 0 }) := ⟨by
          unfold left1S
          rw [if_pos (by have := HQ.out; omega), HX.out, show max 0 (x - 1) = 0 by omega]⟩
        have ES : Aside0 (sendsS (left1S M) = true) := ⟨by
          unfold sendsS
          rw [EL.out]
          show (decide (0 < M.queue.length) && decide ((0 : Int) = 0)) = true
          rw [decide_eq_true (show 0 < M.queue.length by have := HQ.out; omega)]
          rfl⟩
        have EF : Aside0 (firstS (left1S M) = (M.queue.take 8).map (tellS M) ∧ afterS (left1S M) = { M with left := M.wait, wait := min (2 * M.wait) 16 }) := ⟨by
          unfold firstS afterS
          rw [ES.out, if_pos rfl, if_pos rfl, EL.out]
          exact ⟨rfl, rfl⟩⟩
        clear EL ES
        go_upto_if 13 with (fail)
        go_cut [] (fun w' => Aside0 (w'.heap[q1]? = some (.cells ⟨refCells (.slice Av qs.length cq) vk vc { M with left := 0 }⟩ 48 (0, 0))) ∧ Aside0 (w'.heap[q2]? = some (.cells ⟨refZero⟩ 48 (0, 0))) ∧ Aside0 (Below w.heap.size w w'))
        case first =>
          by_cases h2 : 0 < x
          · have x1 : x = 1 := by omega
            subst x1
            go_wp2
            go_meet
            have FS := Frame.of_set w2 q1 6 (.int .i64 0)
            exact ⟨⟨(blk_set X2.out 6 (.int .i64 0)).trans rfl⟩, ⟨FS.blk Y2.out N12.out⟩, ⟨below_frame B2.out FS B2.out.size (fun k e => by rw [e]; exact N1.out)⟩⟩
          · have x1 : x = 0 := by omega
            subst x1
            go_wp2
            go_meet
            have e0 : (⟨refCells (.slice Av qs.length cq) vk vc M⟩ : Array Value) = ⟨refCells (.slice Av qs.length cq) vk vc { M with left := 0 }⟩ := by
              unfold refCells
              rw [HX.out]
            exact ⟨⟨by rw [← e0]; exact X2.out⟩, Y2, B2⟩
        case rest =>
          clear c0 c6 f6 X2 Y2 B2
          obtain ⟨X2, Y2, B2⟩ := hcut
          have c6 := ref_blk X2.out (j := 6) rfl
          go_upto_region 7 with (fail)
          go_loopg [4, 5] qs.length (fun kq v4 v5 w' => ∃ (i : Nat) (ps : List Pk), i ≤ 8 ∧ i ≤ qs.length ∧ v5 = .int .i64 (i : Int) ∧ Aside0 (kq = qs.length - i) ∧ Aside0 (QRow w' base 37 4 v4 ps.length (pkCells ps)) ∧ Aside0 (∀ k, v4.ownBlock = some k → w.heap.size ≤ k) ∧ Aside0 (∀ p ∈ ps, ∃ q ∈ qs, p.A = q.A ∧ p.b = q.b ∧ p.c = q.c) ∧ Aside0 (ps.map Pk.say = (M.queue.take i).map (tellS M)) ∧ Aside0 (w'.heap[q1]? = some (.cells ⟨refCells (.slice Av qs.length cq) vk vc { M with left := 0 }⟩ 48 (0, 0))) ∧ Aside0 (w'.heap[q2]? = some (.cells ⟨refZero⟩ 48 (0, 0))) ∧ Aside0 (Below w.heap.size w w'))
          case atStart => exact ⟨0, [], by omega, by omega, rfl, ⟨rfl⟩, ⟨nil_row _ _ _ _⟩, ⟨fun k hk => (by cases hk)⟩, ⟨fun p hp => by simp at hp⟩, ⟨rfl⟩, X2, Y2, B2⟩
          case round =>
            clear X2 Y2 B2 c6
            obtain ⟨i, ps, hi8, hi, rfl, HK, R3, V3, E3, S3, X2, Y2, B2⟩ := hrel
            have zi : 0 ≤ (i : Int) := by omega
            have c0 := ref_blk X2.out (j := 0) rfl
            by_cases hlt : i < qs.length ∧ i < 8
            · obtain ⟨hlt, hl8⟩ := hlt
              have lt : (i : Int) < (qs.length : Int) := by omega
              have lt8 : (i : Int) < 8 := by omega
              obtain ⟨gr, off, hAv⟩ := row_at I0.out.que.row (by omega)
              subst hAv
              have xr := pk_range (qi_below I0.out.que.row B2.out) i hlt
              obtain ⟨x, hx⟩ : ∃ x, qs[i] = x := ⟨_, rfl⟩
              rw [hx] at xr
              have HX2 := Aside0.mk (show x ∈ qs by rw [← hx]; exact List.getElem_mem _)
              have HT := Aside0.mk (show (M.queue.take (i + 1)).map (tellS M) = (M.queue.take i).map (tellS M) ++ [tellS M x.say] by
                rw [← I0.out.queue, List.take_succ_eq_append_getElem (by rw [List.length_map]; exact hlt), List.map_append, List.getElem_map, hx]
                rfl)
              have HLT := Aside0.mk hlt
              clear hx hlt
              obtain ⟨ack, num, last, Ax, cx, bx⟩ := x
              go_wp2_with ((with_reducible refine gate_dst (N := 36) rfl ?_); refine stop_here ?_)
              refine ⟨?_⟩
              refine wpList_load_mid rfl 37 (.tmp 35) rfl gr (off + i * 4) rfl (Pk.cells ⟨ack, num, last, Ax, cx, bx⟩) _ xr Tryd.underlying37 rfl ?hi ?_
              case hi => rfl
              clear xr
              go_wp2_with ((with_reducible refine gate_dst (N := 6) rfl ?_); refine stop_here ?_)
              refine ⟨?_⟩
              refine box_event rfl (N := 6) rfl (cs := ⟨pk0.cells⟩) (t := 37) ?hr6 ?_
              case hr6 => first | (go_simp; done) | (go_simp; rfl)
              intro q6 hq6 w3 hbox hb
              have Z3 := Aside0.mk hbox
              have NP := Aside0.mk (show wr.heap.size ≤ q6 by rw [hq6]; exact Nat.le_refl _)
              have H3 := Aside0.mk hb
              clear hq6 hbox hb
              go_wp2_with ((with_reducible refine gate_store (t := 37) (p := 6) rfl ?_); refine stop_here ?_)
              refine ⟨?_⟩
              refine wpList_store_mid rfl 37 (.tmp 6) (.tmp 36) rfl q6 0 ⟨Pk.cells ⟨ack, num, last, Ax, cx, bx⟩⟩ rfl rfl (by have h := box_there Z3.out; exact h) rfl (pk_all _) ?_
              have FS := Aside0.mk (Frame.of_setCells w3 q6 0 (Pk.cells ⟨ack, num, last, Ax, cx, bx⟩))
              have Z4 := Aside0.mk (box_put (Pk.cells ⟨ack, num, last, Ax, cx, bx⟩) Z3.out rfl)
              have H4 := Aside0.mk (below_frame H3.out FS.out H3.out.size (fun k e => by rw [e]; exact NP.out))
              obtain ⟨w4, hw4⟩ : ∃ w4, w3.setCells q6 0 (Pk.cells ⟨ack, num, last, Ax, cx, bx⟩) = w4 := ⟨_, rfl⟩
              have e4 : w3.setCells q6 0 (⟨Pk.cells ⟨ack, num, last, Ax, cx, bx⟩⟩ : Array Value).toList = w4 := hw4
              rw [e4]
              rw [hw4] at Z4 H4
              have X4 := Aside0.mk (blk_below X2.out H4.out)
              have NQ1 := Aside0.mk (show q1 < wr.heap.size ∧ q2 < wr.heap.size from ⟨blk_lt X2.out, blk_lt Y2.out⟩)
              clear hw4 e4 FS Z3 H3 c0
              obtain ⟨aw, haw⟩ : ∃ aw, M.await = aw := ⟨_, rfl⟩
              have HAW := Aside0.mk haw
              have aw0' : 1 ≤ aw := by rw [← haw]; exact aw0
              have aw1' : aw ≤ 4611686018427387904 := by rw [← haw]; exact aw1
              have c2 : w4.cell? ⟨q1, 2, none⟩ = some (.int .i64 aw) := by rw [← haw]; exact ref_blk X4.out (j := 2) rfl
              have z0' := (blk_cell Z4.out 0).trans (show (⟨Pk.cells ⟨ack, num, last, Ax, cx, bx⟩⟩ : Array Value)[0]? = some (.int .i64 ack) from rfl)
              have fz := blk_frozen Z4.out 0
              clear haw
              go_upto_region 11 with (fail)
              have FS := Aside0.mk (Frame.of_set w4 q6 0 (.int .i64 (aw - 1)))
              have Z5 := Aside0.mk ((blk_set Z4.out 0 (.int .i64 (aw - 1))).trans (show _ = some (Obj.cells ⟨Pk.cells ⟨aw - 1, num, last, Ax, cx, bx⟩⟩ 37 (0, 0)) from rfl))
              have H5 := Aside0.mk (below_frame H4.out FS.out H4.out.size (fun k e => by rw [e]; exact NP.out))
              obtain ⟨w5, hw5⟩ : ∃ w5, w4.setCell ⟨q6, 0, none⟩ (.int .i64 (aw - 1)) = w5 := ⟨_, rfl⟩
              rw [hw5] at Z5 H5
              rw [hw5]
              clear hw5 FS Z4 H4 X4 c2 z0' fz
              go_wp2_with ((with_reducible refine gate_dst (N := 42) rfl ?_); refine stop_here ?_)
              refine ⟨?_⟩
              refine wpList_load_row rfl 37 (.tmp 6) rfl q6 rfl 37 ⟨Pk.cells ⟨aw - 1, num, last, Ax, cx, bx⟩⟩ (0, 0) _ Z5.out Tryd.underlying37 rfl rfl ?_
              go_wp2_with ((with_reducible refine gate_dst (N := 43) rfl ?_); refine stop_here ?_)
              refine ⟨?_⟩
              refine made_event rfl ⟨Pk.cells ⟨aw - 1, num, last, Ax, cx, bx⟩⟩ 37 1 ?hr43 ?_
              case hr43 => first | (go_simp; done) | (go_simp; rfl)
              intro gl hgl w6 hbx hb
              have H6 := Aside0.mk (below_step H5.out hb)
              have E6 := Aside0.mk hbx
              have R6 := Aside0.mk (qi_below R3.out H6.out)
              clear hgl hbx hb H5 Z5
              go_wp2_with (at_builtin; refine stop_here ?_)
              refine ⟨?_⟩
              refine pk_event (base := base) (v := u4) (fs := ps) (f := ⟨aw - 1, num, last, Ax, cx, bx⟩) (gl := gl) rfl (.tmp 41) (.tmp 43) rfl rfl rfl R6.out E6.out (by have h1 := congrArg List.length S3.out; rw [List.length_map, List.length_map, List.length_take] at h1; omega) (by have h1 := HB0.out; have h2 := B2.out.size; have h3 := H6.out.size; omega) ?_
              intro v7 w7 hq hg hat
              have FG := Frame.of_grown hg
              have own := fun k (e : some k = u4.ownBlock) => q_typed R6.out k e.symm
              have ty : ∀ k cells, w6.heap[k]? = some (.cells cells 48 (0, 0)) → ¬ some k = u4.ownBlock := fun k cells h1 e => by
                obtain ⟨_, cc, h2⟩ := own k e
                have := h1.symm.trans h2
                simp at this
              have X7 := Aside0.mk (FG.blk (blk_below X2.out H6.out) (ty _ _ (blk_below X2.out H6.out)))
              have Y7 := Aside0.mk (FG.blk (blk_below Y2.out H6.out) (ty _ _ (blk_below Y2.out H6.out)))
              have B7 := Aside0.mk (below_frame (below_step B2.out H6.out) FG (Nat.le_trans B2.out.size H6.out.size) (fun k e => V3.out k e.symm))
              have V7 : Aside0 (∀ k, v7.ownBlock = some k → w.heap.size ≤ k) := ⟨fun k hk => by
                rcases hat with e | ⟨b', e, hb'⟩
                · exact V3.out k (e.symm.trans hk)
                · rw [hk] at e
                  have := Option.some.inj e
                  have := B2.out.size
                  have := H6.out.size
                  omega⟩
              have E7 : Aside0 (∀ p ∈ ps ++ [(⟨aw - 1, num, last, Ax, cx, bx⟩ : Pk)], ∃ q ∈ qs, p.A = q.A ∧ p.b = q.b ∧ p.c = q.c) := ⟨fun p hp => by
                rcases List.mem_append.1 hp with hp | hp
                · exact E3.out p hp
                · obtain rfl := List.mem_singleton.1 hp
                  exact ⟨_, HX2.out, rfl, rfl, rfl⟩⟩
              have S7 : Aside0 ((ps ++ [(⟨aw - 1, num, last, Ax, cx, bx⟩ : Pk)]).map Pk.say = (M.queue.take (i + 1)).map (tellS M)) := ⟨by
                rw [List.map_append, S3.out, HT.out, ← HAW.out]
                rfl⟩
              have R7 := Aside0.mk hq
              clear hq hg hat FG own ty R6 E6 H6 R3 V3 E3 S3 X2 Y2 B2 HT HX2
              go_wp2
              go_roundg (qs.length - i - 1)
              case measure => have := HK.out; have := HLT.out; omega
              case rel => exact ⟨i + 1, _, by omega, by have := HLT.out; omega, by go_num, ⟨by omega⟩, R7, V7, E7, S7, X7, Y7, B7⟩
            · have EI : Aside0 (M.queue.take i = M.queue.take 8) := ⟨by
                by_cases h8 : i < 8
                · rw [List.take_of_length_le (by have := HQ.out; omega), List.take_of_length_le (by have := HQ.out; omega)]
                · rw [show i = 8 by omega]⟩
              have hT : (i : Int) < (qs.length : Int) ∧ ¬ (i : Int) < 8 ∨ ¬ (i : Int) < (qs.length : Int) := by omega
              have f6 := blk_frozen X2.out 6
              have c6 := ref_blk X2.out (j := 6) rfl
              obtain ⟨wt, hwt⟩ : ∃ wt, M.wait = wt := ⟨_, rfl⟩
              have HWT := Aside0.mk hwt
              have wt0' : 1 ≤ wt := by rw [← hwt]; exact wt0
              have wt1' : wt ≤ 16 := by rw [← hwt]; exact wt1
              have c5 : wr.cell? ⟨q1, 5, none⟩ = some (.int .i64 wt) := by rw [← hwt]; exact ref_blk X2.out (j := 5) rfl
              clear hwt
              clear hT
              by_cases hlt2 : i < qs.length
              · have lt2 : (i : Int) < (qs.length : Int) := by omega
                have lt8 : ¬ (i : Int) < 8 := by omega
                go_upto_region 13 with (fail)
                have FS := Aside0.mk (Frame.of_set wr q1 6 (.int .i64 wt))
                have X5 := Aside0.mk ((blk_set X2.out 6 (.int .i64 wt)).trans (show _ = some (Obj.cells ⟨refCells (.slice Av qs.length cq) vk vc { M with left := wt }⟩ 48 (0, 0)) from rfl))
                have Y5 := Aside0.mk (FS.out.blk Y2.out N12.out)
                have B5 := Aside0.mk (below_frame B2.out FS.out B2.out.size (fun k e => by rw [e]; exact N1.out))
                have R5 := Aside0.mk (qi_keep R3.out FS.out (fun k hk e => by
                  obtain ⟨_, cc, h2⟩ := q_typed R3.out k hk
                  have e' : k = q1 := e
                  rw [e'] at h2
                  have := h2.symm.trans X2.out
                  simp at this))
                obtain ⟨w5, hw5⟩ : ∃ w5, wr.setCell ⟨q1, 6, none⟩ (.int .i64 wt) = w5 := ⟨_, rfl⟩
                rw [hw5] at X5 Y5 B5 R5
                rw [hw5]
                clear hw5 FS c5 c6 f6 c0 X2 Y2 B2 R3
                have c5 : w5.cell? ⟨q1, 5, none⟩ = some (.int .i64 wt) := by rw [← HWT.out]; exact ref_blk X5.out (j := 5) rfl
                have f5 := blk_frozen X5.out 5
                go_upto_region 14 with (fail)
                have FS := Aside0.mk (Frame.of_set w5 q1 5 (.int .i64 (2 * wt)))
                have X6 := Aside0.mk ((blk_set X5.out 5 (.int .i64 (2 * wt))).trans (show _ = some (Obj.cells ⟨refCells (.slice Av qs.length cq) vk vc { M with left := wt, wait := 2 * wt }⟩ 48 (0, 0)) from rfl))
                have Y6 := Aside0.mk (FS.out.blk Y5.out N12.out)
                have B6 := Aside0.mk (below_frame B5.out FS.out B5.out.size (fun k e => by rw [e]; exact N1.out))
                have R6 := Aside0.mk (qi_keep R5.out FS.out (fun k hk e => by
                  obtain ⟨_, cc, h2⟩ := q_typed R5.out k hk
                  have e' : k = q1 := e
                  rw [e'] at h2
                  have := h2.symm.trans X5.out
                  simp at this))
                obtain ⟨w6, hw6⟩ : ∃ w6, w5.setCell ⟨q1, 5, none⟩ (.int .i64 (2 * wt)) = w6 := ⟨_, rfl⟩
                rw [hw6] at X6 Y6 B6 R6
                rw [hw6]
                clear hw6 FS c5 f5 X5 Y5 B5 R5
                have c5 : w6.cell? ⟨q1, 5, none⟩ = some (.int .i64 (2 * wt)) := ref_blk X6.out (j := 5) rfl
                have f5 := blk_frozen X6.out 5
                by_cases h16 : 16 < 2 * wt
                · go_wp2
                  go_meet
                  have FS := Frame.of_set w6 q1 5 (.int .i64 16)
                  have hm : min (2 * wt) 16 = 16 := by omega
                  rw [EF.out.1, EF.out.2, HWT.out, hm]
                  exact ⟨ps, ⟨qi_keep R6.out FS (fun k hk e => by
                    obtain ⟨_, cc, h2⟩ := q_typed R6.out k hk
                    have e' : k = q1 := e
                    rw [e'] at h2
                    have := h2.symm.trans X6.out
                    simp at this)⟩, V3, E3, ⟨by rw [S3.out, EI.out]⟩, ⟨(blk_set X6.out 5 (.int .i64 16)).trans rfl⟩, ⟨FS.blk Y6.out N12.out⟩, ⟨below_frame B6.out FS B6.out.size (fun k e => by rw [e]; exact N1.out)⟩⟩
                · have hm : min (2 * wt) 16 = 2 * wt := by omega
                  go_wp2
                  go_meet
                  rw [EF.out.1, EF.out.2, HWT.out, hm]
                  exact ⟨ps, R6, V3, E3, ⟨by rw [S3.out, EI.out]⟩, ⟨X6.out⟩, Y6, B6⟩
              · have lt2 : ¬ (i : Int) < (qs.length : Int) := by omega
                go_upto_region 13 with (fail)
                have FS := Aside0.mk (Frame.of_set wr q1 6 (.int .i64 wt))
                have X5 := Aside0.mk ((blk_set X2.out 6 (.int .i64 wt)).trans (show _ = some (Obj.cells ⟨refCells (.slice Av qs.length cq) vk vc { M with left := wt }⟩ 48 (0, 0)) from rfl))
                have Y5 := Aside0.mk (FS.out.blk Y2.out N12.out)
                have B5 := Aside0.mk (below_frame B2.out FS.out B2.out.size (fun k e => by rw [e]; exact N1.out))
                have R5 := Aside0.mk (qi_keep R3.out FS.out (fun k hk e => by
                  obtain ⟨_, cc, h2⟩ := q_typed R3.out k hk
                  have e' : k = q1 := e
                  rw [e'] at h2
                  have := h2.symm.trans X2.out
                  simp at this))
                obtain ⟨w5, hw5⟩ : ∃ w5, wr.setCell ⟨q1, 6, none⟩ (.int .i64 wt) = w5 := ⟨_, rfl⟩
                rw [hw5] at X5 Y5 B5 R5
                rw [hw5]
                clear hw5 FS c5 c6 f6 c0 X2 Y2 B2 R3
                have c5 : w5.cell? ⟨q1, 5, none⟩ = some (.int .i64 wt) := by rw [← HWT.out]; exact ref_blk X5.out (j := 5) rfl
                have f5 := blk_frozen X5.out 5
                go_upto_region 14 with (fail)
                have FS := Aside0.mk (Frame.of_set w5 q1 5 (.int .i64 (2 * wt)))
                have X6 := Aside0.mk ((blk_set X5.out 5 (.int .i64 (2 * wt))).trans (show _ = some (Obj.cells ⟨refCells (.slice Av qs.length cq) vk vc { M with left := wt, wait := 2 * wt }⟩ 48 (0, 0)) from rfl))
                have Y6 := Aside0.mk (FS.out.blk Y5.out N12.out)
                have B6 := Aside0.mk (below_frame B5.out FS.out B5.out.size (fun k e => by rw [e]; exact N1.out))
                have R6 := Aside0.mk (qi_keep R5.out FS.out (fun k hk e => by
                  obtain ⟨_, cc, h2⟩ := q_typed R5.out k hk
                  have e' : k = q1 := e
                  rw [e'] at h2
                  have := h2.symm.trans X5.out
                  simp at this))
                obtain ⟨w6, hw6⟩ : ∃ w6, w5.setCell ⟨q1, 5, none⟩ (.int .i64 (2 * wt)) = w6 := ⟨_, rfl⟩
                rw [hw6] at X6 Y6 B6 R6
                rw [hw6]
                clear hw6 FS c5 f5 X5 Y5 B5 R5
                have c5 : w6.cell? ⟨q1, 5, none⟩ = some (.int .i64 (2 * wt)) := ref_blk X6.out (j := 5) rfl
                have f5 := blk_frozen X6.out 5
                by_cases h16 : 16 < 2 * wt
                · go_wp2
                  go_meet
                  have FS := Frame.of_set w6 q1 5 (.int .i64 16)
                  have hm : min (2 * wt) 16 = 16 := by omega
                  rw [EF.out.1, EF.out.2, HWT.out, hm]
                  exact ⟨ps, ⟨qi_keep R6.out FS (fun k hk e => by
                    obtain ⟨_, cc, h2⟩ := q_typed R6.out k hk
                    have e' : k = q1 := e
                    rw [e'] at h2
                    have := h2.symm.trans X6.out
                    simp at this)⟩, V3, E3, ⟨by rw [S3.out, EI.out]⟩, ⟨(blk_set X6.out 5 (.int .i64 16)).trans rfl⟩, ⟨FS.blk Y6.out N12.out⟩, ⟨below_frame B6.out FS B6.out.size (fun k e => by rw [e]; exact N1.out)⟩⟩
                · have hm : min (2 * wt) 16 = 2 * wt := by omega
                  go_wp2
                  go_meet
                  rw [EF.out.1, EF.out.2, HWT.out, hm]
                  exact ⟨ps, R6, V3, E3, ⟨by rw [S3.out, EI.out]⟩, ⟨X6.out⟩, Y6, B6⟩
    · have z0 : ¬ 0 < (qs.length : Int) := by omega
      have EL : Aside0 (left1S M = M) := ⟨by
        unfold left1S
        rw [if_neg (by have := HQ.out; omega)]⟩
      have ES : Aside0 (sendsS (left1S M) = false) := ⟨by
        unfold sendsS
        rw [EL.out, decide_eq_false (show ¬ 0 < M.queue.length by have := HQ.out; omega)]
        rfl⟩
      have EF : Aside0 (firstS (left1S M) = [] ∧ afterS (left1S M) = M) := ⟨by
        unfold firstS afterS
        rw [ES.out]
        exact ⟨if_neg (by decide), by rw [if_neg (by decide), EL.out]⟩⟩
      go_wp2
      go_meet
      rw [EF.out.1, EF.out.2]
      exact ⟨[], ⟨nil_row _ _ _ _⟩, ⟨fun k hk => (by cases hk)⟩, ⟨fun p hp => by simp at hp⟩, ⟨rfl⟩, X2, Y2, B2⟩
  case rest =>
    clear c0 c6 f6 X2 Y2 B2
    obtain ⟨ps, R3, V3, E3, S3, X3, Y3, B3⟩ := hcut
    obtain ⟨L2, hL2⟩ : ∃ L2, afterS (left1S M) = L2 := ⟨_, rfl⟩
    rw [hL2] at X3
    have EL2 := Aside0.mk hL2
    have SM := Aside0.mk (show L2.queue = M.queue ∧ L2.kept = M.kept ∧ L2.coming = M.coming ∧ L2.await = M.await by
      rw [← hL2]
      unfold afterS left1S
      split <;> split <;> exact ⟨rfl, rfl, rfl, rfl⟩)
    clear hL2
    obtain ⟨A4, c4, hv4, hc4⟩ := q_slice R3.out
    subst hv4
    obtain ⟨ow, how⟩ : ∃ ow, L2.owes = ow := ⟨_, rfl⟩
    have HOW := Aside0.mk how
    have aw0' : 1 ≤ L2.await := by rw [SM.out.2.2.2]; exact aw0
    have aw1' : L2.await ≤ 4611686018427387904 := by rw [SM.out.2.2.2]; exact aw1
    obtain ⟨aw, haw⟩ : ∃ aw, L2.await = aw := ⟨_, rfl⟩
    have HAW := Aside0.mk haw
    rw [haw] at aw0' aw1'
    have c7 : wc.cell? ⟨q1, 7, none⟩ = some (.bool ow) := by rw [← how]; exact ref_blk X3.out (j := 7) rfl
    have c2 : wc.cell? ⟨q1, 2, none⟩ = some (.int .i64 aw) := by rw [← haw]; exact ref_blk X3.out (j := 2) rfl
    clear how haw
    have LP := Aside0.mk (show ps.length ≤ 8 by have h1 := first_len (left1S M); rw [← S3.out, List.length_map] at h1; exact h1)
    have RD := Aside0.mk (show ∀ p ∈ ps, Rd wc D p from fun p hp => by
      obtain ⟨q, hq, e1, e2, e3⟩ := E3.out p hp
      have h := (I0.out.que.els q hq).below B3.out
      obtain ⟨h1, h2, h3⟩ := h
      rw [← e1, ← e2] at h1
      rw [← e2, ← e3] at h2
      exact ⟨h1, h2, fun hp ad e => h3 (by rw [← e2]; exact hp) ad (by rw [← e1]; exact e)⟩)
    go_upto_region 16 with (fail)
    go_cut [62] (fun v62 w' => (∃ y : Bool, v62 = .bool y ∧ (y = true ↔ (ps = [] ∧ L2.owes = true))) ∧ w' = wc)
    case first =>
      by_cases hp0 : ps.length = 0
      · have hp1 : ((ps.length : Int) == 0) = true := by rw [hp0]; rfl
        go_wp2
        go_meet
        exact ⟨⟨ow, rfl, ⟨fun h => ⟨List.eq_nil_of_length_eq_zero hp0, by rw [HOW.out]; exact h⟩, fun h => by rw [← HOW.out]; exact h.2⟩⟩, rfl⟩
      · have hp1 : ((ps.length : Int) == 0) = false := by
          have : ¬ (ps.length : Int) = 0 := by omega
          simpa using this
        go_wp2
        go_meet
        exact ⟨⟨false, rfl, ⟨fun h => (by cases h), fun h => absurd (by rw [h.1]; rfl) hp0⟩⟩, rfl⟩
    case rest =>
      obtain ⟨⟨y, rfl, hy⟩, hw⟩ := hcut
      have hw' := hw.symm
      subst hw'
      have HY := Aside0.mk hy
      clear hw hy c7
      go_upto_if 62 with (fail)
      go_cut [4] (fun v4 w' => ∃ ps : List Pk, Aside0 (QRow w' base 37 4 v4 ps.length (pkCells ps)) ∧ Aside0 (∀ k, v4.ownBlock = some k → w.heap.size ≤ k) ∧ Aside0 (∀ p ∈ ps, Rd w' D p) ∧ Aside0 (ps.map Pk.say = tickOutS M) ∧ Aside0 (w'.heap[q1]? = some (.cells ⟨refCells (.slice Av qs.length cq) vk vc L2⟩ 48 (0, 0))) ∧ Aside0 (w'.heap[q2]? = some (.cells ⟨refZero⟩ 48 (0, 0))) ∧ Aside0 (Below w.heap.size w w'))
      case first =>
        cases y with
        | false =>
          have EO : Aside0 (ps.map Pk.say = tickOutS M) := ⟨by
            unfold tickOutS outS
            rw [EL2.out, if_neg (fun h => by
              have h2 := HY.out.2 ⟨by rw [← S3.out] at h; exact List.map_eq_nil_iff.1 h.1, h.2⟩
              cases h2)]
            exact S3.out⟩
          go_wp2
          go_meet
          exact ⟨ps, R3, V3, RD, EO, X3, Y3, B3⟩
        | true =>
          have hy2 := HY.out.1 rfl
          have EO : Aside0 (tickOutS M = [⟨aw - 1, 0, false, []⟩]) := ⟨by
            unfold tickOutS outS
            rw [EL2.out, if_pos ⟨by rw [← S3.out, hy2.1]; rfl, hy2.2⟩]
            unfold tellS
            rw [HAW.out]⟩
          obtain ⟨rfl, _⟩ := hy2
          go_wp2_with ((with_reducible refine gate_dst (N := 68) rfl ?_); refine stop_here ?_)
          refine ⟨?_⟩
          refine made_event rfl ⟨Pk.cells ⟨aw - 1, 0, false, none, 0, []⟩⟩ 37 1 ?hr68 ?_
          case hr68 => first | (go_simp; done) | (go_simp; rfl)
          intro gl hgl w6 hbx hb
          have B6 := Aside0.mk (below_step B3.out hb)
          have E6 := Aside0.mk hbx
          have R6 := Aside0.mk (qi_below R3.out hb)
          have X6 := Aside0.mk (blk_below X3.out hb)
          have Y6 := Aside0.mk (blk_below Y3.out hb)
          clear hgl hbx hb X3 Y3 B3 R3 c2
          go_wp2_with (at_builtin; refine stop_here ?_)
          refine ⟨?_⟩
          refine pk_event (base := base) (v := .slice A4 0 c4) (fs := []) (f := ⟨aw - 1, 0, false, none, 0, []⟩) (gl := gl) rfl (.tmp 63) (.tmp 68) rfl rfl rfl R6.out E6.out (by decide) (by have h1 := HB0.out; have h2 := B6.out.size; omega) ?_
          intro v7 w7 hq hg hat
          have FG := Frame.of_grown hg
          have own := fun k (e : some k = (Value.slice A4 0 c4).ownBlock) => q_typed R6.out k e.symm
          have ty : ∀ k cells, w6.heap[k]? = some (.cells cells 48 (0, 0)) → ¬ some k = (Value.slice A4 0 c4).ownBlock := fun k cells h1 e => by
            obtain ⟨_, cc, h2⟩ := own k e
            have := h1.symm.trans h2
            simp at this
          have X7 := Aside0.mk (FG.blk X6.out (ty _ _ X6.out))
          have Y7 := Aside0.mk (FG.blk Y6.out (ty _ _ Y6.out))
          have B7 := Aside0.mk (below_frame B6.out FG B6.out.size (fun k e => V3.out k e.symm))
          have V7 : Aside0 (∀ k, v7.ownBlock = some k → w.heap.size ≤ k) := ⟨fun k hk => by
            rcases hat with e | ⟨b', e, hb'⟩
            · exact V3.out k (e.symm.trans hk)
            · rw [hk] at e
              have := Option.some.inj e
              have := B6.out.size
              omega⟩
          have R7 := Aside0.mk hq
          clear hq hg hat FG own ty
          go_wp2
          go_meet
          refine ⟨[(⟨aw - 1, 0, false, none, 0, []⟩ : Pk)], ⟨R7.out⟩, V7, ⟨fun p hp => ?_⟩, ⟨by rw [EO.out]; rfl⟩, X7, Y7, B7⟩
          obtain rfl := List.mem_singleton.1 hp
          exact ⟨fun h => by simp at h, Nat.le_refl _, fun h => by simp at h⟩
      case rest =>
        clear X3 Y3 B3 R3 V3 E3 S3 RD LP c2 HY
        obtain ⟨ps, R3, V3, RD, EO, X3, Y3, B3⟩ := hcut
        have f7 := blk_frozen X3.out 7
        have c7 : wc.cell? ⟨q1, 7, none⟩ = some (.bool L2.owes) := ref_blk X3.out (j := 7) rfl
        go_upto_region 19 with (fail)
        have FS := Aside0.mk (Frame.of_set wc q1 7 (.bool false))
        have X5 := Aside0.mk ((blk_set X3.out 7 (.bool false)).trans (show _ = some (Obj.cells ⟨refCells (.slice Av qs.length cq) vk vc { L2 with owes := false }⟩ 48 (0, 0)) from rfl))
        have Y5 := Aside0.mk (FS.out.blk Y3.out N12.out)
        have B5 := Aside0.mk (below_frame B3.out FS.out B3.out.size (fun k e => by rw [e]; exact N1.out))
        have R5 := Aside0.mk (qi_keep R3.out FS.out (fun k hk e => by
          obtain ⟨_, cc, h2⟩ := q_typed R3.out k hk
          have e' : k = q1 := e
          rw [e'] at h2
          have := h2.symm.trans X3.out
          simp at this))
        have RD5 := Aside0.mk (show ∀ p ∈ ps, Rd (wc.setCell ⟨q1, 7, none⟩ (.bool false)) D p from fun p hp => rd_set (RD.out p hp) FS.out X3.out (ref_no8 _ _ _ _ rfl (q_no8 I0.out.kep.row) (q_no8 I0.out.com)))
        obtain ⟨w5, hw5⟩ : ∃ w5, wc.setCell ⟨q1, 7, none⟩ (.bool false) = w5 := ⟨_, rfl⟩
        rw [hw5] at X5 Y5 B5 R5 RD5
        rw [hw5]
        clear hw5 FS f7 c7 X3 Y3 B3 R3 RD
        go_wp2_with ((with_reducible refine gate_dst (N := 71) rfl ?_); refine stop_here ?_)
        refine ⟨?_⟩
        refine wpList_load_row rfl 48 (.tmp 1) rfl q1 rfl 48 ⟨refCells (.slice Av qs.length cq) vk vc { L2 with owes := false }⟩ (0, 0) _ X5.out Tryd.underlying48 rfl rfl ?_
        go_wp2_with ((with_reducible refine gate_store (t := 48) (p := 2) rfl ?_); refine stop_here ?_)
        refine ⟨?_⟩
        refine wpList_store_mid rfl 48 (.tmp 2) (.tmp 71) rfl q2 0 ⟨refCells (.slice Av qs.length cq) vk vc { L2 with owes := false }⟩ rfl rfl (by have h := box_there Y5.out; exact h) rfl (ref_all _ _ _ _ rfl (row_one I0.out.kep.row) (row_one I0.out.com)) ?_
        have FS := Aside0.mk (Frame.of_setCells w5 q2 0 (refCells (.slice Av qs.length cq) vk vc { L2 with owes := false }))
        have Y6 := Aside0.mk (box_put (refCells (.slice Av qs.length cq) vk vc { L2 with owes := false }) Y5.out rfl)
        have B6 := Aside0.mk (below_frame B5.out FS.out B5.out.size (fun k e => by rw [e]; exact N2.out))
        have R6 := Aside0.mk (qi_keep R5.out FS.out (fun k hk e => by
          obtain ⟨_, cc, h2⟩ := q_typed R5.out k hk
          have e' : k = q2 := e
          rw [e'] at h2
          have := h2.symm.trans Y5.out
          simp at this))
        obtain ⟨w6, hw6⟩ : ∃ w6, w5.setCells q2 0 (refCells (.slice Av qs.length cq) vk vc { L2 with owes := false }) = w6 := ⟨_, rfl⟩
        have e6 : w5.setCells q2 0 (⟨refCells (.slice Av qs.length cq) vk vc { L2 with owes := false }⟩ : Array Value).toList = w6 := hw6
        rw [e6]
        have RD6 := Aside0.mk (show ∀ p ∈ ps, Rd w6 D p from fun p hp => by
          rw [← hw6]
          exact rd_set (RD5.out p hp) FS.out Y5.out (by unfold refZero; exact ref_no8 _ _ _ _ rfl rfl rfl))
        rw [hw6] at Y6 B6 R6
        clear hw6 e6 FS Y5 B5 R5 RD5 X5
        go_wp2
        have HT : tickS M = { L2 with owes := false } := by rw [← EL2.out]; rfl
        refine bodyPost_ret (results_ct rfl _ _ q2 48 ⟨refCells (.slice Av qs.length cq) vk vc { L2 with owes := false }⟩ (0, 0) _ rfl Y6.out Tryd.underlying48 rfl (by kernel_rfl)) rfl ?_
        refine ⟨⟨_, _, ps, rfl, ⟨_, _, _, qs, ks, by rw [HT], ?_⟩, ⟨R6.out, fun k hk h => by have h1 := V3.out k hk; have h2 := HD.out k h; omega, RD6.out⟩, EO.out⟩, B6.out⟩
        rw [HT]
        exact (I0.out.below B6.out).of SM.out.1 SM.out.2.1 SM.out.2.2.1
end Go.Proofs.YtafjegfmmnjpfaaDoor.LineT
end
section
-- Own text, made by this session out of the translation by wip/tools/xprint.sh: Lean functions with the answers of Go functions, and their walks.
namespace Go.Proofs.YtafjegfmmnjpfaaDoor.YLine
open Go.RowKit Go.Proofs.YtafjegfmmnjpfaaDoorW.PrintWords Go.Proofs.YtafjegfmmnjpfaaDoorW.PrintLast Go.Proofs.YtafjegfmmnjpfaaDoorW.PrintMore
attribute [local go_sem] max2_int min2_int max_two min_two max_three min_three max_four min_four   -- for this text's walks alone
set_option linter.unusedVariables false
set_option linter.unusedSimpArgs false
def shutterref23_find.l0 : Nat → Int → Int → List (S37) → Int → Int → List (S37) → List Int → Int → Int → Bool → Option (Int)
 | 0, _, _, _, _, _, _, _, _, _, _ => none
 | k + 1, x1, x5, x170000, x170001, x170002, x170003, x170004, x170005, x170006, x170007 => if x5 < (x170003.length : Int) then (if 0 ≤ x5 then (if ((rd_T37 x170003 x5).f1) = x1 then (some x5) else (shutterref23_find.l0 k x1 (wrap64 (x5 + 1)) x170000 x170001 x170002 x170003 x170004 x170005 x170006 x170007)) else (none)) else (some (-1))
def shutterref23_find.f (k : Nat) (l0_0 : List (S37)) (a0_1 : Int) (a0_2 : Int) (l0_3 : List (S37)) (l0_4 : List Int) (a0_5 : Int) (a0_6 : Int) (a0_7 : Bool) (a1 : Int) : Option (Int) := shutterref23_find.l0 k a1 0 l0_0 a0_1 a0_2 l0_3 l0_4 a0_5 a0_6 a0_7
theorem shutterref23_find.mono_l : ∀ k, (∀ y0 y1 y2 y3 y4 y5 y6 y7 y8 y9, LeO (shutterref23_find.l0 k y0 y1 y2 y3 y4 y5 y6 y7 y8 y9) (shutterref23_find.l0 (k + 1) y0 y1 y2 y3 y4 y5 y6 y7 y8 y9))
 | 0 => fun _ _ _ _ _ _ _ _ _ _ r h => by simp [shutterref23_find.l0] at h
 | k + 1 => by
  have ih0 := shutterref23_find.mono_l k
  ·intro y0 y1 y2 y3 y4 y5 y6 y7 y8 y9
   unfold shutterref23_find.l0
   repeat' first
   | (with_reducible exact ih0 _ _ _ _ _ _ _ _ _ _)
   | (with_reducible exact LeO.refl _)
   | (with_reducible exact LeO.none _)
   | (with_reducible refine LeO.ite ?_ ?_)
   | (with_reducible refine LeO.bind ?_ (fun _ => ?_))
   | exact ih0 _ _ _ _ _ _ _ _ _ _
   | exact LeO.none _
   | refine LeO.ite ?_ ?_
   | refine LeO.bind ?_ (fun _ => ?_)
theorem shutterref23_find.mono : ∀ a0 a1 a2 a3 a4 a5 a6 a7 a8 k, LeO (shutterref23_find.f k a0 a1 a2 a3 a4 a5 a6 a7 a8) (shutterref23_find.f (k + 1) a0 a1 a2 a3 a4 a5 a6 a7 a8) := by
 intro a0 a1 a2 a3 a4 a5 a6 a7 a8 k
 have ih0 := shutterref23_find.mono_l k
 unfold shutterref23_find.f
 repeat' first
   | (with_reducible exact ih0 _ _ _ _ _ _ _ _ _ _)
   | (with_reducible exact LeO.refl _)
   | (with_reducible exact LeO.none _)
   | (with_reducible refine LeO.ite ?_ ?_)
   | (with_reducible refine LeO.bind ?_ (fun _ => ?_))
   | exact ih0 _ _ _ _ _ _ _ _ _ _
   | exact LeO.none _
   | refine LeO.ite ?_ ?_
   | refine LeO.bind ?_ (fun _ => ?_)
set_option maxHeartbeats 8000000 in
set_option maxRecDepth 100000 in
theorem shutterref23_find.calls (k : Nat) (A0_0 : Option Addr) (c0_0 : Nat) (l0_0 : List (S37)) (a0_1 : Int) (a0_2 : Int) (A0_3 : Option Addr) (c0_3 : Nat) (l0_3 : List (S37)) (A0_4 : Option Addr) (c0_4 : Nat) (l0_4 : List Int) (a0_5 : Int) (a0_6 : Int) (a0_7 : Bool) (a1 : Int) (r : Int) (w : World) (hr0_0 : Kd.C k37 w A0_0 l0_0.length l0_0) (hc0_0 : l0_0.length ≤ c0_0) (hr0_3 : Kd.C k37 w A0_3 l0_3.length l0_3) (hc0_3 : l0_3.length ≤ c0_3) (hr0_4 : Kd.C (Kd.int .u8) w A0_4 l0_4.length l0_4) (hc0_4 : l0_4.length ≤ c0_4) (h : shutterref23_find.f k l0_0 a0_1 a0_2 l0_3 l0_4 a0_5 a0_6 a0_7 a1 = some r) :
  Calls Tryd.prog 34 #[.agg #[.slice A0_0 l0_0.length c0_0, .int .i64 a0_1, .int .i64 a0_2, .slice A0_3 l0_3.length c0_3, .slice A0_4 l0_4.length c0_4, .int .i64 a0_5, .int .i64 a0_6, .bool a0_7], .int .i64 a1] w fun e w' => e = .returned (.int .i64 r) ∧ Below w.heap.size w w' := by
 have hu48 := Tryd.underlying48
 have HR0_0 := Aside0.mk hr0_0
 have HC0_0 := Aside0.mk hc0_0
 clear hr0_0 hc0_0
 have HR0_3 := Aside0.mk hr0_3
 have HC0_3 := Aside0.mk hc0_3
 clear hr0_3 hc0_3
 have HR0_4 := Aside0.mk hr0_4
 have HC0_4 := Aside0.mk hc0_4
 clear hr0_4 hc0_4
 have HB := Aside0.mk (Below.refl w.heap.size w)
 have H : (shutterref23_find.l0 k a1 0 l0_0 a0_1 a0_2 l0_3 l0_4 a0_5 a0_6 a0_7) = some r := h
 clear h
 have H' := Aside0.mk H
 clear H
 go_enter Tryd.func34, Tryd.ntmps34
 go_wp2_with (first | ((with_reducible refine gate_dst (N := 2) rfl ?_); refine box_event ?hg (N := 2) ?hd (cs := #[.slice A0_0 l0_0.length c0_0, .int .i64 a0_1, .int .i64 a0_2, .slice A0_3 l0_3.length c0_3, .slice A0_4 l0_4.length c0_4, .int .i64 a0_5, .int .i64 a0_6, .bool a0_7]) (t := 48) ?hr ?_; (case hd => rfl); (case hg => rfl); (case hr => first | (go_simp; done) | (go_simp; rfl)); intro gb169 hg w3 hbox hb; have n0_ := Aside0.mk (below_step (by repeat (first | (with_reducible first | exact HB.out | apply below_alloc | apply pw_below_drewN | apply below_drew1) | exact HB.out)) hb); have n1_ := Aside0.mk (hbox); have n2_ := Aside0.mk ((by rw [hg]; exact (below_size (by repeat (first | (with_reducible first | exact HB.out | apply below_alloc | apply pw_below_drewN | apply below_drew1) | exact HB.out))) : w.heap.size ≤ gb169)); have n3_ := Aside0.mk ((by rw [hg]; exact (below_size (by repeat (first | (with_reducible first | exact HB.out | apply below_alloc | apply pw_below_drewN | apply below_drew1) | exact HB.out))) : w.heap.size ≤ gb169)); clear HB; have HB := n0_; have BK169 := n1_; have GW169 := n2_; have GE169 := n3_; clear n0_ n1_ n2_ n3_; clear hb hbox hg))
 (try simp only [add_plain])
 go_loopg [5] k (fun kq v5 w' => ∃ (x5_1 : Int), v5 = .int .i64 x5_1 ∧ Aside0 (shutterref23_find.l0 kq a1 x5_1 l0_0 a0_1 a0_2 l0_3 l0_4 a0_5 a0_6 a0_7 = some r) ∧ Aside0 (kq ≤ k) ∧ Aside0 (w'.heap[gb169]? = some (.cells #[(.slice A0_0 l0_0.length c0_0), .int .i64 a0_1, .int .i64 a0_2, (.slice A0_3 l0_3.length c0_3), (.slice A0_4 l0_4.length c0_4), .int .i64 a0_5, .int .i64 a0_6, .bool a0_7] 48 (0, 0))) ∧ Aside0 (Below w.heap.size w w'))
 case atStart => exact ⟨(0), (by first | rfl | (simp; done) | (simp [*]; done)), H', ⟨Nat.le_refl _⟩, ⟨by (with_reducible repeat (first | refine blk_drewN ?_ _ | refine blk_drew ?_ | refine blk_alloc ?_ _)); exact BK169.out⟩, ⟨by repeat (first | (with_reducible first | exact HB.out | apply below_alloc | apply pw_below_drewN | apply below_drew1 | refine below_set ?_ GE169.out) | exact HB.out)⟩⟩
 case round =>
  clear H'
  try clear p2
  try clear c3
  obtain ⟨x5_1, rfl, HA, HK1, BK169, HB⟩ := hrel
  cases gk with
  | zero => exact absurd HA.out (by simp [shutterref23_find.l0])
  | succ k1 =>
   have H := HA.out
   clear HA
   simp only [shutterref23_find.l0] at H
   by_cases c4 : x5_1 < (l0_3.length : Int)
   ·rw [if_pos c4] at H
    have c4b0 : decide (x5_1 < (l0_3.length : Int)) = true := decide_eq_true c4
    clear c4
    by_cases c5 : 0 ≤ x5_1
    ·rw [if_pos c5] at H
     have c5b0 : decide (0 ≤ x5_1) = true := decide_eq_true c5
     clear c5
     by_cases c6 : ((rd_T37 l0_3 x5_1).f1) = a1
     ·rw [if_pos c6] at H
      have c6b0 : (((rd_T37 l0_3 x5_1).f1) == a1) = true := beq_iff_eq.mpr c6
      have c6b1 : (((rd_T37 l0_3 x5_1).f1) != a1) = false := bne_eq_false_iff_eq.mpr c6
      clear c6
      obtain rfl := Option.some.inj H
      have hcz7_0 : wr.cell? ⟨gb169, 0, none⟩ = some (.slice A0_0 l0_0.length c0_0) := (blk_cell BK169.out 0).trans rfl
      have hcz7_1 : wr.cell? ⟨gb169, 1, none⟩ = some (.int .i64 a0_1) := (blk_cell BK169.out 1).trans rfl
      have hcz7_2 : wr.cell? ⟨gb169, 2, none⟩ = some (.int .i64 a0_2) := (blk_cell BK169.out 2).trans rfl
      have hcz7_3 : wr.cell? ⟨gb169, 3, none⟩ = some (.slice A0_3 l0_3.length c0_3) := (blk_cell BK169.out 3).trans rfl
      have hcz7_4 : wr.cell? ⟨gb169, 4, none⟩ = some (.slice A0_4 l0_4.length c0_4) := (blk_cell BK169.out 4).trans rfl
      have hcz7_5 : wr.cell? ⟨gb169, 5, none⟩ = some (.int .i64 a0_5) := (blk_cell BK169.out 5).trans rfl
      have hcz7_6 : wr.cell? ⟨gb169, 6, none⟩ = some (.int .i64 a0_6) := (blk_cell BK169.out 6).trans rfl
      have hcz7_7 : wr.cell? ⟨gb169, 7, none⟩ = some (.bool a0_7) := (blk_cell BK169.out 7).trans rfl
      have hfz7_0 := blk_frozen BK169.out 0
      have hfz7_1 := blk_frozen BK169.out 1
      have hfz7_2 := blk_frozen BK169.out 2
      have hfz7_3 := blk_frozen BK169.out 3
      have hfz7_4 := blk_frozen BK169.out 4
      have hfz7_5 := blk_frozen BK169.out 5
      have hfz7_6 := blk_frozen BK169.out 6
      have hfz7_7 := blk_frozen BK169.out 7
      have p170 : 0 ≤ (x5_1 : Int) := of_decide_eq_true (by first | (with_reducible assumption) | assumption)
      have q170 : x5_1 < (l0_3.length : Int) := of_decide_eq_true (by first | (with_reducible assumption) | assumption)
      obtain ⟨ad170, A170_3, c170_3, e170, hx170_0, hx170_1, hx170_2, hx170_3, hl170_3, hi170_3⟩ := at_T37 HR0_3.out x5_1 p170 q170
      cases e170
      replace hx170_0 := (HB.out.cell (World.block_lt_of_cell? w _ hx170_0)).trans hx170_0
      replace hx170_1 := (HB.out.cell (World.block_lt_of_cell? w _ hx170_1)).trans hx170_1
      replace hx170_2 := (HB.out.cell (World.block_lt_of_cell? w _ hx170_2)).trans hx170_2
      replace hx170_3 := (HB.out.cell (World.block_lt_of_cell? w _ hx170_3)).trans hx170_3
      have HR170_3 := Aside0.mk hi170_3
      have HC170_3 := Aside0.mk hl170_3
      clear hi170_3 hl170_3
      replace p170 := eq_true p170
      replace q170 := eq_true q170
      go_wp2
      go_ret
      exact ⟨by first | rfl | (simp [errW_none, errW_some] <;> rfl) | (simp [*, errW_none, errW_some] <;> rfl), by repeat (first | (with_reducible first | exact HB.out | apply below_alloc | apply pw_below_drewN | apply below_drew1 | refine below_set ?_ GE169.out) | exact HB.out)⟩
     ·rw [if_neg c6] at H
      have c6b0 : (((rd_T37 l0_3 x5_1).f1) == a1) = false := beq_eq_false_iff_ne.mpr c6
      have c6b1 : (((rd_T37 l0_3 x5_1).f1) != a1) = true := bne_iff_ne.mpr c6
      have H' := Aside0.mk H
      clear H
      have hcz8_0 : wr.cell? ⟨gb169, 0, none⟩ = some (.slice A0_0 l0_0.length c0_0) := (blk_cell BK169.out 0).trans rfl
      have hcz8_1 : wr.cell? ⟨gb169, 1, none⟩ = some (.int .i64 a0_1) := (blk_cell BK169.out 1).trans rfl
      have hcz8_2 : wr.cell? ⟨gb169, 2, none⟩ = some (.int .i64 a0_2) := (blk_cell BK169.out 2).trans rfl
      have hcz8_3 : wr.cell? ⟨gb169, 3, none⟩ = some (.slice A0_3 l0_3.length c0_3) := (blk_cell BK169.out 3).trans rfl
      have hcz8_4 : wr.cell? ⟨gb169, 4, none⟩ = some (.slice A0_4 l0_4.length c0_4) := (blk_cell BK169.out 4).trans rfl
      have hcz8_5 : wr.cell? ⟨gb169, 5, none⟩ = some (.int .i64 a0_5) := (blk_cell BK169.out 5).trans rfl
      have hcz8_6 : wr.cell? ⟨gb169, 6, none⟩ = some (.int .i64 a0_6) := (blk_cell BK169.out 6).trans rfl
      have hcz8_7 : wr.cell? ⟨gb169, 7, none⟩ = some (.bool a0_7) := (blk_cell BK169.out 7).trans rfl
      have hfz8_0 := blk_frozen BK169.out 0
      have hfz8_1 := blk_frozen BK169.out 1
      have hfz8_2 := blk_frozen BK169.out 2
      have hfz8_3 := blk_frozen BK169.out 3
      have hfz8_4 := blk_frozen BK169.out 4
      have hfz8_5 := blk_frozen BK169.out 5
      have hfz8_6 := blk_frozen BK169.out 6
      have hfz8_7 := blk_frozen BK169.out 7
      have p170 : 0 ≤ (x5_1 : Int) := of_decide_eq_true (by first | (with_reducible assumption) | assumption)
      have q170 : x5_1 < (l0_3.length : Int) := of_decide_eq_true (by first | (with_reducible assumption) | assumption)
      obtain ⟨ad170, A170_3, c170_3, e170, hx170_0, hx170_1, hx170_2, hx170_3, hl170_3, hi170_3⟩ := at_T37 HR0_3.out x5_1 p170 q170
      cases e170
      replace hx170_0 := (HB.out.cell (World.block_lt_of_cell? w _ hx170_0)).trans hx170_0
      replace hx170_1 := (HB.out.cell (World.block_lt_of_cell? w _ hx170_1)).trans hx170_1
      replace hx170_2 := (HB.out.cell (World.block_lt_of_cell? w _ hx170_2)).trans hx170_2
      replace hx170_3 := (HB.out.cell (World.block_lt_of_cell? w _ hx170_3)).trans hx170_3
      have HR170_3 := Aside0.mk hi170_3
      have HC170_3 := Aside0.mk hl170_3
      clear hi170_3 hl170_3
      replace p170 := eq_true p170
      replace q170 := eq_true q170
      go_wp2
      (try simp only [add_plain])
      go_roundg k1
      case measure => have := HK1.out; omega
      case rel => exact ⟨(wrap64 (x5_1 + 1)), (by first | rfl | (simp; done) | (simp [*]; done)), H', ⟨by have := HK1.out; omega⟩, ⟨by (with_reducible repeat (first | refine blk_drewN ?_ _ | refine blk_drew ?_ | refine blk_alloc ?_ _)); exact BK169.out⟩, ⟨by repeat (first | (with_reducible first | exact HB.out | apply below_alloc | apply pw_below_drewN | apply below_drew1 | refine below_set ?_ GE169.out) | exact HB.out)⟩⟩
    ·rw [if_neg c5] at H
     exact absurd H (by simp)
   ·rw [if_neg c4] at H
    have c4b0 : decide (x5_1 < (l0_3.length : Int)) = false := decide_eq_false c4
    clear c4
    obtain rfl := Option.some.inj H
    have hcz9_0 : wr.cell? ⟨gb169, 0, none⟩ = some (.slice A0_0 l0_0.length c0_0) := (blk_cell BK169.out 0).trans rfl
    have hcz9_1 : wr.cell? ⟨gb169, 1, none⟩ = some (.int .i64 a0_1) := (blk_cell BK169.out 1).trans rfl
    have hcz9_2 : wr.cell? ⟨gb169, 2, none⟩ = some (.int .i64 a0_2) := (blk_cell BK169.out 2).trans rfl
    have hcz9_3 : wr.cell? ⟨gb169, 3, none⟩ = some (.slice A0_3 l0_3.length c0_3) := (blk_cell BK169.out 3).trans rfl
    have hcz9_4 : wr.cell? ⟨gb169, 4, none⟩ = some (.slice A0_4 l0_4.length c0_4) := (blk_cell BK169.out 4).trans rfl
    have hcz9_5 : wr.cell? ⟨gb169, 5, none⟩ = some (.int .i64 a0_5) := (blk_cell BK169.out 5).trans rfl
    have hcz9_6 : wr.cell? ⟨gb169, 6, none⟩ = some (.int .i64 a0_6) := (blk_cell BK169.out 6).trans rfl
    have hcz9_7 : wr.cell? ⟨gb169, 7, none⟩ = some (.bool a0_7) := (blk_cell BK169.out 7).trans rfl
    have hfz9_0 := blk_frozen BK169.out 0
    have hfz9_1 := blk_frozen BK169.out 1
    have hfz9_2 := blk_frozen BK169.out 2
    have hfz9_3 := blk_frozen BK169.out 3
    have hfz9_4 := blk_frozen BK169.out 4
    have hfz9_5 := blk_frozen BK169.out 5
    have hfz9_6 := blk_frozen BK169.out 6
    have hfz9_7 := blk_frozen BK169.out 7
    go_wp2
    go_ret
    exact ⟨by first | rfl | (simp [errW_none, errW_some] <;> rfl) | (simp [*, errW_none, errW_some] <;> rfl), by repeat (first | (with_reducible first | exact HB.out | apply below_alloc | apply pw_below_drewN | apply below_drew1 | refine below_set ?_ GE169.out) | exact HB.out)⟩

-- NOT PRINTED: function 18 (shutterref23_Hear)
end Go.Proofs.YtafjegfmmnjpfaaDoor.YLine
end
section
-- Own text, made by this session out of the translation by wip/tools/xprint.sh: Lean functions with the answers of Go functions, and their walks.
namespace Go.Proofs.YtafjegfmmnjpfaaDoor.YLine
open Go.RowKit Go.Proofs.YtafjegfmmnjpfaaDoorW.PrintWords Go.Proofs.YtafjegfmmnjpfaaDoorW.PrintLast Go.Proofs.YtafjegfmmnjpfaaDoorW.PrintMore
attribute [local go_sem] max2_int min2_int max_two min_two max_three min_three max_four min_four   -- for this text's walks alone
set_option linter.unusedVariables false
set_option linter.unusedSimpArgs false
def shutterref01_Same.l0 : Nat → List Int → List Int → Int → Option (Bool)
 | 0, _, _, _ => none
 | k + 1, x0, x1, x5 => if x5 < (x0.length : Int) then (if 0 ≤ x5 then (if x5 < (x1.length : Int) then (if (rd x0 x5) = (rd x1 x5) then (shutterref01_Same.l0 k x0 x1 (wrap64 (x5 + 1))) else (some false)) else (none)) else (none)) else (some true)
def shutterref01_Same.f (k : Nat) (l0 : List Int) (l1 : List Int) : Option (Bool) := if (l0.length : Int) = (l1.length : Int) then (shutterref01_Same.l0 k l0 l1 0) else (some false)
theorem shutterref01_Same.mono_l : ∀ k, (∀ y0 y1 y2, LeO (shutterref01_Same.l0 k y0 y1 y2) (shutterref01_Same.l0 (k + 1) y0 y1 y2))
 | 0 => fun _ _ _ r h => by simp [shutterref01_Same.l0] at h
 | k + 1 => by
  have ih0 := shutterref01_Same.mono_l k
  ·intro y0 y1 y2
   unfold shutterref01_Same.l0
   repeat' first
   | (with_reducible exact ih0 _ _ _)
   | (with_reducible exact LeO.refl _)
   | (with_reducible exact LeO.none _)
   | (with_reducible refine LeO.ite ?_ ?_)
   | (with_reducible refine LeO.bind ?_ (fun _ => ?_))
   | exact ih0 _ _ _
   | exact LeO.none _
   | refine LeO.ite ?_ ?_
   | refine LeO.bind ?_ (fun _ => ?_)
theorem shutterref01_Same.mono : ∀ a0 a1 k, LeO (shutterref01_Same.f k a0 a1) (shutterref01_Same.f (k + 1) a0 a1) := by
 intro a0 a1 k
 have ih0 := shutterref01_Same.mono_l k
 unfold shutterref01_Same.f
 repeat' first
   | (with_reducible exact ih0 _ _ _)
   | (with_reducible exact LeO.refl _)
   | (with_reducible exact LeO.none _)
   | (with_reducible refine LeO.ite ?_ ?_)
   | (with_reducible refine LeO.bind ?_ (fun _ => ?_))
   | exact ih0 _ _ _
   | exact LeO.none _
   | refine LeO.ite ?_ ?_
   | refine LeO.bind ?_ (fun _ => ?_)
set_option maxHeartbeats 8000000 in
set_option maxRecDepth 100000 in
theorem shutterref01_Same.calls (k : Nat) (A0 : Option Addr) (c0 : Nat) (l0 : List Int) (A1 : Option Addr) (c1 : Nat) (l1 : List Int) (r : Bool) (w : World) (hr0 : Kd.C (Kd.int .u8) w A0 l0.length l0) (hc0 : l0.length ≤ c0) (hr1 : Kd.C (Kd.int .u8) w A1 l1.length l1) (hc1 : l1.length ≤ c1) (h : shutterref01_Same.f k l0 l1 = some r) :
  Calls Tryd.prog 49 #[.slice A0 l0.length c0, .slice A1 l1.length c1] w fun e w' => e = .returned (.bool r) ∧ Drawn0 w w' := by
 have HR0 := Aside0.mk hr0
 have HC0 := Aside0.mk hc0
 clear hr0 hc0
 have HR1 := Aside0.mk hr1
 have HC1 := Aside0.mk hc1
 clear hr1 hc1
 have H : (if (l0.length : Int) = (l1.length : Int) then (shutterref01_Same.l0 k l0 l1 0) else (some false)) = some r := h
 clear h
 by_cases c3 : (l0.length : Int) = (l1.length : Int)
 ·rw [if_pos c3] at H
  have c3b0 : ((l0.length : Int) == (l1.length : Int)) = true := beq_iff_eq.mpr c3
  have c3b1 : ((l0.length : Int) != (l1.length : Int)) = false := bne_eq_false_iff_eq.mpr c3
  have c3b2 : (l0.length == l1.length) = true := by first | simpa using c3 | (simp at c3 ⊢; omega)
  clear c3
  have H' := Aside0.mk H
  clear H
  go_enter Tryd.func49, Tryd.ntmps49
  go_wp2
  repeat (go_quiet (fail); try go_wp2)
  (try simp only [add_plain])
  go_loopg [5] k (fun kq v5 w' => ∃ (x5_1 : Int), v5 = .int .i64 x5_1 ∧ Aside0 (shutterref01_Same.l0 kq l0 l1 x5_1 = some r) ∧ Aside0 (kq ≤ k) ∧ Drawn0 w w')
  case atStart => exact ⟨(0), (by first | rfl | (simp; done) | (simp [*]; done)), H', ⟨Nat.le_refl _⟩, by repeat (first | exact Drawn0.refl _ | apply Drawn0.step)⟩
  case round =>
   clear H'
   try clear c1
   try clear p2
   try clear c3
   try clear c3b0
   try clear c3b1
   try clear c3b2
   obtain ⟨x5_1, rfl, HA, HK1, ⟨m1, rfl⟩⟩ := hrel
   cases gk with
   | zero => exact absurd HA.out (by simp [shutterref01_Same.l0])
   | succ k1 =>
    have H := HA.out
    clear HA
    simp only [shutterref01_Same.l0] at H
    by_cases c4 : x5_1 < (l0.length : Int)
    ·rw [if_pos c4] at H
     have c4b0 : decide (x5_1 < (l0.length : Int)) = true := decide_eq_true c4
     clear c4
     by_cases c5 : 0 ≤ x5_1
     ·rw [if_pos c5] at H
      have c5b0 : decide (0 ≤ x5_1) = true := decide_eq_true c5
      clear c5
      by_cases c6 : x5_1 < (l1.length : Int)
      ·rw [if_pos c6] at H
       have c6b0 : decide (x5_1 < (l1.length : Int)) = true := decide_eq_true c6
       clear c6
       by_cases c7 : (rd l0 x5_1) = (rd l1 x5_1)
       ·rw [if_pos c7] at H
        have c7b0 : ((rd l0 x5_1) == (rd l1 x5_1)) = true := beq_iff_eq.mpr c7
        have c7b1 : ((rd l0 x5_1) != (rd l1 x5_1)) = false := bne_eq_false_iff_eq.mpr c7
        clear c7
        have H' := Aside0.mk H
        clear H
        have p252 : 0 ≤ (x5_1 : Int) := of_decide_eq_true (by first | (with_reducible assumption) | assumption)
        have q252 : x5_1 < (l0.length : Int) := of_decide_eq_true (by first | (with_reducible assumption) | assumption)
        obtain ⟨ad252, e252, hx252_0⟩ := Kd.at_int HR0.out x5_1 p252 q252
        cases e252
        replace p252 := eq_true p252
        replace q252 := eq_true q252
        have p253 : 0 ≤ (x5_1 : Int) := of_decide_eq_true (by first | (with_reducible assumption) | assumption)
        have q253 : x5_1 < (l1.length : Int) := of_decide_eq_true (by first | (with_reducible assumption) | assumption)
        obtain ⟨ad253, e253, hx253_0⟩ := Kd.at_int HR1.out x5_1 p253 q253
        cases e253
        replace p253 := eq_true p253
        replace q253 := eq_true q253
        go_wp2
        repeat (go_quiet (fail); try go_wp2)
        (try simp only [add_plain])
        go_roundg k1
        case measure => have := HK1.out; omega
        case rel => exact ⟨(wrap64 (x5_1 + 1)), (by first | rfl | (simp; done) | (simp [*]; done)), H', ⟨by have := HK1.out; omega⟩, by repeat (first | exact Drawn0.refl _ | apply Drawn0.step)⟩
       ·rw [if_neg c7] at H
        have c7b0 : ((rd l0 x5_1) == (rd l1 x5_1)) = false := beq_eq_false_iff_ne.mpr c7
        have c7b1 : ((rd l0 x5_1) != (rd l1 x5_1)) = true := bne_iff_ne.mpr c7
        obtain rfl := Option.some.inj H
        have p252 : 0 ≤ (x5_1 : Int) := of_decide_eq_true (by first | (with_reducible assumption) | assumption)
        have q252 : x5_1 < (l0.length : Int) := of_decide_eq_true (by first | (with_reducible assumption) | assumption)
        obtain ⟨ad252, e252, hx252_0⟩ := Kd.at_int HR0.out x5_1 p252 q252
        cases e252
        replace p252 := eq_true p252
        replace q252 := eq_true q252
        have p253 : 0 ≤ (x5_1 : Int) := of_decide_eq_true (by first | (with_reducible assumption) | assumption)
        have q253 : x5_1 < (l1.length : Int) := of_decide_eq_true (by first | (with_reducible assumption) | assumption)
        obtain ⟨ad253, e253, hx253_0⟩ := Kd.at_int HR1.out x5_1 p253 q253
        cases e253
        replace p253 := eq_true p253
        replace q253 := eq_true q253
        go_wp2
        repeat (go_quiet (fail); try go_wp2)
        go_ret
        exact ⟨by first | rfl | (simp; done) | (simp [IntKind.wrap_u8, i64_w]; done) | (simp only [IntKind.wrap_u8, IntKind.wrap_i64, i64_w]; done) | (simp [*]; done), by repeat (first | exact Drawn0.refl _ | apply Drawn0.step)⟩
      ·rw [if_neg c6] at H
       exact absurd H (by simp)
     ·rw [if_neg c5] at H
      exact absurd H (by simp)
    ·rw [if_neg c4] at H
     have c4b0 : decide (x5_1 < (l0.length : Int)) = false := decide_eq_false c4
     clear c4
     obtain rfl := Option.some.inj H
     go_wp2
     repeat (go_quiet (fail); try go_wp2)
     go_ret
     exact ⟨by first | rfl | (simp; done) | (simp [IntKind.wrap_u8, i64_w]; done) | (simp only [IntKind.wrap_u8, IntKind.wrap_i64, i64_w]; done) | (simp [*]; done), by repeat (first | exact Drawn0.refl _ | apply Drawn0.step)⟩
 ·rw [if_neg c3] at H
  have c3b0 : ((l0.length : Int) == (l1.length : Int)) = false := beq_eq_false_iff_ne.mpr c3
  have c3b1 : ((l0.length : Int) != (l1.length : Int)) = true := bne_iff_ne.mpr c3
  have c3b2 : (l0.length == l1.length) = false := by first | simpa using c3 | (simp at c3 ⊢; omega)
  obtain rfl := Option.some.inj H
  go_enter Tryd.func49, Tryd.ntmps49
  go_wp2
  repeat (go_quiet (fail); try go_wp2)
  go_ret
  exact ⟨by first | rfl | (simp; done) | (simp [IntKind.wrap_u8, i64_w]; done) | (simp only [IntKind.wrap_u8, IntKind.wrap_i64, i64_w]; done) | (simp [*]; done), by repeat (first | exact Drawn0.refl _ | apply Drawn0.step)⟩
def shutterref22_Same.f (k : Nat) (a0_0 : Int) (a0_1 : Int) (a0_2 : Bool) (l0_3 : List Int) (a1_0 : Int) (a1_1 : Int) (a1_2 : Bool) (l1_3 : List Int) : Option (Bool) := if a0_0 = a1_0 then (if a0_1 = a1_1 then (if (a0_2 == a1_2) = true then ((shutterref01_Same.f k l0_3 l1_3).bind fun t256 => (some t256)) else (some false)) else (some false)) else (some false)
theorem shutterref22_Same.mono : ∀ a0 a1 a2 a3 a4 a5 a6 a7 k, LeO (shutterref22_Same.f k a0 a1 a2 a3 a4 a5 a6 a7) (shutterref22_Same.f (k + 1) a0 a1 a2 a3 a4 a5 a6 a7) := by
 intro a0 a1 a2 a3 a4 a5 a6 a7 k
 unfold shutterref22_Same.f
 repeat' first
   | (with_reducible exact shutterref01_Same.mono _ _ _)
   | (with_reducible exact LeO.refl _)
   | (with_reducible exact LeO.none _)
   | (with_reducible refine LeO.ite ?_ ?_)
   | (with_reducible refine LeO.bind ?_ (fun _ => ?_))
   | exact shutterref01_Same.mono _ _ _
   | exact LeO.none _
   | refine LeO.ite ?_ ?_
   | refine LeO.bind ?_ (fun _ => ?_)
set_option maxHeartbeats 8000000 in
set_option maxRecDepth 100000 in
theorem shutterref22_Same.calls (k : Nat) (a0_0 : Int) (a0_1 : Int) (a0_2 : Bool) (A0_3 : Option Addr) (c0_3 : Nat) (l0_3 : List Int) (a1_0 : Int) (a1_1 : Int) (a1_2 : Bool) (A1_3 : Option Addr) (c1_3 : Nat) (l1_3 : List Int) (r : Bool) (w : World) (hr0_3 : Kd.C (Kd.int .u8) w A0_3 l0_3.length l0_3) (hc0_3 : l0_3.length ≤ c0_3) (hr1_3 : Kd.C (Kd.int .u8) w A1_3 l1_3.length l1_3) (hc1_3 : l1_3.length ≤ c1_3) (h : shutterref22_Same.f k a0_0 a0_1 a0_2 l0_3 a1_0 a1_1 a1_2 l1_3 = some r) :
  Calls Tryd.prog 36 #[.agg #[.int .i64 a0_0, .int .i64 a0_1, .bool a0_2, .slice A0_3 l0_3.length c0_3], .agg #[.int .i64 a1_0, .int .i64 a1_1, .bool a1_2, .slice A1_3 l1_3.length c1_3]] w fun e w' => e = .returned (.bool r) ∧ Below w.heap.size w w' := by
 have hu37 := Tryd.underlying37
 have HR0_3 := Aside0.mk hr0_3
 have HC0_3 := Aside0.mk hc0_3
 clear hr0_3 hc0_3
 have HR1_3 := Aside0.mk hr1_3
 have HC1_3 := Aside0.mk hc1_3
 clear hr1_3 hc1_3
 have HB := Aside0.mk (Below.refl w.heap.size w)
 have H : (if a0_0 = a1_0 then (if a0_1 = a1_1 then (if (a0_2 == a1_2) = true then ((shutterref01_Same.f k l0_3 l1_3).bind fun t256 => (some t256)) else (some false)) else (some false)) else (some false)) = some r := h
 clear h
 by_cases c3 : a0_0 = a1_0
 ·rw [if_pos c3] at H
  have c3b0 : (a0_0 == a1_0) = true := beq_iff_eq.mpr c3
  have c3b1 : (a0_0 != a1_0) = false := bne_eq_false_iff_eq.mpr c3
  clear c3
  by_cases c4 : a0_1 = a1_1
  ·rw [if_pos c4] at H
   have c4b0 : (a0_1 == a1_1) = true := beq_iff_eq.mpr c4
   have c4b1 : (a0_1 != a1_1) = false := bne_eq_false_iff_eq.mpr c4
   clear c4
   by_cases c5 : (a0_2 == a1_2) = true
   ·rw [if_pos c5] at H
    have c5b0 : (a0_2 == a1_2) = true := c5
    (try (have c5b1 : decide (a0_2 = a1_2) = true := by simpa using c5))
    (try (have c5b2 : (a0_2 == a1_2) = true := by simpa using c5))
    clear c5
    replace H := Option.bind_eq_some_iff.mp H
    obtain ⟨t256, A60, H⟩ := H
    replace H : (some t256) = some r := H
    have A6 := Aside0.mk A60
    clear A60
    obtain rfl := Option.some.inj H
    go_enter Tryd.func36, Tryd.ntmps36
    go_wp2_with (first | ((with_reducible refine gate_dst (N := 2) rfl ?_); refine box_event ?hg (N := 2) ?hd (cs := #[.int .i64 a0_0, .int .i64 a0_1, .bool a0_2, .slice A0_3 l0_3.length c0_3]) (t := 37) ?hr ?_; (case hd => rfl); (case hg => rfl); (case hr => first | (go_simp; done) | (go_simp; rfl)); intro gb254 hg w7 hbox hb; have n0_ := Aside0.mk (below_step (by repeat (first | (with_reducible first | exact HB.out | apply below_alloc | apply pw_below_drewN | apply below_drew1) | exact HB.out)) hb); have n1_ := Aside0.mk (hbox); have n2_ := Aside0.mk ((by rw [hg]; exact (below_size (by repeat (first | (with_reducible first | exact HB.out | apply below_alloc | apply pw_below_drewN | apply below_drew1) | exact HB.out))) : w.heap.size ≤ gb254)); have n3_ := Aside0.mk ((by rw [hg]; exact (below_size (by repeat (first | (with_reducible first | exact HB.out | apply below_alloc | apply pw_below_drewN | apply below_drew1) | exact HB.out))) : w.heap.size ≤ gb254)); clear HB; have HB := n0_; have BK254 := n1_; have GW254 := n2_; have GE254 := n3_; clear n0_ n1_ n2_ n3_; clear hb hbox hg) | ((with_reducible refine gate_dst (N := 3) rfl ?_); refine box_event ?hg (N := 3) ?hd (cs := #[.int .i64 a1_0, .int .i64 a1_1, .bool a1_2, .slice A1_3 l1_3.length c1_3]) (t := 37) ?hr ?_; (case hd => rfl); (case hg => rfl); (case hr => first | (go_simp; done) | (go_simp; rfl)); intro gb255 hg w8 hbox hb; have n0_ := Aside0.mk (blk_below (g := gb254) (o := .cells #[.int .i64 a0_0, .int .i64 a0_1, .bool a0_2, .slice A0_3 l0_3.length c0_3] 37 (0, 0)) (by (with_reducible repeat (first | refine blk_drewN ?_ _ | refine blk_drew ?_ | refine blk_alloc ?_ _)); exact BK254.out) hb); have n1_ := Aside0.mk (below_step (by repeat (first | (with_reducible first | exact HB.out | apply below_alloc | apply pw_below_drewN | apply below_drew1 | refine below_set ?_ GE254.out) | exact HB.out)) hb); have n2_ := Aside0.mk (hbox); have n3_ := Aside0.mk ((by rw [hg]; exact (below_size (by repeat (first | (with_reducible first | exact HB.out | apply below_alloc | apply pw_below_drewN | apply below_drew1 | refine below_set ?_ GE254.out) | exact HB.out))) : w.heap.size ≤ gb255)); have n4_ := Aside0.mk ((by rw [hg]; exact (below_size (by repeat (first | (with_reducible first | exact HB.out | apply below_alloc | apply pw_below_drewN | apply below_drew1 | refine below_set ?_ GE254.out) | exact HB.out))) : w.heap.size ≤ gb255)); have n5_ := Aside0.mk ((by rw [hg]; exact Nat.ne_of_lt (blk_lt (g := gb254) (o := .cells #[.int .i64 a0_0, .int .i64 a0_1, .bool a0_2, .slice A0_3 l0_3.length c0_3] 37 (0, 0)) (by (with_reducible repeat (first | refine blk_drewN ?_ _ | refine blk_drew ?_ | refine blk_alloc ?_ _)); exact BK254.out)) : gb254 ≠ gb255)); have n6_ := Aside0.mk ((by rw [hg]; exact Nat.ne_of_gt (blk_lt (g := gb254) (o := .cells #[.int .i64 a0_0, .int .i64 a0_1, .bool a0_2, .slice A0_3 l0_3.length c0_3] 37 (0, 0)) (by (with_reducible repeat (first | refine blk_drewN ?_ _ | refine blk_drew ?_ | refine blk_alloc ?_ _)); exact BK254.out)) : gb255 ≠ gb254)); clear BK254; clear HB; have BK254 := n0_; have HB := n1_; have BK255 := n2_; have GW255 := n3_; have GE255 := n4_; have NB254_255 := n5_; have NB255_254 := n6_; clear n0_ n1_ n2_ n3_ n4_ n5_ n6_; clear hb hbox hg; have hnb9 := NB254_255.out; have hnc9 := NB255_254.out; have hcz10_0 : w8.cell? ⟨gb254, 0, none⟩ = some (.int .i64 a0_0) := (blk_cell BK254.out 0).trans rfl; have hcz10_1 : w8.cell? ⟨gb254, 1, none⟩ = some (.int .i64 a0_1) := (blk_cell BK254.out 1).trans rfl; have hcz10_2 : w8.cell? ⟨gb254, 2, none⟩ = some (.bool a0_2) := (blk_cell BK254.out 2).trans rfl; have hcz10_3 : w8.cell? ⟨gb254, 3, none⟩ = some (.slice A0_3 l0_3.length c0_3) := (blk_cell BK254.out 3).trans rfl; have hfz10_0 := blk_frozen BK254.out 0; have hfz10_1 := blk_frozen BK254.out 1; have hfz10_2 := blk_frozen BK254.out 2; have hfz10_3 := blk_frozen BK254.out 3; have hcz11_0 : w8.cell? ⟨gb255, 0, none⟩ = some (.int .i64 a1_0) := (blk_cell BK255.out 0).trans rfl; have hcz11_1 : w8.cell? ⟨gb255, 1, none⟩ = some (.int .i64 a1_1) := (blk_cell BK255.out 1).trans rfl; have hcz11_2 : w8.cell? ⟨gb255, 2, none⟩ = some (.bool a1_2) := (blk_cell BK255.out 2).trans rfl; have hcz11_3 : w8.cell? ⟨gb255, 3, none⟩ = some (.slice A1_3 l1_3.length c1_3) := (blk_cell BK255.out 3).trans rfl; have hfz11_0 := blk_frozen BK255.out 0; have hfz11_1 := blk_frozen BK255.out 1; have hfz11_2 := blk_frozen BK255.out 2; have hfz11_3 := blk_frozen BK255.out 3) | (go_at_call 49; (with_reducible refine (shutterref01_Same.calls k _ _ l0_3 _ _ l1_3 t256 _ ?side1 ?side2 ?side3 ?side4 A6.out).mono ?_); (case side1 => repeat (first | exact (Kd.C_below HR0_3.out HB.out) | (with_reducible refine Kd.C_alloc ?_ _) | (with_reducible refine Kd.C_drewN ?_ _) | (with_reducible refine Kd.C_drew ?_))); (case side2 => exact HC0_3.out); (case side3 => repeat (first | exact (Kd.C_below HR1_3.out HB.out) | (with_reducible refine Kd.C_alloc ?_ _) | (with_reducible refine Kd.C_drewN ?_ _) | (with_reducible refine Kd.C_drew ?_))); (case side4 => exact HC1_3.out); rintro e w' ⟨rfl, ⟨nd, rfl⟩⟩))
    go_ret
    exact ⟨by first | rfl | (simp [errW_none, errW_some] <;> rfl) | (simp [*, errW_none, errW_some] <;> rfl), by repeat (first | (with_reducible first | exact HB.out | apply below_alloc | apply pw_below_drewN | apply below_drew1 | refine below_set ?_ GE254.out | refine below_set ?_ GE255.out) | exact HB.out)⟩
   ·rw [if_neg c5] at H
    have c5b0 : (a0_2 == a1_2) = false := by simpa using c5
    (try (have c5b1 : decide (a0_2 = a1_2) = false := by simpa using c5))
    (try (have c5b2 : (a0_2 == a1_2) = false := by simpa using c5))
    (try (have c5b3 : ¬ (a0_2 = a1_2) := by simpa using c5))
    clear c5
    obtain rfl := Option.some.inj H
    go_enter Tryd.func36, Tryd.ntmps36
    go_wp2_with (first | ((with_reducible refine gate_dst (N := 2) rfl ?_); refine box_event ?hg (N := 2) ?hd (cs := #[.int .i64 a0_0, .int .i64 a0_1, .bool a0_2, .slice A0_3 l0_3.length c0_3]) (t := 37) ?hr ?_; (case hd => rfl); (case hg => rfl); (case hr => first | (go_simp; done) | (go_simp; rfl)); intro gb254 hg w12 hbox hb; have n0_ := Aside0.mk (below_step (by repeat (first | (with_reducible first | exact HB.out | apply below_alloc | apply pw_below_drewN | apply below_drew1) | exact HB.out)) hb); have n1_ := Aside0.mk (hbox); have n2_ := Aside0.mk ((by rw [hg]; exact (below_size (by repeat (first | (with_reducible first | exact HB.out | apply below_alloc | apply pw_below_drewN | apply below_drew1) | exact HB.out))) : w.heap.size ≤ gb254)); have n3_ := Aside0.mk ((by rw [hg]; exact (below_size (by repeat (first | (with_reducible first | exact HB.out | apply below_alloc | apply pw_below_drewN | apply below_drew1) | exact HB.out))) : w.heap.size ≤ gb254)); clear HB; have HB := n0_; have BK254 := n1_; have GW254 := n2_; have GE254 := n3_; clear n0_ n1_ n2_ n3_; clear hb hbox hg) | ((with_reducible refine gate_dst (N := 3) rfl ?_); refine box_event ?hg (N := 3) ?hd (cs := #[.int .i64 a1_0, .int .i64 a1_1, .bool a1_2, .slice A1_3 l1_3.length c1_3]) (t := 37) ?hr ?_; (case hd => rfl); (case hg => rfl); (case hr => first | (go_simp; done) | (go_simp; rfl)); intro gb255 hg w13 hbox hb; have n0_ := Aside0.mk (blk_below (g := gb254) (o := .cells #[.int .i64 a0_0, .int .i64 a0_1, .bool a0_2, .slice A0_3 l0_3.length c0_3] 37 (0, 0)) (by (with_reducible repeat (first | refine blk_drewN ?_ _ | refine blk_drew ?_ | refine blk_alloc ?_ _)); exact BK254.out) hb); have n1_ := Aside0.mk (below_step (by repeat (first | (with_reducible first | exact HB.out | apply below_alloc | apply pw_below_drewN | apply below_drew1 | refine below_set ?_ GE254.out) | exact HB.out)) hb); have n2_ := Aside0.mk (hbox); have n3_ := Aside0.mk ((by rw [hg]; exact (below_size (by repeat (first | (with_reducible first | exact HB.out | apply below_alloc | apply pw_below_drewN | apply below_drew1 | refine below_set ?_ GE254.out) | exact HB.out))) : w.heap.size ≤ gb255)); have n4_ := Aside0.mk ((by rw [hg]; exact (below_size (by repeat (first | (with_reducible first | exact HB.out | apply below_alloc | apply pw_below_drewN | apply below_drew1 | refine below_set ?_ GE254.out) | exact HB.out))) : w.heap.size ≤ gb255)); have n5_ := Aside0.mk ((by rw [hg]; exact Nat.ne_of_lt (blk_lt (g := gb254) (o := .cells #[.int .i64 a0_0, .int .i64 a0_1, .bool a0_2, .slice A0_3 l0_3.length c0_3] 37 (0, 0)) (by (with_reducible repeat (first | refine blk_drewN ?_ _ | refine blk_drew ?_ | refine blk_alloc ?_ _)); exact BK254.out)) : gb254 ≠ gb255)); have n6_ := Aside0.mk ((by rw [hg]; exact Nat.ne_of_gt (blk_lt (g := gb254) (o := .cells #[.int .i64 a0_0, .int .i64 a0_1, .bool a0_2, .slice A0_3 l0_3.length c0_3] 37 (0, 0)) (by (with_reducible repeat (first | refine blk_drewN ?_ _ | refine blk_drew ?_ | refine blk_alloc ?_ _)); exact BK254.out)) : gb255 ≠ gb254)); clear BK254; clear HB; have BK254 := n0_; have HB := n1_; have BK255 := n2_; have GW255 := n3_; have GE255 := n4_; have NB254_255 := n5_; have NB255_254 := n6_; clear n0_ n1_ n2_ n3_ n4_ n5_ n6_; clear hb hbox hg; have hnb14 := NB254_255.out; have hnc14 := NB255_254.out; have hcz15_0 : w13.cell? ⟨gb254, 0, none⟩ = some (.int .i64 a0_0) := (blk_cell BK254.out 0).trans rfl; have hcz15_1 : w13.cell? ⟨gb254, 1, none⟩ = some (.int .i64 a0_1) := (blk_cell BK254.out 1).trans rfl; have hcz15_2 : w13.cell? ⟨gb254, 2, none⟩ = some (.bool a0_2) := (blk_cell BK254.out 2).trans rfl; have hcz15_3 : w13.cell? ⟨gb254, 3, none⟩ = some (.slice A0_3 l0_3.length c0_3) := (blk_cell BK254.out 3).trans rfl; have hfz15_0 := blk_frozen BK254.out 0; have hfz15_1 := blk_frozen BK254.out 1; have hfz15_2 := blk_frozen BK254.out 2; have hfz15_3 := blk_frozen BK254.out 3; have hcz16_0 : w13.cell? ⟨gb255, 0, none⟩ = some (.int .i64 a1_0) := (blk_cell BK255.out 0).trans rfl; have hcz16_1 : w13.cell? ⟨gb255, 1, none⟩ = some (.int .i64 a1_1) := (blk_cell BK255.out 1).trans rfl; have hcz16_2 : w13.cell? ⟨gb255, 2, none⟩ = some (.bool a1_2) := (blk_cell BK255.out 2).trans rfl; have hcz16_3 : w13.cell? ⟨gb255, 3, none⟩ = some (.slice A1_3 l1_3.length c1_3) := (blk_cell BK255.out 3).trans rfl; have hfz16_0 := blk_frozen BK255.out 0; have hfz16_1 := blk_frozen BK255.out 1; have hfz16_2 := blk_frozen BK255.out 2; have hfz16_3 := blk_frozen BK255.out 3))
    go_ret
    exact ⟨by first | rfl | (simp [errW_none, errW_some] <;> rfl) | (simp [*, errW_none, errW_some] <;> rfl), by repeat (first | (with_reducible first | exact HB.out | apply below_alloc | apply pw_below_drewN | apply below_drew1 | refine below_set ?_ GE254.out | refine below_set ?_ GE255.out) | exact HB.out)⟩
  ·rw [if_neg c4] at H
   have c4b0 : (a0_1 == a1_1) = false := beq_eq_false_iff_ne.mpr c4
   have c4b1 : (a0_1 != a1_1) = true := bne_iff_ne.mpr c4
   obtain rfl := Option.some.inj H
   go_enter Tryd.func36, Tryd.ntmps36
   go_wp2_with (first | ((with_reducible refine gate_dst (N := 2) rfl ?_); refine box_event ?hg (N := 2) ?hd (cs := #[.int .i64 a0_0, .int .i64 a0_1, .bool a0_2, .slice A0_3 l0_3.length c0_3]) (t := 37) ?hr ?_; (case hd => rfl); (case hg => rfl); (case hr => first | (go_simp; done) | (go_simp; rfl)); intro gb254 hg w17 hbox hb; have n0_ := Aside0.mk (below_step (by repeat (first | (with_reducible first | exact HB.out | apply below_alloc | apply pw_below_drewN | apply below_drew1) | exact HB.out)) hb); have n1_ := Aside0.mk (hbox); have n2_ := Aside0.mk ((by rw [hg]; exact (below_size (by repeat (first | (with_reducible first | exact HB.out | apply below_alloc | apply pw_below_drewN | apply below_drew1) | exact HB.out))) : w.heap.size ≤ gb254)); have n3_ := Aside0.mk ((by rw [hg]; exact (below_size (by repeat (first | (with_reducible first | exact HB.out | apply below_alloc | apply pw_below_drewN | apply below_drew1) | exact HB.out))) : w.heap.size ≤ gb254)); clear HB; have HB := n0_; have BK254 := n1_; have GW254 := n2_; have GE254 := n3_; clear n0_ n1_ n2_ n3_; clear hb hbox hg) | ((with_reducible refine gate_dst (N := 3) rfl ?_); refine box_event ?hg (N := 3) ?hd (cs := #[.int .i64 a1_0, .int .i64 a1_1, .bool a1_2, .slice A1_3 l1_3.length c1_3]) (t := 37) ?hr ?_; (case hd => rfl); (case hg => rfl); (case hr => first | (go_simp; done) | (go_simp; rfl)); intro gb255 hg w18 hbox hb; have n0_ := Aside0.mk (blk_below (g := gb254) (o := .cells #[.int .i64 a0_0, .int .i64 a0_1, .bool a0_2, .slice A0_3 l0_3.length c0_3] 37 (0, 0)) (by (with_reducible repeat (first | refine blk_drewN ?_ _ | refine blk_drew ?_ | refine blk_alloc ?_ _)); exact BK254.out) hb); have n1_ := Aside0.mk (below_step (by repeat (first | (with_reducible first | exact HB.out | apply below_alloc | apply pw_below_drewN | apply below_drew1 | refine below_set ?_ GE254.out) | exact HB.out)) hb); have n2_ := Aside0.mk (hbox); have n3_ := Aside0.mk ((by rw [hg]; exact (below_size (by repeat (first | (with_reducible first | exact HB.out | apply below_alloc | apply pw_below_drewN | apply below_drew1 | refine below_set ?_ GE254.out) | exact HB.out))) : w.heap.size ≤ gb255)); have n4_ := Aside0.mk ((by rw [hg]; exact (below_size (by repeat (first | (with_reducible first | exact HB.out | apply below_alloc | apply pw_below_drewN | apply below_drew1 | refine below_set ?_ GE254.out) | exact HB.out))) : w.heap.size ≤ gb255)); have n5_ := Aside0.mk ((by rw [hg]; exact Nat.ne_of_lt (blk_lt (g := gb254) (o := .cells #[.int .i64 a0_0, .int .i64 a0_1, .bool a0_2, .slice A0_3 l0_3.length c0_3] 37 (0, 0)) (by (with_reducible repeat (first | refine blk_drewN ?_ _ | refine blk_drew ?_ | refine blk_alloc ?_ _)); exact BK254.out)) : gb254 ≠ gb255)); have n6_ := Aside0.mk ((by rw [hg]; exact Nat.ne_of_gt (blk_lt (g := gb254) (o := .cells #[.int .i64 a0_0, .int .i64 a0_1, .bool a0_2, .slice A0_3 l0_3.length c0_3] 37 (0, 0)) (by (with_reducible repeat (first | refine blk_drewN ?_ _ | refine blk_drew ?_ | refine blk_alloc ?_ _)); exact BK254.out)) : gb255 ≠ gb254)); clear BK254; clear HB; have BK254 := n0_; have HB := n1_; have BK255 := n2_; have GW255 := n3_; have GE255 := n4_; have NB254_255 := n5_; have NB255_254 := n6_; clear n0_ n1_ n2_ n3_ n4_ n5_ n6_; clear hb hbox hg; have hnb19 := NB254_255.out; have hnc19 := NB255_254.out; have hcz20_0 : w18.cell? ⟨gb254, 0, none⟩ = some (.int .i64 a0_0) := (blk_cell BK254.out 0).trans rfl; have hcz20_1 : w18.cell? ⟨gb254, 1, none⟩ = some (.int .i64 a0_1) := (blk_cell BK254.out 1).trans rfl; have hcz20_2 : w18.cell? ⟨gb254, 2, none⟩ = some (.bool a0_2) := (blk_cell BK254.out 2).trans rfl; have hcz20_3 : w18.cell? ⟨gb254, 3, none⟩ = some (.slice A0_3 l0_3.length c0_3) := (blk_cell BK254.out 3).trans rfl; have hfz20_0 := blk_frozen BK254.out 0; have hfz20_1 := blk_frozen BK254.out 1; have hfz20_2 := blk_frozen BK254.out 2; have hfz20_3 := blk_frozen BK254.out 3; have hcz21_0 : w18.cell? ⟨gb255, 0, none⟩ = some (.int .i64 a1_0) := (blk_cell BK255.out 0).trans rfl; have hcz21_1 : w18.cell? ⟨gb255, 1, none⟩ = some (.int .i64 a1_1) := (blk_cell BK255.out 1).trans rfl; have hcz21_2 : w18.cell? ⟨gb255, 2, none⟩ = some (.bool a1_2) := (blk_cell BK255.out 2).trans rfl; have hcz21_3 : w18.cell? ⟨gb255, 3, none⟩ = some (.slice A1_3 l1_3.length c1_3) := (blk_cell BK255.out 3).trans rfl; have hfz21_0 := blk_frozen BK255.out 0; have hfz21_1 := blk_frozen BK255.out 1; have hfz21_2 := blk_frozen BK255.out 2; have hfz21_3 := blk_frozen BK255.out 3))
   go_ret
   exact ⟨by first | rfl | (simp [errW_none, errW_some] <;> rfl) | (simp [*, errW_none, errW_some] <;> rfl), by repeat (first | (with_reducible first | exact HB.out | apply below_alloc | apply pw_below_drewN | apply below_drew1 | refine below_set ?_ GE254.out | refine below_set ?_ GE255.out) | exact HB.out)⟩
 ·rw [if_neg c3] at H
  have c3b0 : (a0_0 == a1_0) = false := beq_eq_false_iff_ne.mpr c3
  have c3b1 : (a0_0 != a1_0) = true := bne_iff_ne.mpr c3
  obtain rfl := Option.some.inj H
  go_enter Tryd.func36, Tryd.ntmps36
  go_wp2_with (first | ((with_reducible refine gate_dst (N := 2) rfl ?_); refine box_event ?hg (N := 2) ?hd (cs := #[.int .i64 a0_0, .int .i64 a0_1, .bool a0_2, .slice A0_3 l0_3.length c0_3]) (t := 37) ?hr ?_; (case hd => rfl); (case hg => rfl); (case hr => first | (go_simp; done) | (go_simp; rfl)); intro gb254 hg w22 hbox hb; have n0_ := Aside0.mk (below_step (by repeat (first | (with_reducible first | exact HB.out | apply below_alloc | apply pw_below_drewN | apply below_drew1) | exact HB.out)) hb); have n1_ := Aside0.mk (hbox); have n2_ := Aside0.mk ((by rw [hg]; exact (below_size (by repeat (first | (with_reducible first | exact HB.out | apply below_alloc | apply pw_below_drewN | apply below_drew1) | exact HB.out))) : w.heap.size ≤ gb254)); have n3_ := Aside0.mk ((by rw [hg]; exact (below_size (by repeat (first | (with_reducible first | exact HB.out | apply below_alloc | apply pw_below_drewN | apply below_drew1) | exact HB.out))) : w.heap.size ≤ gb254)); clear HB; have HB := n0_; have BK254 := n1_; have GW254 := n2_; have GE254 := n3_; clear n0_ n1_ n2_ n3_; clear hb hbox hg) | ((with_reducible refine gate_dst (N := 3) rfl ?_); refine box_event ?hg (N := 3) ?hd (cs := #[.int .i64 a1_0, .int .i64 a1_1, .bool a1_2, .slice A1_3 l1_3.length c1_3]) (t := 37) ?hr ?_; (case hd => rfl); (case hg => rfl); (case hr => first | (go_simp; done) | (go_simp; rfl)); intro gb255 hg w23 hbox hb; have n0_ := Aside0.mk (blk_below (g := gb254) (o := .cells #[.int .i64 a0_0, .int .i64 a0_1, .bool a0_2, .slice A0_3 l0_3.length c0_3] 37 (0, 0)) (by (with_reducible repeat (first | refine blk_drewN ?_ _ | refine blk_drew ?_ | refine blk_alloc ?_ _)); exact BK254.out) hb); have n1_ := Aside0.mk (below_step (by repeat (first | (with_reducible first | exact HB.out | apply below_alloc | apply pw_below_drewN | apply below_drew1 | refine below_set ?_ GE254.out) | exact HB.out)) hb); have n2_ := Aside0.mk (hbox); have n3_ := Aside0.mk ((by rw [hg]; exact (below_size (by repeat (first | (with_reducible first | exact HB.out | apply below_alloc | apply pw_below_drewN | apply below_drew1 | refine below_set ?_ GE254.out) | exact HB.out))) : w.heap.size ≤ gb255)); have n4_ := Aside0.mk ((by rw [hg]; exact (below_size (by repeat (first | (with_reducible first | exact HB.out | apply below_alloc | apply pw_below_drewN | apply below_drew1 | refine below_set ?_ GE254.out) | exact HB.out))) : w.heap.size ≤ gb255)); have n5_ := Aside0.mk ((by rw [hg]; exact Nat.ne_of_lt (blk_lt (g := gb254) (o := .cells #[.int .i64 a0_0, .int .i64 a0_1, .bool a0_2, .slice A0_3 l0_3.length c0_3] 37 (0, 0)) (by (with_reducible repeat (first | refine blk_drewN ?_ _ | refine blk_drew ?_ | refine blk_alloc ?_ _)); exact BK254.out)) : gb254 ≠ gb255)); have n6_ := Aside0.mk ((by rw [hg]; exact Nat.ne_of_gt (blk_lt (g := gb254) (o := .cells #[.int .i64 a0_0, .int .i64 a0_1, .bool a0_2, .slice A0_3 l0_3.length c0_3] 37 (0, 0)) (by (with_reducible repeat (first | refine blk_drewN ?_ _ | refine blk_drew ?_ | refine blk_alloc ?_ _)); exact BK254.out)) : gb255 ≠ gb254)); clear BK254; clear HB; have BK254 := n0_; have HB := n1_; have BK255 := n2_; have GW255 := n3_; have GE255 := n4_; have NB254_255 := n5_; have NB255_254 := n6_; clear n0_ n1_ n2_ n3_ n4_ n5_ n6_; clear hb hbox hg; have hnb24 := NB254_255.out; have hnc24 := NB255_254.out; have hcz25_0 : w23.cell? ⟨gb254, 0, none⟩ = some (.int .i64 a0_0) := (blk_cell BK254.out 0).trans rfl; have hcz25_1 : w23.cell? ⟨gb254, 1, none⟩ = some (.int .i64 a0_1) := (blk_cell BK254.out 1).trans rfl; have hcz25_2 : w23.cell? ⟨gb254, 2, none⟩ = some (.bool a0_2) := (blk_cell BK254.out 2).trans rfl; have hcz25_3 : w23.cell? ⟨gb254, 3, none⟩ = some (.slice A0_3 l0_3.length c0_3) := (blk_cell BK254.out 3).trans rfl; have hfz25_0 := blk_frozen BK254.out 0; have hfz25_1 := blk_frozen BK254.out 1; have hfz25_2 := blk_frozen BK254.out 2; have hfz25_3 := blk_frozen BK254.out 3; have hcz26_0 : w23.cell? ⟨gb255, 0, none⟩ = some (.int .i64 a1_0) := (blk_cell BK255.out 0).trans rfl; have hcz26_1 : w23.cell? ⟨gb255, 1, none⟩ = some (.int .i64 a1_1) := (blk_cell BK255.out 1).trans rfl; have hcz26_2 : w23.cell? ⟨gb255, 2, none⟩ = some (.bool a1_2) := (blk_cell BK255.out 2).trans rfl; have hcz26_3 : w23.cell? ⟨gb255, 3, none⟩ = some (.slice A1_3 l1_3.length c1_3) := (blk_cell BK255.out 3).trans rfl; have hfz26_0 := blk_frozen BK255.out 0; have hfz26_1 := blk_frozen BK255.out 1; have hfz26_2 := blk_frozen BK255.out 2; have hfz26_3 := blk_frozen BK255.out 3))
  go_ret
  exact ⟨by first | rfl | (simp [errW_none, errW_some] <;> rfl) | (simp [*, errW_none, errW_some] <;> rfl), by repeat (first | (with_reducible first | exact HB.out | apply below_alloc | apply pw_below_drewN | apply below_drew1 | refine below_set ?_ GE254.out | refine below_set ?_ GE255.out) | exact HB.out)⟩
def shutterref22_SameAll.l0 : Nat → List (S37) → List (S37) → Int → Option (Bool)
 | 0, _, _, _ => none
 | k + 1, x0, x1, x5 => if x5 < (x0.length : Int) then (if 0 ≤ x5 then (if x5 < (x1.length : Int) then ((shutterref22_Same.f k ((rd_T37 x0 x5).f0) ((rd_T37 x0 x5).f1) ((rd_T37 x0 x5).f2) ((rd_T37 x0 x5).f3) ((rd_T37 x1 x5).f0) ((rd_T37 x1 x5).f1) ((rd_T37 x1 x5).f2) ((rd_T37 x1 x5).f3)).bind fun t259 => (if t259 = true then (shutterref22_SameAll.l0 k x0 x1 (wrap64 (x5 + 1))) else (some false))) else (none)) else (none)) else (some true)
def shutterref22_SameAll.f (k : Nat) (l0 : List (S37)) (l1 : List (S37)) : Option (Bool) := if (l0.length : Int) = (l1.length : Int) then (shutterref22_SameAll.l0 k l0 l1 0) else (some false)
theorem shutterref22_SameAll.mono_l : ∀ k, (∀ y0 y1 y2, LeO (shutterref22_SameAll.l0 k y0 y1 y2) (shutterref22_SameAll.l0 (k + 1) y0 y1 y2))
 | 0 => fun _ _ _ r h => by simp [shutterref22_SameAll.l0] at h
 | k + 1 => by
  have ih0 := shutterref22_SameAll.mono_l k
  ·intro y0 y1 y2
   unfold shutterref22_SameAll.l0
   repeat' first
   | (with_reducible exact ih0 _ _ _)
   | (with_reducible exact shutterref22_Same.mono _ _ _ _ _ _ _ _ _)
   | (with_reducible exact LeO.refl _)
   | (with_reducible exact LeO.none _)
   | (with_reducible refine LeO.ite ?_ ?_)
   | (with_reducible refine LeO.bind ?_ (fun _ => ?_))
   | exact ih0 _ _ _
   | exact shutterref22_Same.mono _ _ _ _ _ _ _ _ _
   | exact LeO.none _
   | refine LeO.ite ?_ ?_
   | refine LeO.bind ?_ (fun _ => ?_)
theorem shutterref22_SameAll.mono : ∀ a0 a1 k, LeO (shutterref22_SameAll.f k a0 a1) (shutterref22_SameAll.f (k + 1) a0 a1) := by
 intro a0 a1 k
 have ih0 := shutterref22_SameAll.mono_l k
 unfold shutterref22_SameAll.f
 repeat' first
   | (with_reducible exact ih0 _ _ _)
   | (with_reducible exact shutterref22_Same.mono _ _ _ _ _ _ _ _ _)
   | (with_reducible exact LeO.refl _)
   | (with_reducible exact LeO.none _)
   | (with_reducible refine LeO.ite ?_ ?_)
   | (with_reducible refine LeO.bind ?_ (fun _ => ?_))
   | exact ih0 _ _ _
   | exact shutterref22_Same.mono _ _ _ _ _ _ _ _ _
   | exact LeO.none _
   | refine LeO.ite ?_ ?_
   | refine LeO.bind ?_ (fun _ => ?_)
def shutterref22_SameAll.T6 : Bool × List (List Nat × List Nat) := (true, [([], []), ([], []), ([0, 1], [0, 1]), ([2], [2]), ([], []), ([], []), ([4, 5], [4, 5]), ([6], [6]), ([3, 7], [3, 7]), ([8], [8])])
def shutterref22_SameAll.B6 : List Nat := [0, 0, 3, 7, 0, 0, 48, 112, 255, 511]
theorem shutterref22_SameAll.tab6 : rtab .any (opsOf Tryd.f22 6) = shutterref22_SameAll.T6 := by kernel_rfl
theorem shutterref22_SameAll.bits6 : waitsOk shutterref22_SameAll.T6.2 shutterref22_SameAll.B6 = true := by kernel_rfl
set_option maxHeartbeats 8000000 in
set_option maxRecDepth 100000 in
theorem shutterref22_SameAll.calls (k : Nat) (A0 : Option Addr) (c0 : Nat) (l0 : List (S37)) (A1 : Option Addr) (c1 : Nat) (l1 : List (S37)) (r : Bool) (w : World) (hr0 : Kd.C k37 w A0 l0.length l0) (hc0 : l0.length ≤ c0) (hr1 : Kd.C k37 w A1 l1.length l1) (hc1 : l1.length ≤ c1) (h : shutterref22_SameAll.f k l0 l1 = some r) :
  Calls Tryd.prog 22 #[.slice A0 l0.length c0, .slice A1 l1.length c1] w fun e w' => e = .returned (.bool r) ∧ Below w.heap.size w w' := by
 have hu37 := Tryd.underlying37
 have HR0 := Aside0.mk hr0
 have HC0 := Aside0.mk hc0
 clear hr0 hc0
 have HR1 := Aside0.mk hr1
 have HC1 := Aside0.mk hc1
 clear hr1 hc1
 have HB := Aside0.mk (Below.refl w.heap.size w)
 have H : (if (l0.length : Int) = (l1.length : Int) then (shutterref22_SameAll.l0 k l0 l1 0) else (some false)) = some r := h
 clear h
 by_cases c3 : (l0.length : Int) = (l1.length : Int)
 ·rw [if_pos c3] at H
  have c3b0 : ((l0.length : Int) == (l1.length : Int)) = true := beq_iff_eq.mpr c3
  have c3b1 : ((l0.length : Int) != (l1.length : Int)) = false := bne_eq_false_iff_eq.mpr c3
  have c3b2 : (l0.length == l1.length) = true := by first | simpa using c3 | (simp at c3 ⊢; omega)
  clear c3
  have H' := Aside0.mk H
  clear H
  go_enter Tryd.func22, Tryd.ntmps22
  go_wp2
  (try simp only [add_plain])
  go_loopg [5] k (fun kq v5 w' => ∃ (x5_1 : Int), v5 = .int .i64 x5_1 ∧ Aside0 (shutterref22_SameAll.l0 kq l0 l1 x5_1 = some r) ∧ Aside0 (kq ≤ k) ∧ Aside0 (Below w.heap.size w w'))
  case atStart => exact ⟨(0), (by first | rfl | (simp; done) | (simp [*]; done)), H', ⟨Nat.le_refl _⟩, ⟨by repeat (first | (with_reducible first | exact HB.out | apply below_alloc | apply pw_below_drewN | apply below_drew1) | exact HB.out)⟩⟩
  case round =>
   clear H'
   try clear c1
   try clear c2
   try clear p2
   try clear c3
   try clear c3b0
   try clear c3b1
   try clear c3b2
   obtain ⟨x5_1, rfl, HA, HK1, HB⟩ := hrel
   cases gk with
   | zero => exact absurd HA.out (by simp [shutterref22_SameAll.l0])
   | succ k1 =>
    have H := HA.out
    clear HA
    simp only [shutterref22_SameAll.l0] at H
    by_cases c4 : x5_1 < (l0.length : Int)
    ·rw [if_pos c4] at H
     have c4b0 : decide (x5_1 < (l0.length : Int)) = true := decide_eq_true c4
     clear c4
     by_cases c5 : 0 ≤ x5_1
     ·rw [if_pos c5] at H
      have c5b0 : decide (0 ≤ x5_1) = true := decide_eq_true c5
      clear c5
      by_cases c6 : x5_1 < (l1.length : Int)
      ·rw [if_pos c6] at H
       have c6b0 : decide (x5_1 < (l1.length : Int)) = true := decide_eq_true c6
       clear c6
       replace H := Option.bind_eq_some_iff.mp H
       obtain ⟨t259, A70, H⟩ := H
       replace H : (if t259 = true then (shutterref22_SameAll.l0 k1 l0 l1 (wrap64 (x5_1 + 1))) else (some false)) = some r := H
       have A7 := Aside0.mk A70
       clear A70
       by_cases c8 : t259 = true
       ·subst c8
        have H1 : (shutterref22_SameAll.l0 k1 l0 l1 (wrap64 (x5_1 + 1))) = some r := by rw [if_pos rfl] at H; exact H
        clear H
        have H := H1
        clear H1
        have H' := Aside0.mk H
        clear H
        try go_wp2
        have n0_ := Aside0.mk (below_drew1 HB.out)
        clear HB
        have HB := n0_
        clear n0_
        have p257 : 0 ≤ (x5_1 : Int) := of_decide_eq_true (by first | (with_reducible assumption) | assumption)
        have q257 : x5_1 < (l0.length : Int) := of_decide_eq_true (by first | (with_reducible assumption) | assumption)
        obtain ⟨ad257, A257_3, c257_3, e257, hx257_0, hx257_1, hx257_2, hx257_3, hl257_3, hi257_3⟩ := at_T37 HR0.out x5_1 p257 q257
        have hw257_3 := hx257_3
        have hw257_2 := hx257_2
        have hw257_1 := hx257_1
        have hw257_0 := hx257_0
        cases e257
        replace hx257_0 := (HB.out.cell (World.block_lt_of_cell? w _ hx257_0)).trans hx257_0
        replace hx257_1 := (HB.out.cell (World.block_lt_of_cell? w _ hx257_1)).trans hx257_1
        replace hx257_2 := (HB.out.cell (World.block_lt_of_cell? w _ hx257_2)).trans hx257_2
        replace hx257_3 := (HB.out.cell (World.block_lt_of_cell? w _ hx257_3)).trans hx257_3
        have HR257_3 := Aside0.mk hi257_3
        have HC257_3 := Aside0.mk hl257_3
        clear hi257_3 hl257_3
        replace p257 := eq_true p257
        replace q257 := eq_true q257
        have p258 : 0 ≤ (x5_1 : Int) := of_decide_eq_true (by first | (with_reducible assumption) | assumption)
        have q258 : x5_1 < (l1.length : Int) := of_decide_eq_true (by first | (with_reducible assumption) | assumption)
        obtain ⟨ad258, A258_3, c258_3, e258, hx258_0, hx258_1, hx258_2, hx258_3, hl258_3, hi258_3⟩ := at_T37 HR1.out x5_1 p258 q258
        have hw258_3 := hx258_3
        have hw258_2 := hx258_2
        have hw258_1 := hx258_1
        have hw258_0 := hx258_0
        cases e258
        replace hx258_0 := (HB.out.cell (World.block_lt_of_cell? w _ hx258_0)).trans hx258_0
        replace hx258_1 := (HB.out.cell (World.block_lt_of_cell? w _ hx258_1)).trans hx258_1
        replace hx258_2 := (HB.out.cell (World.block_lt_of_cell? w _ hx258_2)).trans hx258_2
        replace hx258_3 := (HB.out.cell (World.block_lt_of_cell? w _ hx258_3)).trans hx258_3
        have HR258_3 := Aside0.mk hi258_3
        have HC258_3 := Aside0.mk hl258_3
        clear hi258_3 hl258_3
        replace p258 := eq_true p258
        replace q258 := eq_true q258
        refine start_ (n := 10) (S := fun w' => w'.cell? (ad257.add ((x5_1).toNat * 4)) = some (.int .i64 ((rd_T37 l0 x5_1).f0)) ∧ w'.cell? ⟨(ad257.add ((x5_1).toNat * 4)).block, (ad257.add ((x5_1).toNat * 4)).off + 1, none⟩ = some (.int .i64 ((rd_T37 l0 x5_1).f1)) ∧ w'.cell? ⟨(ad257.add ((x5_1).toNat * 4)).block, (ad257.add ((x5_1).toNat * 4)).off + 2, none⟩ = some (.bool ((rd_T37 l0 x5_1).f2)) ∧ w'.cell? ⟨(ad257.add ((x5_1).toNat * 4)).block, (ad257.add ((x5_1).toNat * 4)).off + 3, none⟩ = some (.slice A257_3 ((rd_T37 l0 x5_1).f3).length c257_3) ∧ w'.cell? (ad258.add ((x5_1).toNat * 4)) = some (.int .i64 ((rd_T37 l1 x5_1).f0)) ∧ w'.cell? ⟨(ad258.add ((x5_1).toNat * 4)).block, (ad258.add ((x5_1).toNat * 4)).off + 1, none⟩ = some (.int .i64 ((rd_T37 l1 x5_1).f1)) ∧ w'.cell? ⟨(ad258.add ((x5_1).toNat * 4)).block, (ad258.add ((x5_1).toNat * 4)).off + 2, none⟩ = some (.bool ((rd_T37 l1 x5_1).f2)) ∧ w'.cell? ⟨(ad258.add ((x5_1).toNat * 4)).block, (ad258.add ((x5_1).toNat * 4)).off + 3, none⟩ = some (.slice A258_3 ((rd_T37 l1 x5_1).f3).length c258_3)) (ds := []) #[false, false, false, false, false, false, false, false, false, false] (by kernel_rfl) rfl rfl ⟨((HB.out.cell (World.block_lt_of_cell? w _ hw257_0)).trans hw257_0), ((HB.out.cell (World.block_lt_of_cell? w _ hw257_1)).trans hw257_1), ((HB.out.cell (World.block_lt_of_cell? w _ hw257_2)).trans hw257_2), ((HB.out.cell (World.block_lt_of_cell? w _ hw257_3)).trans hw257_3), ((HB.out.cell (World.block_lt_of_cell? w _ hw258_0)).trans hw258_0), ((HB.out.cell (World.block_lt_of_cell? w _ hw258_1)).trans hw258_1), ((HB.out.cell (World.block_lt_of_cell? w _ hw258_2)).trans hw258_2), ((HB.out.cell (World.block_lt_of_cell? w _ hw258_3)).trans hw258_3)⟩ (fun hHeld => ?_); refine with_tabW shutterref22_SameAll.tab6 shutterref22_SameAll.bits6 (fun HT_ HW_ => ?_)
        generalize wr.drew = w9 at HB HR257_3 HR258_3 hx257_0 hx257_1 hx257_2 hx257_3 hx258_0 hx258_1 hx258_2 hx258_3 hHeld ⊢
        refine pure_ (i := 0) (N := some 17) (v := ?_) (a' := ?_) #[true, false, false, false, false, false, false, false, false, false] rfl rfl (any_of HT_.out (by kernel_rfl)) (fun _ _ _ h => h) (Or.inl ⟨by rfl, ?_⟩) ?_ ?_
        rotate_left
        ·intro w'
         go_simp
         with_reducible rfl
        rotate_left
        ·simp only [Act.put, List.setIfInBounds_toArray, List.set_cons_zero, List.set_cons_succ, i64_w, i32_w]
         rfl
        refine pure_ (i := 1) (N := some 18) (v := ?_) (a' := ?_) #[true, true, false, false, false, false, false, false, false, false] rfl rfl (any_of HT_.out (by kernel_rfl)) (fun _ _ _ h => h) (Or.inl ⟨by rfl, ?_⟩) ?_ ?_
        rotate_left
        ·intro w'
         go_simp
         with_reducible rfl
        rotate_left
        ·simp only [Act.put, List.setIfInBounds_toArray, List.set_cons_zero, List.set_cons_succ, i64_w, i32_w]
         rfl
        refine pure_ (i := 2) (N := some 19) (v := ?_) (a' := ?_) #[true, true, true, false, false, false, false, false, false, false] rfl rfl (any_of HT_.out (by kernel_rfl)) (fun _ _ _ h => h) (Or.inl ⟨by rfl, ?_⟩) ?_ ?_
        rotate_left
        ·intro w'
         go_simp
         with_reducible rfl
        rotate_left
        ·simp only [Act.put, List.setIfInBounds_toArray, List.set_cons_zero, List.set_cons_succ, i64_w, i32_w]
         rfl
        refine pure_ (i := 4) (N := some 21) (v := ?_) (a' := ?_) #[true, true, true, false, true, false, false, false, false, false] rfl rfl (any_of HT_.out (by kernel_rfl)) (fun _ _ _ h => h) (Or.inl ⟨by rfl, ?_⟩) ?_ ?_
        rotate_left
        ·intro w'
         go_simp
         with_reducible rfl
        rotate_left
        ·simp only [Act.put, List.setIfInBounds_toArray, List.set_cons_zero, List.set_cons_succ, i64_w, i32_w]
         rfl
        refine pure_ (i := 5) (N := some 22) (v := ?_) (a' := ?_) #[true, true, true, false, true, true, false, false, false, false] rfl rfl (any_of HT_.out (by kernel_rfl)) (fun _ _ _ h => h) (Or.inl ⟨by rfl, ?_⟩) ?_ ?_
        rotate_left
        ·intro w'
         go_simp
         with_reducible rfl
        rotate_left
        ·simp only [Act.put, List.setIfInBounds_toArray, List.set_cons_zero, List.set_cons_succ, i64_w, i32_w]
         rfl
        refine pure_ (i := 6) (N := some 23) (v := ?_) (a' := ?_) #[true, true, true, false, true, true, true, false, false, false] rfl rfl (any_of HT_.out (by kernel_rfl)) (fun _ _ _ h => h) (Or.inl ⟨by rfl, ?_⟩) ?_ ?_
        rotate_left
        ·intro w'
         go_simp
         with_reducible rfl
        rotate_left
        ·simp only [Act.put, List.setIfInBounds_toArray, List.set_cons_zero, List.set_cons_succ, i64_w, i32_w]
         rfl
        refine take_ (i := 3) (N := some 20) (v := ?_) (a' := ?_) #[true, true, true, true, true, true, true, false, false, false] rfl rfl (take_ofW HT_.out HW_.out (by kernel_rfl)) (fun _ _ _ h => h) (Or.inl ⟨by rfl, ?_⟩) hHeld ?_ ?_
        rotate_left
        ·rintro w' ⟨s0, s1, s2, s3, s4, s5, s6, s7⟩
         go_simp
         with_reducible rfl
        rotate_left
        ·simp only [Act.put, List.setIfInBounds_toArray, List.set_cons_zero, List.set_cons_succ, i64_w, i32_w]
         rfl
        refine take_ (i := 7) (N := some 24) (v := ?_) (a' := ?_) #[true, true, true, true, true, true, true, true, false, false] rfl rfl (take_ofW HT_.out HW_.out (by kernel_rfl)) (fun _ _ _ h => h) (Or.inl ⟨by rfl, ?_⟩) hHeld ?_ ?_
        rotate_left
        ·rintro w' ⟨s0, s1, s2, s3, s4, s5, s6, s7⟩
         go_simp
         with_reducible rfl
        rotate_left
        ·simp only [Act.put, List.setIfInBounds_toArray, List.set_cons_zero, List.set_cons_succ, i64_w, i32_w]
         rfl
        refine one_ (i := 8) (N := some 25) #[true, true, true, true, true, true, true, true, true, false] rfl rfl (one_of HT_.out (by kernel_rfl)) (by decide) (fun K hK => ?_)
        refine goes_ Tryd.func36 (by kernel_rfl) rfl #[.agg #[.int .i64 ((rd_T37 l0 x5_1).f0), .int .i64 ((rd_T37 l0 x5_1).f1), .bool ((rd_T37 l0 x5_1).f2), .slice A257_3 ((rd_T37 l0 x5_1).f3).length c257_3], .agg #[.int .i64 ((rd_T37 l1 x5_1).f0), .int .i64 ((rd_T37 l1 x5_1).f1), .bool ((rd_T37 l1 x5_1).f2), .slice A258_3 ((rd_T37 l1 x5_1).f3).length c258_3]] (by rfl) rfl rfl (by (try simp only [List.map_toArray, List.map_cons, List.map_nil]); first | done | rfl | (simp only [List.length_drop, List.length_take]; rfl)) ?_
        with_reducible refine (shutterref22_Same.calls k1 ((rd_T37 l0 x5_1).f0) ((rd_T37 l0 x5_1).f1) ((rd_T37 l0 x5_1).f2) _ _ ((rd_T37 l0 x5_1).f3) ((rd_T37 l1 x5_1).f0) ((rd_T37 l1 x5_1).f1) ((rd_T37 l1 x5_1).f2) _ _ ((rd_T37 l1 x5_1).f3) true _ ?side1 ?side2 ?side3 ?side4 A7.out).mono ?_
        (case side1 => repeat (first | exact (Kd.C_below HR257_3.out HB.out) | (with_reducible refine Kd.C_alloc ?_ _) | (with_reducible refine Kd.C_drewN ?_ _) | (with_reducible refine Kd.C_drew ?_)))
        (case side2 => exact HC257_3.out)
        (case side3 => repeat (first | exact (Kd.C_below HR258_3.out HB.out) | (with_reducible refine Kd.C_alloc ?_ _) | (with_reducible refine Kd.C_drewN ?_ _) | (with_reducible refine Kd.C_drew ?_)))
        (case side4 => exact HC258_3.out)
        rintro e w10 ⟨rfl, hb⟩
        refine ⟨_, rfl, ?_⟩
        have n0_ := Aside0.mk (below_step (by repeat (first | (with_reducible first | exact HB.out | apply below_alloc | apply pw_below_drewN | apply below_drew1) | exact HB.out)) hb)
        clear HB
        have HB := n0_
        clear n0_
        (try clear hb)
        (try clear hb2)
        (try clear hk)
        (try clear hi)
        refine hK.out _ _ ⟨((HB.out.cell (World.block_lt_of_cell? w _ hw257_0)).trans hw257_0), ((HB.out.cell (World.block_lt_of_cell? w _ hw257_1)).trans hw257_1), ((HB.out.cell (World.block_lt_of_cell? w _ hw257_2)).trans hw257_2), ((HB.out.cell (World.block_lt_of_cell? w _ hw257_3)).trans hw257_3), ((HB.out.cell (World.block_lt_of_cell? w _ hw258_0)).trans hw258_0), ((HB.out.cell (World.block_lt_of_cell? w _ hw258_1)).trans hw258_1), ((HB.out.cell (World.block_lt_of_cell? w _ hw258_2)).trans hw258_2), ((HB.out.cell (World.block_lt_of_cell? w _ hw258_3)).trans hw258_3)⟩ (fun hHeld => ?_)
        clear hK K
        refine norm_ (a' := ?_) ?_ ?_
        rotate_left
        ·show Act.put _ (some 25) _ = _
         simp only [Act.put, List.setIfInBounds_toArray, List.set_cons_zero, List.set_cons_succ, i64_w, i32_w]
         rfl
        refine pure_ (i := 9) (N := some 26) (v := ?_) (a' := ?_) #[true, true, true, true, true, true, true, true, true, true] rfl rfl (any_of HT_.out (by kernel_rfl)) (fun _ _ _ h => h) (Or.inl ⟨by rfl, ?_⟩) ?_ ?_
        rotate_left
        ·intro w'
         go_simp
         with_reducible rfl
        rotate_left
        ·simp only [Act.put, List.setIfInBounds_toArray, List.set_cons_zero, List.set_cons_succ, i64_w, i32_w]
         rfl
        refine done_ (done_of HT_.out (by kernel_rfl)) ?_
        try go_wp2
        (try simp only [add_plain])
        go_roundg k1
        case measure => have := HK1.out; omega
        case rel => exact ⟨(wrap64 (x5_1 + 1)), (by first | rfl | (simp; done) | (simp [*]; done)), H', ⟨by have := HK1.out; omega⟩, ⟨by repeat (first | (with_reducible first | exact HB.out | apply below_alloc | apply pw_below_drewN | apply below_drew1) | exact HB.out)⟩⟩
       ·replace c8 := Bool.eq_false_iff.mpr c8
        subst c8
        have H1 : (some false) = some r := by rw [if_neg (show ¬ (false = true) by decide)] at H; exact H
        clear H
        have H := H1
        clear H1
        obtain rfl := Option.some.inj H
        try go_wp2
        have n0_ := Aside0.mk (below_drew1 HB.out)
        clear HB
        have HB := n0_
        clear n0_
        have p257 : 0 ≤ (x5_1 : Int) := of_decide_eq_true (by first | (with_reducible assumption) | assumption)
        have q257 : x5_1 < (l0.length : Int) := of_decide_eq_true (by first | (with_reducible assumption) | assumption)
        obtain ⟨ad257, A257_3, c257_3, e257, hx257_0, hx257_1, hx257_2, hx257_3, hl257_3, hi257_3⟩ := at_T37 HR0.out x5_1 p257 q257
        have hw257_3 := hx257_3
        have hw257_2 := hx257_2
        have hw257_1 := hx257_1
        have hw257_0 := hx257_0
        cases e257
        replace hx257_0 := (HB.out.cell (World.block_lt_of_cell? w _ hx257_0)).trans hx257_0
        replace hx257_1 := (HB.out.cell (World.block_lt_of_cell? w _ hx257_1)).trans hx257_1
        replace hx257_2 := (HB.out.cell (World.block_lt_of_cell? w _ hx257_2)).trans hx257_2
        replace hx257_3 := (HB.out.cell (World.block_lt_of_cell? w _ hx257_3)).trans hx257_3
        have HR257_3 := Aside0.mk hi257_3
        have HC257_3 := Aside0.mk hl257_3
        clear hi257_3 hl257_3
        replace p257 := eq_true p257
        replace q257 := eq_true q257
        have p258 : 0 ≤ (x5_1 : Int) := of_decide_eq_true (by first | (with_reducible assumption) | assumption)
        have q258 : x5_1 < (l1.length : Int) := of_decide_eq_true (by first | (with_reducible assumption) | assumption)
        obtain ⟨ad258, A258_3, c258_3, e258, hx258_0, hx258_1, hx258_2, hx258_3, hl258_3, hi258_3⟩ := at_T37 HR1.out x5_1 p258 q258
        have hw258_3 := hx258_3
        have hw258_2 := hx258_2
        have hw258_1 := hx258_1
        have hw258_0 := hx258_0
        cases e258
        replace hx258_0 := (HB.out.cell (World.block_lt_of_cell? w _ hx258_0)).trans hx258_0
        replace hx258_1 := (HB.out.cell (World.block_lt_of_cell? w _ hx258_1)).trans hx258_1
        replace hx258_2 := (HB.out.cell (World.block_lt_of_cell? w _ hx258_2)).trans hx258_2
        replace hx258_3 := (HB.out.cell (World.block_lt_of_cell? w _ hx258_3)).trans hx258_3
        have HR258_3 := Aside0.mk hi258_3
        have HC258_3 := Aside0.mk hl258_3
        clear hi258_3 hl258_3
        replace p258 := eq_true p258
        replace q258 := eq_true q258
        refine start_ (n := 10) (S := fun w' => w'.cell? (ad257.add ((x5_1).toNat * 4)) = some (.int .i64 ((rd_T37 l0 x5_1).f0)) ∧ w'.cell? ⟨(ad257.add ((x5_1).toNat * 4)).block, (ad257.add ((x5_1).toNat * 4)).off + 1, none⟩ = some (.int .i64 ((rd_T37 l0 x5_1).f1)) ∧ w'.cell? ⟨(ad257.add ((x5_1).toNat * 4)).block, (ad257.add ((x5_1).toNat * 4)).off + 2, none⟩ = some (.bool ((rd_T37 l0 x5_1).f2)) ∧ w'.cell? ⟨(ad257.add ((x5_1).toNat * 4)).block, (ad257.add ((x5_1).toNat * 4)).off + 3, none⟩ = some (.slice A257_3 ((rd_T37 l0 x5_1).f3).length c257_3) ∧ w'.cell? (ad258.add ((x5_1).toNat * 4)) = some (.int .i64 ((rd_T37 l1 x5_1).f0)) ∧ w'.cell? ⟨(ad258.add ((x5_1).toNat * 4)).block, (ad258.add ((x5_1).toNat * 4)).off + 1, none⟩ = some (.int .i64 ((rd_T37 l1 x5_1).f1)) ∧ w'.cell? ⟨(ad258.add ((x5_1).toNat * 4)).block, (ad258.add ((x5_1).toNat * 4)).off + 2, none⟩ = some (.bool ((rd_T37 l1 x5_1).f2)) ∧ w'.cell? ⟨(ad258.add ((x5_1).toNat * 4)).block, (ad258.add ((x5_1).toNat * 4)).off + 3, none⟩ = some (.slice A258_3 ((rd_T37 l1 x5_1).f3).length c258_3)) (ds := []) #[false, false, false, false, false, false, false, false, false, false] (by kernel_rfl) rfl rfl ⟨((HB.out.cell (World.block_lt_of_cell? w _ hw257_0)).trans hw257_0), ((HB.out.cell (World.block_lt_of_cell? w _ hw257_1)).trans hw257_1), ((HB.out.cell (World.block_lt_of_cell? w _ hw257_2)).trans hw257_2), ((HB.out.cell (World.block_lt_of_cell? w _ hw257_3)).trans hw257_3), ((HB.out.cell (World.block_lt_of_cell? w _ hw258_0)).trans hw258_0), ((HB.out.cell (World.block_lt_of_cell? w _ hw258_1)).trans hw258_1), ((HB.out.cell (World.block_lt_of_cell? w _ hw258_2)).trans hw258_2), ((HB.out.cell (World.block_lt_of_cell? w _ hw258_3)).trans hw258_3)⟩ (fun hHeld => ?_); refine with_tabW shutterref22_SameAll.tab6 shutterref22_SameAll.bits6 (fun HT_ HW_ => ?_)
        generalize wr.drew = w11 at HB HR257_3 HR258_3 hx257_0 hx257_1 hx257_2 hx257_3 hx258_0 hx258_1 hx258_2 hx258_3 hHeld ⊢
        refine pure_ (i := 0) (N := some 17) (v := ?_) (a' := ?_) #[true, false, false, false, false, false, false, false, false, false] rfl rfl (any_of HT_.out (by kernel_rfl)) (fun _ _ _ h => h) (Or.inl ⟨by rfl, ?_⟩) ?_ ?_
        rotate_left
        ·intro w'
         go_simp
         with_reducible rfl
        rotate_left
        ·simp only [Act.put, List.setIfInBounds_toArray, List.set_cons_zero, List.set_cons_succ, i64_w, i32_w]
         rfl
        refine pure_ (i := 1) (N := some 18) (v := ?_) (a' := ?_) #[true, true, false, false, false, false, false, false, false, false] rfl rfl (any_of HT_.out (by kernel_rfl)) (fun _ _ _ h => h) (Or.inl ⟨by rfl, ?_⟩) ?_ ?_
        rotate_left
        ·intro w'
         go_simp
         with_reducible rfl
        rotate_left
        ·simp only [Act.put, List.setIfInBounds_toArray, List.set_cons_zero, List.set_cons_succ, i64_w, i32_w]
         rfl
        refine pure_ (i := 2) (N := some 19) (v := ?_) (a' := ?_) #[true, true, true, false, false, false, false, false, false, false] rfl rfl (any_of HT_.out (by kernel_rfl)) (fun _ _ _ h => h) (Or.inl ⟨by rfl, ?_⟩) ?_ ?_
        rotate_left
        ·intro w'
         go_simp
         with_reducible rfl
        rotate_left
        ·simp only [Act.put, List.setIfInBounds_toArray, List.set_cons_zero, List.set_cons_succ, i64_w, i32_w]
         rfl
        refine pure_ (i := 4) (N := some 21) (v := ?_) (a' := ?_) #[true, true, true, false, true, false, false, false, false, false] rfl rfl (any_of HT_.out (by kernel_rfl)) (fun _ _ _ h => h) (Or.inl ⟨by rfl, ?_⟩) ?_ ?_
        rotate_left
        ·intro w'
         go_simp
         with_reducible rfl
        rotate_left
        ·simp only [Act.put, List.setIfInBounds_toArray, List.set_cons_zero, List.set_cons_succ, i64_w, i32_w]
         rfl
        refine pure_ (i := 5) (N := some 22) (v := ?_) (a' := ?_) #[true, true, true, false, true, true, false, false, false, false] rfl rfl (any_of HT_.out (by kernel_rfl)) (fun _ _ _ h => h) (Or.inl ⟨by rfl, ?_⟩) ?_ ?_
        rotate_left
        ·intro w'
         go_simp
         with_reducible rfl
        rotate_left
        ·simp only [Act.put, List.setIfInBounds_toArray, List.set_cons_zero, List.set_cons_succ, i64_w, i32_w]
         rfl
        refine pure_ (i := 6) (N := some 23) (v := ?_) (a' := ?_) #[true, true, true, false, true, true, true, false, false, false] rfl rfl (any_of HT_.out (by kernel_rfl)) (fun _ _ _ h => h) (Or.inl ⟨by rfl, ?_⟩) ?_ ?_
        rotate_left
        ·intro w'
         go_simp
         with_reducible rfl
        rotate_left
        ·simp only [Act.put, List.setIfInBounds_toArray, List.set_cons_zero, List.set_cons_succ, i64_w, i32_w]
         rfl
        refine take_ (i := 3) (N := some 20) (v := ?_) (a' := ?_) #[true, true, true, true, true, true, true, false, false, false] rfl rfl (take_ofW HT_.out HW_.out (by kernel_rfl)) (fun _ _ _ h => h) (Or.inl ⟨by rfl, ?_⟩) hHeld ?_ ?_
        rotate_left
        ·rintro w' ⟨s0, s1, s2, s3, s4, s5, s6, s7⟩
         go_simp
         with_reducible rfl
        rotate_left
        ·simp only [Act.put, List.setIfInBounds_toArray, List.set_cons_zero, List.set_cons_succ, i64_w, i32_w]
         rfl
        refine take_ (i := 7) (N := some 24) (v := ?_) (a' := ?_) #[true, true, true, true, true, true, true, true, false, false] rfl rfl (take_ofW HT_.out HW_.out (by kernel_rfl)) (fun _ _ _ h => h) (Or.inl ⟨by rfl, ?_⟩) hHeld ?_ ?_
        rotate_left
        ·rintro w' ⟨s0, s1, s2, s3, s4, s5, s6, s7⟩
         go_simp
         with_reducible rfl
        rotate_left
        ·simp only [Act.put, List.setIfInBounds_toArray, List.set_cons_zero, List.set_cons_succ, i64_w, i32_w]
         rfl
        refine one_ (i := 8) (N := some 25) #[true, true, true, true, true, true, true, true, true, false] rfl rfl (one_of HT_.out (by kernel_rfl)) (by decide) (fun K hK => ?_)
        refine goes_ Tryd.func36 (by kernel_rfl) rfl #[.agg #[.int .i64 ((rd_T37 l0 x5_1).f0), .int .i64 ((rd_T37 l0 x5_1).f1), .bool ((rd_T37 l0 x5_1).f2), .slice A257_3 ((rd_T37 l0 x5_1).f3).length c257_3], .agg #[.int .i64 ((rd_T37 l1 x5_1).f0), .int .i64 ((rd_T37 l1 x5_1).f1), .bool ((rd_T37 l1 x5_1).f2), .slice A258_3 ((rd_T37 l1 x5_1).f3).length c258_3]] (by rfl) rfl rfl (by (try simp only [List.map_toArray, List.map_cons, List.map_nil]); first | done | rfl | (simp only [List.length_drop, List.length_take]; rfl)) ?_
        with_reducible refine (shutterref22_Same.calls k1 ((rd_T37 l0 x5_1).f0) ((rd_T37 l0 x5_1).f1) ((rd_T37 l0 x5_1).f2) _ _ ((rd_T37 l0 x5_1).f3) ((rd_T37 l1 x5_1).f0) ((rd_T37 l1 x5_1).f1) ((rd_T37 l1 x5_1).f2) _ _ ((rd_T37 l1 x5_1).f3) false _ ?side1 ?side2 ?side3 ?side4 A7.out).mono ?_
        (case side1 => repeat (first | exact (Kd.C_below HR257_3.out HB.out) | (with_reducible refine Kd.C_alloc ?_ _) | (with_reducible refine Kd.C_drewN ?_ _) | (with_reducible refine Kd.C_drew ?_)))
        (case side2 => exact HC257_3.out)
        (case side3 => repeat (first | exact (Kd.C_below HR258_3.out HB.out) | (with_reducible refine Kd.C_alloc ?_ _) | (with_reducible refine Kd.C_drewN ?_ _) | (with_reducible refine Kd.C_drew ?_)))
        (case side4 => exact HC258_3.out)
        rintro e w12 ⟨rfl, hb⟩
        refine ⟨_, rfl, ?_⟩
        have n0_ := Aside0.mk (below_step (by repeat (first | (with_reducible first | exact HB.out | apply below_alloc | apply pw_below_drewN | apply below_drew1) | exact HB.out)) hb)
        clear HB
        have HB := n0_
        clear n0_
        (try clear hb)
        (try clear hb2)
        (try clear hk)
        (try clear hi)
        refine hK.out _ _ ⟨((HB.out.cell (World.block_lt_of_cell? w _ hw257_0)).trans hw257_0), ((HB.out.cell (World.block_lt_of_cell? w _ hw257_1)).trans hw257_1), ((HB.out.cell (World.block_lt_of_cell? w _ hw257_2)).trans hw257_2), ((HB.out.cell (World.block_lt_of_cell? w _ hw257_3)).trans hw257_3), ((HB.out.cell (World.block_lt_of_cell? w _ hw258_0)).trans hw258_0), ((HB.out.cell (World.block_lt_of_cell? w _ hw258_1)).trans hw258_1), ((HB.out.cell (World.block_lt_of_cell? w _ hw258_2)).trans hw258_2), ((HB.out.cell (World.block_lt_of_cell? w _ hw258_3)).trans hw258_3)⟩ (fun hHeld => ?_)
        clear hK K
        refine norm_ (a' := ?_) ?_ ?_
        rotate_left
        ·show Act.put _ (some 25) _ = _
         simp only [Act.put, List.setIfInBounds_toArray, List.set_cons_zero, List.set_cons_succ, i64_w, i32_w]
         rfl
        refine pure_ (i := 9) (N := some 26) (v := ?_) (a' := ?_) #[true, true, true, true, true, true, true, true, true, true] rfl rfl (any_of HT_.out (by kernel_rfl)) (fun _ _ _ h => h) (Or.inl ⟨by rfl, ?_⟩) ?_ ?_
        rotate_left
        ·intro w'
         go_simp
         with_reducible rfl
        rotate_left
        ·simp only [Act.put, List.setIfInBounds_toArray, List.set_cons_zero, List.set_cons_succ, i64_w, i32_w]
         rfl
        refine done_ (done_of HT_.out (by kernel_rfl)) ?_
        try go_wp2
        go_ret
        exact ⟨by first | rfl | (simp [errW_none, errW_some] <;> rfl) | (simp [*, errW_none, errW_some] <;> rfl), by repeat (first | (with_reducible first | exact HB.out | apply below_alloc | apply pw_below_drewN | apply below_drew1) | exact HB.out)⟩
      ·rw [if_neg c6] at H
       exact absurd H (by simp)
     ·rw [if_neg c5] at H
      exact absurd H (by simp)
    ·rw [if_neg c4] at H
     have c4b0 : decide (x5_1 < (l0.length : Int)) = false := decide_eq_false c4
     clear c4
     obtain rfl := Option.some.inj H
     go_wp2
     go_ret
     exact ⟨by first | rfl | (simp [errW_none, errW_some] <;> rfl) | (simp [*, errW_none, errW_some] <;> rfl), by repeat (first | (with_reducible first | exact HB.out | apply below_alloc | apply pw_below_drewN | apply below_drew1) | exact HB.out)⟩
 ·rw [if_neg c3] at H
  have c3b0 : ((l0.length : Int) == (l1.length : Int)) = false := beq_eq_false_iff_ne.mpr c3
  have c3b1 : ((l0.length : Int) != (l1.length : Int)) = true := bne_iff_ne.mpr c3
  have c3b2 : (l0.length == l1.length) = false := by first | simpa using c3 | (simp at c3 ⊢; omega)
  obtain rfl := Option.some.inj H
  go_enter Tryd.func22, Tryd.ntmps22
  go_wp2
  go_ret
  exact ⟨by first | rfl | (simp [errW_none, errW_some] <;> rfl) | (simp [*, errW_none, errW_some] <;> rfl), by repeat (first | (with_reducible first | exact HB.out | apply below_alloc | apply pw_below_drewN | apply below_drew1) | exact HB.out)⟩
def shutterref22_Cut.l0 : Nat → List Int → List (S37) → Int → Option ((List (S37)))
 | 0, _, _, _ => none
 | k + 1, x0, x3, x4 => if x4 < (x0.length : Int) then (if (wrap64 ((x0.length : Int) - x4)) < 64 then ((some (([] : List Int) : List Int)).bind fun y260 => (if 0 ≤ x4 then (if x4 ≤ (wrap64 (x4 + (wrap64 ((x0.length : Int) - x4)))) then (if (wrap64 (x4 + (wrap64 ((x0.length : Int) - x4)))) ≤ (x0.length : Int) then (if y260.length + ((x0.take ((wrap64 (x4 + (wrap64 ((x0.length : Int) - x4)))) : Int).toNat).drop (x4 : Int).toNat).length < 140737488355328 then (if x3.length < 2932031007402 then (shutterref22_Cut.l0 k x0 (x3 ++ [(⟨0, wrap64 ((x3.length : Int) + 1), ((wrap64 (x4 + (wrap64 ((x0.length : Int) - x4)))) == (x0.length : Int)), (y260 ++ ((x0.take ((wrap64 (x4 + (wrap64 ((x0.length : Int) - x4)))) : Int).toNat).drop (x4 : Int).toNat))⟩ : S37)]) (wrap64 (x4 + (wrap64 ((x0.length : Int) - x4))))) else (none)) else (none)) else (none)) else (none)) else (none))) else ((some (([] : List Int) : List Int)).bind fun y270 => (if 0 ≤ x4 then (if x4 ≤ (wrap64 (x4 + 64)) then (if (wrap64 (x4 + 64)) ≤ (x0.length : Int) then (if y270.length + ((x0.take ((wrap64 (x4 + 64)) : Int).toNat).drop (x4 : Int).toNat).length < 140737488355328 then (if x3.length < 2932031007402 then (shutterref22_Cut.l0 k x0 (x3 ++ [(⟨0, wrap64 ((x3.length : Int) + 1), ((wrap64 (x4 + 64)) == (x0.length : Int)), (y270 ++ ((x0.take ((wrap64 (x4 + 64)) : Int).toNat).drop (x4 : Int).toNat))⟩ : S37)]) (wrap64 (x4 + 64))) else (none)) else (none)) else (none)) else (none)) else (none)))) else (some x3)
def shutterref22_Cut.f (k : Nat) (l0 : List Int) : Option ((List (S37))) := shutterref22_Cut.l0 k l0 ([] : List (S37)) 0
theorem shutterref22_Cut.mono_l : ∀ k, (∀ y0 y1 y2, LeO (shutterref22_Cut.l0 k y0 y1 y2) (shutterref22_Cut.l0 (k + 1) y0 y1 y2))
 | 0 => fun _ _ _ r h => by simp [shutterref22_Cut.l0] at h
 | k + 1 => by
  have ih0 := shutterref22_Cut.mono_l k
  ·intro y0 y1 y2
   unfold shutterref22_Cut.l0
   repeat' first
   | (with_reducible exact ih0 _ _ _)
   | (with_reducible exact LeO.refl _)
   | (with_reducible exact LeO.none _)
   | (with_reducible refine LeO.ite ?_ ?_)
   | (with_reducible refine LeO.bind ?_ (fun _ => ?_))
   | exact ih0 _ _ _
   | exact LeO.none _
   | refine LeO.ite ?_ ?_
   | refine LeO.bind ?_ (fun _ => ?_)
theorem shutterref22_Cut.mono : ∀ a0 k, LeO (shutterref22_Cut.f k a0) (shutterref22_Cut.f (k + 1) a0) := by
 intro a0 k
 have ih0 := shutterref22_Cut.mono_l k
 unfold shutterref22_Cut.f
 repeat' first
   | (with_reducible exact ih0 _ _ _)
   | (with_reducible exact LeO.refl _)
   | (with_reducible exact LeO.none _)
   | (with_reducible refine LeO.ite ?_ ?_)
   | (with_reducible refine LeO.bind ?_ (fun _ => ?_))
   | exact ih0 _ _ _
   | exact LeO.none _
   | refine LeO.ite ?_ ?_
   | refine LeO.bind ?_ (fun _ => ?_)
set_option maxHeartbeats 8000000 in
set_option maxRecDepth 100000 in
theorem shutterref22_Cut.calls (k : Nat) (A0 : Option Addr) (c0 : Nat) (l0 : List Int) (r : List (S37)) (w : World) (hr0 : Kd.C (Kd.int .u8) w A0 l0.length l0) (hc0 : l0.length ≤ c0) (h : shutterref22_Cut.f k l0 = some r) :
  Calls Tryd.prog 37 #[.slice A0 l0.length c0] w fun e w' => ∃ v0_ : Value, e = .returned (v0_) ∧ Kd.S k37 37 w' w.heap.size (fun _ => True) v0_ r ∧ Below w.heap.size w w' := by
 have hu37 := Tryd.underlying37
 have HR0 := Aside0.mk hr0
 have HC0 := Aside0.mk hc0
 clear hr0 hc0
 have HB := Aside0.mk (Below.refl w.heap.size w)
 have H : (shutterref22_Cut.l0 k l0 ([] : List (S37)) 0) = some r := h
 clear h
 have H' := Aside0.mk H
 clear H
 go_enter Tryd.func37, Tryd.ntmps37
 go_wp2
 (try simp only [add_plain])
 go_loopg [3, 4] k (fun kq v3 v4 w' => ∃ (x3_1 : List (S37)) (x4_1 : Int), v4 = .int .i64 x4_1 ∧ Aside0 (shutterref22_Cut.l0 kq l0 x3_1 x4_1 = some r) ∧ Aside0 (kq ≤ k) ∧ Aside0 (Kd.S k37 37 w' w.heap.size (fun _ => True) v3 x3_1) ∧ Aside0 (Below w.heap.size w w'))
 case atStart => exact ⟨(([] : List (S37))), (0), (by first | rfl | (simp; done) | (simp [*]; done)), H', ⟨Nat.le_refl _⟩, ⟨by first | exact Kd.S_nil _ _ _ _ _ | exact Kd.N_nil _ _ _ _ _ | exact Kd.V_nil _ _ _ _ _ | exact Kd.Q_nil _ _ _ _ _ | exact Kd.R_nil _ _ _ _ _⟩, ⟨by repeat (first | (with_reducible first | exact HB.out | apply below_alloc | apply pw_below_drewN | apply below_drew1) | exact HB.out)⟩⟩
 case round =>
  clear H'
  obtain ⟨x3_1, x4_1, rfl, HA, HK1, HO_3, HB⟩ := hrel
  cases gk with
  | zero => exact absurd HA.out (by simp [shutterref22_Cut.l0])
  | succ k1 =>
   have H := HA.out
   clear HA
   simp only [shutterref22_Cut.l0] at H
   by_cases c2 : x4_1 < (l0.length : Int)
   ·rw [if_pos c2] at H
    have c2b0 : decide (x4_1 < (l0.length : Int)) = true := decide_eq_true c2
    clear c2
    by_cases c3 : (wrap64 ((l0.length : Int) - x4_1)) < 64
    ·rw [if_pos c3] at H
     have c3b0 : decide ((wrap64 ((l0.length : Int) - x4_1)) < 64) = true := decide_eq_true c3
     clear c3
     obtain ⟨y260, hy260⟩ : ∃ y_ : List Int, y_ = (([] : List Int)) := ⟨_, rfl⟩
     replace H : (if 0 ≤ x4_1 then (if x4_1 ≤ (wrap64 (x4_1 + (wrap64 ((l0.length : Int) - x4_1)))) then (if (wrap64 (x4_1 + (wrap64 ((l0.length : Int) - x4_1)))) ≤ (l0.length : Int) then (if y260.length + ((l0.take ((wrap64 (x4_1 + (wrap64 ((l0.length : Int) - x4_1)))) : Int).toNat).drop (x4_1 : Int).toNat).length < 140737488355328 then (if x3_1.length < 2932031007402 then (shutterref22_Cut.l0 k1 l0 (x3_1 ++ [(⟨0, wrap64 ((x3_1.length : Int) + 1), ((wrap64 (x4_1 + (wrap64 ((l0.length : Int) - x4_1)))) == (l0.length : Int)), (y260 ++ ((l0.take ((wrap64 (x4_1 + (wrap64 ((l0.length : Int) - x4_1)))) : Int).toNat).drop (x4_1 : Int).toNat))⟩ : S37)]) (wrap64 (x4_1 + (wrap64 ((l0.length : Int) - x4_1))))) else (none)) else (none)) else (none)) else (none)) else (none)) = some r := by first | (rw [hy260]; with_reducible exact H) | (have H2_ := (Option.bind_some _ _).symm.trans H; rw [hy260]; with_reducible exact H2_) | (have H2_ := (Option.bind_some _ _).symm.trans H; with_reducible exact H2_) | with_reducible exact H | (rw [hy260]; exact H) | exact H
     have Ny260 := Aside0.mk hy260
     clear hy260
     by_cases c4 : 0 ≤ x4_1
     ·rw [if_pos c4] at H
      have c4b0 := eq_true c4
      have c4b1 : decide (0 ≤ x4_1) = true := decide_eq_true c4
      clear c4
      by_cases c5 : x4_1 ≤ (wrap64 (x4_1 + (wrap64 ((l0.length : Int) - x4_1))))
      ·rw [if_pos c5] at H
       have c5b0 := eq_true c5
       have c5b1 : decide (x4_1 ≤ (wrap64 (x4_1 + (wrap64 ((l0.length : Int) - x4_1))))) = true := decide_eq_true c5
       by_cases c6 : (wrap64 (x4_1 + (wrap64 ((l0.length : Int) - x4_1)))) ≤ (l0.length : Int)
       ·rw [if_pos c6] at H
        have c6b0 := eq_true c6
        have c6b1 : decide ((wrap64 (x4_1 + (wrap64 ((l0.length : Int) - x4_1)))) ≤ (l0.length : Int)) = true := decide_eq_true c6
        by_cases c7 : y260.length + ((l0.take ((wrap64 (x4_1 + (wrap64 ((l0.length : Int) - x4_1)))) : Int).toNat).drop (x4_1 : Int).toNat).length < 140737488355328
        ·rw [if_pos c7] at H
         have LMc7 := Aside0.mk c7
         clear c7
         obtain ⟨y264, hy264⟩ : ∃ y_ : List Int, y_ = (y260 ++ ((l0.take ((wrap64 (x4_1 + (wrap64 ((l0.length : Int) - x4_1)))) : Int).toNat).drop (x4_1 : Int).toNat)) := ⟨_, rfl⟩
         replace H : (if x3_1.length < 2932031007402 then (shutterref22_Cut.l0 k1 l0 (x3_1 ++ [(⟨0, wrap64 ((x3_1.length : Int) + 1), ((wrap64 (x4_1 + (wrap64 ((l0.length : Int) - x4_1)))) == (l0.length : Int)), y264⟩ : S37)]) (wrap64 (x4_1 + (wrap64 ((l0.length : Int) - x4_1))))) else (none)) = some r := by first | (rw [hy264]; with_reducible exact H) | (have H2_ := (Option.bind_some _ _).symm.trans H; rw [hy264]; with_reducible exact H2_) | (have H2_ := (Option.bind_some _ _).symm.trans H; with_reducible exact H2_) | with_reducible exact H | (rw [hy264]; exact H) | exact H
         have Ny264 := Aside0.mk hy264
         clear hy264
         by_cases c8 : x3_1.length < 2932031007402
         ·rw [if_pos c8] at H
          have LMc8 := Aside0.mk c8
          clear c8
          obtain ⟨y267, hy267⟩ : ∃ y_ : List (S37), y_ = (x3_1 ++ [(⟨0, wrap64 ((x3_1.length : Int) + 1), ((wrap64 (x4_1 + (wrap64 ((l0.length : Int) - x4_1)))) == (l0.length : Int)), y264⟩ : S37)]) := ⟨_, rfl⟩
          replace H : (shutterref22_Cut.l0 k1 l0 y267 (wrap64 (x4_1 + (wrap64 ((l0.length : Int) - x4_1))))) = some r := by first | (rw [hy267]; with_reducible exact H) | (have H2_ := (Option.bind_some _ _).symm.trans H; rw [hy267]; with_reducible exact H2_) | (have H2_ := (Option.bind_some _ _).symm.trans H; with_reducible exact H2_) | with_reducible exact H | (rw [hy267]; exact H) | exact H
          have Ny267 := Aside0.mk hy267
          clear hy267
          have H' := Aside0.mk H
          clear H
          obtain ⟨Ao9, co9, eo9⟩ := Kd.S_slice HO_3.out
          subst eo9
          go_wp2_with (first | ((with_reducible refine gate_dst (N := 29) rfl ?_); refine Kd.R_lit (Kd.int .u8) _ 5 ?hg (N := 29) ?hd (xs := ([] : List Int)) (inner := []) (ok := fun _ => True) (okp := fun _ => True) ?hr ?hp (fun _ hk => hk) trivial (Below.refl _ _) (Nat.le_refl _) (by simp) ?_; (case hd => rfl); (case hg => rfl); (case hr => first | (go_simp; done) | (go_simp; rfl)); (case hp => exact (Reps.none _ _)); intro v261 w10 ho11 hb hg_ hnew_; clear hg_ hnew_; (first | rw [← Ny260.out] at ho11 | (simp only [Int.reduceToNat] at ho11; rw [← Ny260.out] at ho11)); have n0_ := Aside0.mk (Kd.S_elder' (by (with_reducible repeat (first | apply Kd.S_alloc | apply Kd.S_drewN | apply Kd.S_drew)); exact HO_3.out) (Kd.R_base ho11) hb); have n1_ := Aside0.mk (Kd.R_lower ho11 (below_size (by repeat (first | (with_reducible first | exact HB.out | apply below_alloc | apply pw_below_drewN | apply below_drew1) | exact HB.out)))); have n2_ := Aside0.mk (below_step (by repeat (first | (with_reducible first | exact HB.out | apply below_alloc | apply pw_below_drewN | apply below_drew1) | exact HB.out)) hb); clear HO_3; clear HB; have HO_3 := n0_; have HO262 := n1_; have HB := n2_; clear n0_ n1_ n2_; clear hb ho11; obtain ⟨i012, hi012, _, hsz12, _⟩ := info_parts info5; obtain ⟨A12, hcut12, hA12, hC12⟩ := print_mid_of (P := Tryd.prog) (Value.int .u8) 0 32 5 .i64 .i64 Tryd.underlying32 hi012 hsz12 A0 c0 l0 x4_1 (wrap64 (x4_1 + (wrap64 ((l0.length : Int) - x4_1)))) (of_decide_eq_true (by first | (with_reducible assumption) | assumption)) (by first | omega | exact of_decide_eq_true (by first | (with_reducible assumption) | assumption)) (of_decide_eq_true (by first | (with_reducible assumption) | assumption)) HC0.out; have HR263 := Aside0.mk (Kd.C_of_reads (h1 := fun _ => rfl) (hA12 _ (Kd.reads_of_C HR0.out))); have HC263 := Aside0.mk hC12; clear hA12 hC12 hi012 hsz12) | ((with_reducible refine gate_builtin (b := .append) (xs := #[.tmp 29, .tmp 35]) rfl ?_); at_builtin; refine Kd.R_append_rows (Kd.int .u8) (w0 := w) w.heap.size rfl (.tmp 29) (.tmp 35) 32 5 (.int .u8 0) 1 rfl Tryd.underlying32 info5 rfl (by decide) (by omega) v261 y260 ((l0.take ((wrap64 (x4_1 + (wrap64 ((l0.length : Int) - x4_1)))) : Int).toNat).drop (x4_1 : Int).toNat) _ _ _ (fun _ => True) (fun _ => False) rfl rfl ?aO ?aR (fun _ _ h => h) (fun _ h => h.elim) ?aF ?aB ?aS ?aL ?_; (case aR => first | (rw [← show ((l0.take ((wrap64 (x4_1 + (wrap64 ((l0.length : Int) - x4_1)))) : Int).toNat).drop (x4_1 : Int).toNat).length = ((wrap64 (x4_1 + (wrap64 ((l0.length : Int) - x4_1)))).toNat - x4_1.toNat) from (by rw [List.length_drop, List.length_take]; have h_ : ((wrap64 (x4_1 + (wrap64 ((l0.length : Int) - x4_1)))) : Int) ≤ (l0.length : Int) := of_decide_eq_true (by first | (with_reducible assumption) | assumption); omega)]; repeat (first | exact (Kd.C_below HR263.out HB.out) | (with_reducible refine Kd.C_alloc ?_ _) | (with_reducible refine Kd.C_drewN ?_ _) | (with_reducible refine Kd.C_drew ?_))) | (repeat (first | exact (Kd.C_below HR263.out HB.out) | (with_reducible refine Kd.C_alloc ?_ _) | (with_reducible refine Kd.C_drewN ?_ _) | (with_reducible refine Kd.C_drew ?_)))); (case aB => exact (by repeat (first | (with_reducible first | exact HB.out | apply below_alloc | apply pw_below_drewN | apply below_drew1) | exact HB.out))); (case aF => exact (fun _ _ => trivial)); (case aO => exact (by (with_reducible repeat (first | apply Kd.R_alloc | apply Kd.R_drewN | apply Kd.R_drew)); exact HO262.out)); (case aS => exact (below_size (by repeat (first | (with_reducible first | exact HB.out | apply below_alloc | apply pw_below_drewN | apply below_drew1) | exact HB.out)))); (case aL => have := LMc7.out; have hlx_ := (show ((l0.take ((wrap64 (x4_1 + (wrap64 ((l0.length : Int) - x4_1)))) : Int).toNat).drop (x4_1 : Int).toNat).length = ((wrap64 (x4_1 + (wrap64 ((l0.length : Int) - x4_1)))).toNat - x4_1.toNat) from (by rw [List.length_drop, List.length_take]; have h_ : ((wrap64 (x4_1 + (wrap64 ((l0.length : Int) - x4_1)))) : Int) ≤ (l0.length : Int) := of_decide_eq_true (by first | (with_reducible assumption) | assumption); omega)); omega); intro v265 w13 ho hb hg hat; rw [← Ny264.out] at ho; have n0_ := Aside0.mk (Kd.S_after (ok := (fun _ => True)) (by (with_reducible repeat (first | apply Kd.S_alloc | apply Kd.S_drewN | apply Kd.S_drew)); exact HO_3.out) hg hat); have n1_ := Aside0.mk (hb); have n2_ := Aside0.mk (ho); clear HO_3; clear HB; clear HO262; have HO_3 := n0_; have HB := n1_; have HO266 := n2_; clear n0_ n1_ n2_; clear ho hb hg hat; obtain ⟨Ao14, co14, eo14⟩ := Kd.R_slice HO266.out; subst eo14) | ((with_reducible refine gate_builtin (b := .append) (xs := #[.tmp 19, .tmp 38]) rfl ?_); at_builtin; refine Kd.S_append k37 (w0 := w) w.heap.size rfl (.tmp 19) (.tmp 38) 28 37 (.agg #[(.int .i64 0), (.int .i64 0), (.bool false), (.slice none 0 0)]) 48 rfl Tryd.underlying28 info37 rfl (by decide) (by omega) (.slice Ao9 x3_1.length co9) x3_1 (⟨0, wrap64 ((x3_1.length : Int) + 1), ((wrap64 (x4_1 + (wrap64 ((l0.length : Int) - x4_1)))) == (l0.length : Int)), y264⟩ : S37) [.int .i64 0, .int .i64 (wrap64 ((x3_1.length : Int) + 1)), .bool ((wrap64 (x4_1 + (wrap64 ((l0.length : Int) - x4_1)))) == (l0.length : Int)), .slice Ao14 y264.length co14] (fun _ => True) (fun k_ => some k_ = (.slice Ao14 y264.length co14 : Value).ownBlock) rfl rfl ?aP (fun k_ hk_ => ((Kd.R_mono (ok' := fun k_ => ((fun _ => True)) k_ ∧ some k_ ≠ (.slice Ao9 x3_1.length co9 : Value).ownBlock) (Kd.R_apart' (HO266.out) (Kd.S_typed HO_3.out) (by decide)) (fun k_ hk => ⟨trivial, hk.2⟩))).1 k_ hk_.symm) ?aF ?aO ?aB ?aS ?aL ?_; (case aP => exact k37_mkM _ _ _ (⟨0, wrap64 ((x3_1.length : Int) + 1), ((wrap64 (x4_1 + (wrap64 ((l0.length : Int) - x4_1)))) == (l0.length : Int)), y264⟩ : S37) (Kd.R_mono (Kd.R_tight rfl (Kd.R_mono (ok' := fun k_ => ((fun _ => True)) k_ ∧ some k_ ≠ (.slice Ao9 x3_1.length co9 : Value).ownBlock) (Kd.R_apart' (HO266.out) (Kd.S_typed HO_3.out) (by decide)) (fun k_ hk => ⟨trivial, hk.2⟩))) (fun _ h_ => h_))); (case aB => exact (by repeat (first | (with_reducible first | exact HB.out | apply below_alloc | apply pw_below_drewN | apply below_drew1) | exact HB.out))); (case aF => exact (fun _ _ => trivial)); (case aO => exact (by (with_reducible repeat (first | apply Kd.S_alloc | apply Kd.S_drewN | apply Kd.S_drew)); exact Kd.S_mono HO_3.out (fun k_ hk => ⟨trivial, fun e_ => hk.2 e_⟩))); (case aS => exact (below_size (by repeat (first | (with_reducible first | exact HB.out | apply below_alloc | apply pw_below_drewN | apply below_drew1) | exact HB.out)))); (case aL => have := LMc8.out; omega); intro v268 w15 ho hb hg hat; rw [← Ny267.out] at ho; have n0_ := Aside0.mk (hb); have n1_ := Aside0.mk (ho); clear HB; clear HO_3; clear HO266; have HB := n0_; have HO269 := n1_; clear n0_ n1_; clear ho hb hg hat))
          (try simp only [add_plain])
          go_roundg k1
          case measure => have := HK1.out; omega
          case rel => exact ⟨(y267), (wrap64 (x4_1 + (wrap64 ((l0.length : Int) - x4_1)))), (by first | rfl | (simp; done) | (simp [*]; done)), H', ⟨by have := HK1.out; omega⟩, ⟨by (with_reducible repeat (first | apply Kd.S_alloc | apply Kd.S_drewN | apply Kd.S_drew)); exact HO269.out⟩, ⟨by repeat (first | (with_reducible first | exact HB.out | apply below_alloc | apply pw_below_drewN | apply below_drew1) | exact HB.out)⟩⟩
         ·rw [if_neg c8] at H
          exact absurd H (by simp)
        ·rw [if_neg c7] at H
         exact absurd H (by simp)
       ·rw [if_neg c6] at H
        exact absurd H (by simp)
      ·rw [if_neg c5] at H
       exact absurd H (by simp)
     ·rw [if_neg c4] at H
      exact absurd H (by simp)
    ·rw [if_neg c3] at H
     have c3b0 : decide ((wrap64 ((l0.length : Int) - x4_1)) < 64) = false := decide_eq_false c3
     clear c3
     obtain ⟨y270, hy270⟩ : ∃ y_ : List Int, y_ = (([] : List Int)) := ⟨_, rfl⟩
     replace H : (if 0 ≤ x4_1 then (if x4_1 ≤ (wrap64 (x4_1 + 64)) then (if (wrap64 (x4_1 + 64)) ≤ (l0.length : Int) then (if y270.length + ((l0.take ((wrap64 (x4_1 + 64)) : Int).toNat).drop (x4_1 : Int).toNat).length < 140737488355328 then (if x3_1.length < 2932031007402 then (shutterref22_Cut.l0 k1 l0 (x3_1 ++ [(⟨0, wrap64 ((x3_1.length : Int) + 1), ((wrap64 (x4_1 + 64)) == (l0.length : Int)), (y270 ++ ((l0.take ((wrap64 (x4_1 + 64)) : Int).toNat).drop (x4_1 : Int).toNat))⟩ : S37)]) (wrap64 (x4_1 + 64))) else (none)) else (none)) else (none)) else (none)) else (none)) = some r := by first | (rw [hy270]; with_reducible exact H) | (have H2_ := (Option.bind_some _ _).symm.trans H; rw [hy270]; with_reducible exact H2_) | (have H2_ := (Option.bind_some _ _).symm.trans H; with_reducible exact H2_) | with_reducible exact H | (rw [hy270]; exact H) | exact H
     have Ny270 := Aside0.mk hy270
     clear hy270
     by_cases c16 : 0 ≤ x4_1
     ·rw [if_pos c16] at H
      have c16b0 := eq_true c16
      have c16b1 : decide (0 ≤ x4_1) = true := decide_eq_true c16
      clear c16
      by_cases c17 : x4_1 ≤ (wrap64 (x4_1 + 64))
      ·rw [if_pos c17] at H
       have c17b0 := eq_true c17
       have c17b1 : decide (x4_1 ≤ (wrap64 (x4_1 + 64))) = true := decide_eq_true c17
       by_cases c18 : (wrap64 (x4_1 + 64)) ≤ (l0.length : Int)
       ·rw [if_pos c18] at H
        have c18b0 := eq_true c18
        have c18b1 : decide ((wrap64 (x4_1 + 64)) ≤ (l0.length : Int)) = true := decide_eq_true c18
        by_cases c19 : y270.length + ((l0.take ((wrap64 (x4_1 + 64)) : Int).toNat).drop (x4_1 : Int).toNat).length < 140737488355328
        ·rw [if_pos c19] at H
         have LMc19 := Aside0.mk c19
         clear c19
         obtain ⟨y274, hy274⟩ : ∃ y_ : List Int, y_ = (y270 ++ ((l0.take ((wrap64 (x4_1 + 64)) : Int).toNat).drop (x4_1 : Int).toNat)) := ⟨_, rfl⟩
         replace H : (if x3_1.length < 2932031007402 then (shutterref22_Cut.l0 k1 l0 (x3_1 ++ [(⟨0, wrap64 ((x3_1.length : Int) + 1), ((wrap64 (x4_1 + 64)) == (l0.length : Int)), y274⟩ : S37)]) (wrap64 (x4_1 + 64))) else (none)) = some r := by first | (rw [hy274]; with_reducible exact H) | (have H2_ := (Option.bind_some _ _).symm.trans H; rw [hy274]; with_reducible exact H2_) | (have H2_ := (Option.bind_some _ _).symm.trans H; with_reducible exact H2_) | with_reducible exact H | (rw [hy274]; exact H) | exact H
         have Ny274 := Aside0.mk hy274
         clear hy274
         by_cases c20 : x3_1.length < 2932031007402
         ·rw [if_pos c20] at H
          have LMc20 := Aside0.mk c20
          clear c20
          obtain ⟨y277, hy277⟩ : ∃ y_ : List (S37), y_ = (x3_1 ++ [(⟨0, wrap64 ((x3_1.length : Int) + 1), ((wrap64 (x4_1 + 64)) == (l0.length : Int)), y274⟩ : S37)]) := ⟨_, rfl⟩
          replace H : (shutterref22_Cut.l0 k1 l0 y277 (wrap64 (x4_1 + 64))) = some r := by first | (rw [hy277]; with_reducible exact H) | (have H2_ := (Option.bind_some _ _).symm.trans H; rw [hy277]; with_reducible exact H2_) | (have H2_ := (Option.bind_some _ _).symm.trans H; with_reducible exact H2_) | with_reducible exact H | (rw [hy277]; exact H) | exact H
          have Ny277 := Aside0.mk hy277
          clear hy277
          have H' := Aside0.mk H
          clear H
          obtain ⟨Ao21, co21, eo21⟩ := Kd.S_slice HO_3.out
          subst eo21
          go_wp2_with (first | ((with_reducible refine gate_dst (N := 29) rfl ?_); refine Kd.R_lit (Kd.int .u8) _ 5 ?hg (N := 29) ?hd (xs := ([] : List Int)) (inner := []) (ok := fun _ => True) (okp := fun _ => True) ?hr ?hp (fun _ hk => hk) trivial (Below.refl _ _) (Nat.le_refl _) (by simp) ?_; (case hd => rfl); (case hg => rfl); (case hr => first | (go_simp; done) | (go_simp; rfl)); (case hp => exact (Reps.none _ _)); intro v271 w22 ho23 hb hg_ hnew_; clear hg_ hnew_; (first | rw [← Ny270.out] at ho23 | (simp only [Int.reduceToNat] at ho23; rw [← Ny270.out] at ho23)); have n0_ := Aside0.mk (Kd.S_elder' (by (with_reducible repeat (first | apply Kd.S_alloc | apply Kd.S_drewN | apply Kd.S_drew)); exact HO_3.out) (Kd.R_base ho23) hb); have n1_ := Aside0.mk (Kd.R_lower ho23 (below_size (by repeat (first | (with_reducible first | exact HB.out | apply below_alloc | apply pw_below_drewN | apply below_drew1) | exact HB.out)))); have n2_ := Aside0.mk (below_step (by repeat (first | (with_reducible first | exact HB.out | apply below_alloc | apply pw_below_drewN | apply below_drew1) | exact HB.out)) hb); clear HO_3; clear HB; have HO_3 := n0_; have HO272 := n1_; have HB := n2_; clear n0_ n1_ n2_; clear hb ho23; obtain ⟨i024, hi024, _, hsz24, _⟩ := info_parts info5; obtain ⟨A24, hcut24, hA24, hC24⟩ := print_mid_of (P := Tryd.prog) (Value.int .u8) 0 32 5 .i64 .i64 Tryd.underlying32 hi024 hsz24 A0 c0 l0 x4_1 (wrap64 (x4_1 + 64)) (of_decide_eq_true (by first | (with_reducible assumption) | assumption)) (by first | omega | exact of_decide_eq_true (by first | (with_reducible assumption) | assumption)) (of_decide_eq_true (by first | (with_reducible assumption) | assumption)) HC0.out; have HR273 := Aside0.mk (Kd.C_of_reads (h1 := fun _ => rfl) (hA24 _ (Kd.reads_of_C HR0.out))); have HC273 := Aside0.mk hC24; clear hA24 hC24 hi024 hsz24) | ((with_reducible refine gate_builtin (b := .append) (xs := #[.tmp 29, .tmp 35]) rfl ?_); at_builtin; refine Kd.R_append_rows (Kd.int .u8) (w0 := w) w.heap.size rfl (.tmp 29) (.tmp 35) 32 5 (.int .u8 0) 1 rfl Tryd.underlying32 info5 rfl (by decide) (by omega) v271 y270 ((l0.take ((wrap64 (x4_1 + 64)) : Int).toNat).drop (x4_1 : Int).toNat) _ _ _ (fun _ => True) (fun _ => False) rfl rfl ?aO ?aR (fun _ _ h => h) (fun _ h => h.elim) ?aF ?aB ?aS ?aL ?_; (case aR => first | (rw [← show ((l0.take ((wrap64 (x4_1 + 64)) : Int).toNat).drop (x4_1 : Int).toNat).length = ((wrap64 (x4_1 + 64)).toNat - x4_1.toNat) from (by rw [List.length_drop, List.length_take]; have h_ : ((wrap64 (x4_1 + 64)) : Int) ≤ (l0.length : Int) := of_decide_eq_true (by first | (with_reducible assumption) | assumption); omega)]; repeat (first | exact (Kd.C_below HR273.out HB.out) | (with_reducible refine Kd.C_alloc ?_ _) | (with_reducible refine Kd.C_drewN ?_ _) | (with_reducible refine Kd.C_drew ?_))) | (repeat (first | exact (Kd.C_below HR273.out HB.out) | (with_reducible refine Kd.C_alloc ?_ _) | (with_reducible refine Kd.C_drewN ?_ _) | (with_reducible refine Kd.C_drew ?_)))); (case aB => exact (by repeat (first | (with_reducible first | exact HB.out | apply below_alloc | apply pw_below_drewN | apply below_drew1) | exact HB.out))); (case aF => exact (fun _ _ => trivial)); (case aO => exact (by (with_reducible repeat (first | apply Kd.R_alloc | apply Kd.R_drewN | apply Kd.R_drew)); exact HO272.out)); (case aS => exact (below_size (by repeat (first | (with_reducible first | exact HB.out | apply below_alloc | apply pw_below_drewN | apply below_drew1) | exact HB.out)))); (case aL => have := LMc19.out; have hlx_ := (show ((l0.take ((wrap64 (x4_1 + 64)) : Int).toNat).drop (x4_1 : Int).toNat).length = ((wrap64 (x4_1 + 64)).toNat - x4_1.toNat) from (by rw [List.length_drop, List.length_take]; have h_ : ((wrap64 (x4_1 + 64)) : Int) ≤ (l0.length : Int) := of_decide_eq_true (by first | (with_reducible assumption) | assumption); omega)); omega); intro v275 w25 ho hb hg hat; rw [← Ny274.out] at ho; have n0_ := Aside0.mk (Kd.S_after (ok := (fun _ => True)) (by (with_reducible repeat (first | apply Kd.S_alloc | apply Kd.S_drewN | apply Kd.S_drew)); exact HO_3.out) hg hat); have n1_ := Aside0.mk (hb); have n2_ := Aside0.mk (ho); clear HO_3; clear HB; clear HO272; have HO_3 := n0_; have HB := n1_; have HO276 := n2_; clear n0_ n1_ n2_; clear ho hb hg hat; obtain ⟨Ao26, co26, eo26⟩ := Kd.R_slice HO276.out; subst eo26) | ((with_reducible refine gate_builtin (b := .append) (xs := #[.tmp 19, .tmp 38]) rfl ?_); at_builtin; refine Kd.S_append k37 (w0 := w) w.heap.size rfl (.tmp 19) (.tmp 38) 28 37 (.agg #[(.int .i64 0), (.int .i64 0), (.bool false), (.slice none 0 0)]) 48 rfl Tryd.underlying28 info37 rfl (by decide) (by omega) (.slice Ao21 x3_1.length co21) x3_1 (⟨0, wrap64 ((x3_1.length : Int) + 1), ((wrap64 (x4_1 + 64)) == (l0.length : Int)), y274⟩ : S37) [.int .i64 0, .int .i64 (wrap64 ((x3_1.length : Int) + 1)), .bool ((wrap64 (x4_1 + 64)) == (l0.length : Int)), .slice Ao26 y274.length co26] (fun _ => True) (fun k_ => some k_ = (.slice Ao26 y274.length co26 : Value).ownBlock) rfl rfl ?aP (fun k_ hk_ => ((Kd.R_mono (ok' := fun k_ => ((fun _ => True)) k_ ∧ some k_ ≠ (.slice Ao21 x3_1.length co21 : Value).ownBlock) (Kd.R_apart' (HO276.out) (Kd.S_typed HO_3.out) (by decide)) (fun k_ hk => ⟨trivial, hk.2⟩))).1 k_ hk_.symm) ?aF ?aO ?aB ?aS ?aL ?_; (case aP => exact k37_mkM _ _ _ (⟨0, wrap64 ((x3_1.length : Int) + 1), ((wrap64 (x4_1 + 64)) == (l0.length : Int)), y274⟩ : S37) (Kd.R_mono (Kd.R_tight rfl (Kd.R_mono (ok' := fun k_ => ((fun _ => True)) k_ ∧ some k_ ≠ (.slice Ao21 x3_1.length co21 : Value).ownBlock) (Kd.R_apart' (HO276.out) (Kd.S_typed HO_3.out) (by decide)) (fun k_ hk => ⟨trivial, hk.2⟩))) (fun _ h_ => h_))); (case aB => exact (by repeat (first | (with_reducible first | exact HB.out | apply below_alloc | apply pw_below_drewN | apply below_drew1) | exact HB.out))); (case aF => exact (fun _ _ => trivial)); (case aO => exact (by (with_reducible repeat (first | apply Kd.S_alloc | apply Kd.S_drewN | apply Kd.S_drew)); exact Kd.S_mono HO_3.out (fun k_ hk => ⟨trivial, fun e_ => hk.2 e_⟩))); (case aS => exact (below_size (by repeat (first | (with_reducible first | exact HB.out | apply below_alloc | apply pw_below_drewN | apply below_drew1) | exact HB.out)))); (case aL => have := LMc20.out; omega); intro v278 w27 ho hb hg hat; rw [← Ny277.out] at ho; have n0_ := Aside0.mk (hb); have n1_ := Aside0.mk (ho); clear HB; clear HO_3; clear HO276; have HB := n0_; have HO279 := n1_; clear n0_ n1_; clear ho hb hg hat))
          (try simp only [add_plain])
          go_roundg k1
          case measure => have := HK1.out; omega
          case rel => exact ⟨(y277), (wrap64 (x4_1 + 64)), (by first | rfl | (simp; done) | (simp [*]; done)), H', ⟨by have := HK1.out; omega⟩, ⟨by (with_reducible repeat (first | apply Kd.S_alloc | apply Kd.S_drewN | apply Kd.S_drew)); exact HO279.out⟩, ⟨by repeat (first | (with_reducible first | exact HB.out | apply below_alloc | apply pw_below_drewN | apply below_drew1) | exact HB.out)⟩⟩
         ·rw [if_neg c20] at H
          exact absurd H (by simp)
        ·rw [if_neg c19] at H
         exact absurd H (by simp)
       ·rw [if_neg c18] at H
        exact absurd H (by simp)
      ·rw [if_neg c17] at H
       exact absurd H (by simp)
     ·rw [if_neg c16] at H
      exact absurd H (by simp)
   ·rw [if_neg c2] at H
    have c2b0 : decide (x4_1 < (l0.length : Int)) = false := decide_eq_false c2
    clear c2
    obtain rfl := Option.some.inj H
    go_wp2
    go_ret
    exact ⟨_, by first | rfl | (simp [errW_none, errW_some] <;> rfl) | (simp [*, errW_none, errW_some] <;> rfl), by (with_reducible repeat (first | apply Kd.S_alloc | apply Kd.S_drewN | apply Kd.S_drew)); exact HO_3.out, by repeat (first | (with_reducible first | exact HB.out | apply below_alloc | apply pw_below_drewN | apply below_drew1) | exact HB.out)⟩
end Go.Proofs.YtafjegfmmnjpfaaDoor.YLine
end
section
namespace Go.Proofs.YtafjegfmmnjpfaaDoor.LineT
open Go.RowKit Go.Proofs.YtafjegfmmnjpfaaDoor.YLine Go.Proofs.YtafjegfmmnjpfaaDoorW.PrintWords Go.Proofs.YtafjegfmmnjpfaaDoorW.PrintLast Go.Proofs.YtafjegfmmnjpfaaDoorW.PrintMore
set_option linter.unusedVariables false
set_option linter.unusedSimpArgs false
theorem rsame_loop (a b : List Int) (hl : a.length = b.length) (hb : a.length ≤ 100000) : ∀ d i, i + d = a.length → Ev (fun k => shutterref01_Same.l0 k a b (i : Int)) (decide (a.drop i = b.drop i))
  | 0, i, hi => by
    refine Ev.step (f := fun _ => some true) (fun k => ?_) (by rw [List.drop_of_length_le (by omega), List.drop_of_length_le (by omega)]; exact Ev.now _)
    simp only [shutterref01_Same.l0]
    rw [if_neg (by omega)]
  | d + 1, i, hi => by
    have e3 : wrap64 ((i : Int) + 1) = ((i + 1 : Nat) : Int) := by rw [wrap_in (by omega) (by omega)]; omega
    have h1 : i < a.length := by omega
    have h2 : i < b.length := by omega
    rw [List.drop_eq_getElem_cons h1, List.drop_eq_getElem_cons h2]
    by_cases c : a[i] = b[i]
    · have : decide (a[i] :: a.drop (i + 1) = b[i] :: b.drop (i + 1)) = decide (a.drop (i + 1) = b.drop (i + 1)) := by rw [decide_eq_decide]; exact ⟨fun h => (List.cons.inj h).2, fun h => by rw [c, h]⟩
      rw [this]
      refine Ev.step (fun k => ?_) (rsame_loop a b hl hb d (i + 1) (by omega))
      simp only [shutterref01_Same.l0]
      rw [if_pos (by omega), if_pos (by omega), if_pos (by omega), rd_at h1, rd_at h2, if_pos c, e3]
    · have : decide (a[i] :: a.drop (i + 1) = b[i] :: b.drop (i + 1)) = false := decide_eq_false (fun h => c (List.cons.inj h).1)
      rw [this]
      refine Ev.step (f := fun _ => some false) (fun k => ?_) (Ev.now _)
      simp only [shutterref01_Same.l0]
      rw [if_pos (by omega), if_pos (by omega), if_pos (by omega), rd_at h1, rd_at h2, if_neg c]
theorem rsame_ev (a b : List Int) (hb : a.length ≤ 100000) : Ev (fun k => shutterref01_Same.f k a b) (decide (a = b)) := by
  unfold shutterref01_Same.f
  by_cases h : (a.length : Int) = (b.length : Int)
  · simp only [if_pos h]
    exact rsame_loop a b (by omega) hb a.length 0 (by omega)
  · simp only [if_neg h]
    rw [decide_eq_false (fun e => h (by rw [e]))]
    exact Ev.now _
theorem prsame_ev (a n : Int) (l : Bool) (d : List Int) (a' n' : Int) (l' : Bool) (d' : List Int) (hb : d.length ≤ 100000) : Ev (fun k => shutterref22_Same.f k a n l d a' n' l' d') (decide (a = a' ∧ n = n' ∧ l = l' ∧ d = d')) := by
  unfold shutterref22_Same.f
  by_cases h1 : a = a'
  · by_cases h2 : n = n'
    · by_cases h3 : l = l'
      · simp only [if_pos h1, if_pos h2, if_pos (show (l == l') = true by simp [h3])]
        have : decide (a = a' ∧ n = n' ∧ l = l' ∧ d = d') = decide (d = d') := by simp [h1, h2, h3]
        rw [this]
        exact Ev.bind (rsame_ev d d' hb) (Ev.now _)
      · simp only [if_pos h1, if_pos h2, if_neg (show ¬ (l == l') = true by simp [h3])]
        rw [decide_eq_false (fun h => h3 h.2.2.1)]; exact Ev.now _
    · simp only [if_pos h1, if_neg h2]
      rw [decide_eq_false (fun h => h2 h.2.1)]; exact Ev.now _
  · simp only [if_neg h1]
    rw [decide_eq_false (fun h => h1 h.1)]; exact Ev.now _
theorem prsame_self (a n : Int) (l : Bool) (d : List Int) (hb : d.length ≤ 100000) : Ev (fun k => shutterref22_Same.f k a n l d a n l d) true := by
  have h := prsame_ev a n l d a n l d hb
  rwa [decide_eq_true (show a = a ∧ n = n ∧ l = l ∧ d = d from ⟨rfl, rfl, rfl, rfl⟩)] at h
def pieces (l : List Int) : Nat := (l.length + 63) / 64
theorem chunk_some (l : List Int) {i : Nat} (h : i < pieces l) : 1 ≤ (Chunk.chunk l i).length ∧ (Chunk.chunk l i).length ≤ 64 := by rw [Chunk.chunk_length]; unfold Chunk.size; unfold pieces at h; omega
def front (l : List Int) (i : Nat) : List S37 := (List.range i).map fun (j : Nat) => (⟨0, (j : Int) + 1, decide (j + 1 = pieces l), Chunk.chunk l j⟩ : S37)
theorem front_length (l : List Int) (i : Nat) : (front l i).length = i := by unfold front; rw [List.length_map, List.length_range]
theorem front_succ (l : List Int) (i : Nat) : front l (i + 1) = front l i ++ [⟨0, (i : Int) + 1, decide (i + 1 = pieces l), Chunk.chunk l i⟩] := by unfold front; rw [List.range_succ, List.map_append]; rfl
theorem chunk_eq (l : List Int) (i m : Nat) (h : m = min 64 (l.length - 64 * i)) : (l.take (64 * i + m)).drop (64 * i) = Chunk.chunk l i := by
  unfold Chunk.chunk
  rw [List.drop_take, show 64 * i + m - 64 * i = m by omega]
  by_cases c : m = 64
  · rw [c]
  · rw [List.take_of_length_le (by rw [List.length_drop]; omega), List.take_of_length_le (by rw [List.length_drop]; omega)]
theorem rcut_loop (l : List Int) (h1 : 1 ≤ l.length) (h2 : l.length ≤ 8192) : ∀ d i, i + d = pieces l → Ev (fun k => shutterref22_Cut.l0 k l (front l i) ((min (64 * i) l.length : Nat) : Int)) (front l (pieces l))
  | 0, i, hi => by
    have hp : pieces l = (l.length + 63) / 64 := rfl
    refine Ev.step (f := fun _ => some (front l i)) (fun k => ?_) (by rw [show i = pieces l by omega]; exact Ev.now _)
    simp only [shutterref22_Cut.l0]
    rw [if_neg (by omega)]
  | d + 1, i, hi => by
    have hp : pieces l = (l.length + 63) / 64 := rfl
    have hat : min (64 * i) l.length = 64 * i := by omega
    refine Ev.step (fun k => ?_) (rcut_loop l h1 h2 d (i + 1) (by omega))
    have hfl := front_length l i
    simp only [shutterref22_Cut.l0]
    rw [hat, if_pos (by omega), wrap_in (x := (l.length : Int) - ((64 * i : Nat) : Int)) (by omega) (by omega)]
    by_cases c : (l.length : Int) - ((64 * i : Nat) : Int) < 64
    · have hw : wrap64 (((64 * i : Nat) : Int) + ((l.length : Int) - ((64 * i : Nat) : Int))) = (l.length : Int) := by rw [wrap_in (by omega) (by omega)]; omega
      have hc : (l.take (l.length : Int).toNat).drop (((64 * i : Nat) : Int)).toNat = Chunk.chunk l i := by
        rw [Int.toNat_natCast, Int.toNat_natCast]
        have := chunk_eq l i (l.length - 64 * i) (by omega)
        rw [show 64 * i + (l.length - 64 * i) = l.length by omega] at this
        exact this
      rw [if_pos c, hw]
      simp only [Option.bind_some, hc, List.length_nil, List.nil_append]
      have hs := chunk_some l (i := i) (by omega)
      rw [if_pos (by omega), if_pos (by omega), if_pos (by omega), if_pos (by omega), if_pos (by omega), hfl, wrap_in (x := (i : Int) + 1) (by omega) (by omega), front_succ, show min (64 * (i + 1)) l.length = l.length by omega]
      have hb : ((l.length : Int) == (l.length : Int)) = decide (i + 1 = pieces l) := by rw [beq_self_eq_true, decide_eq_true (by omega)]
      rw [hb]
    · have hw : wrap64 (((64 * i : Nat) : Int) + 64) = ((64 * i + 64 : Nat) : Int) := by rw [wrap_in (by omega) (by omega)]; omega
      have hc : (l.take (((64 * i + 64 : Nat) : Int)).toNat).drop (((64 * i : Nat) : Int)).toNat = Chunk.chunk l i := by
        rw [Int.toNat_natCast, Int.toNat_natCast]
        exact chunk_eq l i 64 (by omega)
      rw [if_neg c, hw]
      simp only [Option.bind_some, hc, List.length_nil, List.nil_append]
      have hs := chunk_some l (i := i) (by omega)
      rw [if_pos (by omega), if_pos (by omega), if_pos (by omega), if_pos (by omega), if_pos (by omega), hfl, wrap_in (x := (i : Int) + 1) (by omega) (by omega), front_succ, show min (64 * (i + 1)) l.length = 64 * i + 64 by omega]
      have hb : (((64 * i + 64 : Nat) : Int) == (l.length : Int)) = decide (i + 1 = pieces l) := by
        by_cases h : i + 1 = pieces l
        · rw [decide_eq_true h, beq_iff_eq]; omega
        · rw [decide_eq_false h, beq_eq_false_iff_ne]; omega
      rw [hb]
theorem rcut_ev (l : List Int) (h1 : 1 ≤ l.length) (h2 : l.length ≤ 8192) : Ev (fun k => shutterref22_Cut.f k l) (Chunk.cutL l) := by
  unfold shutterref22_Cut.f
  have := rcut_loop l h1 h2 (pieces l) 0 (by omega)
  rw [show ((min (64 * 0) l.length : Nat) : Int) = 0 by simp] at this
  exact this
theorem all_loop (l : List P4) (hl : l.length ≤ 100000) (hd : ∀ p ∈ l, p.f3.length ≤ 100000) : ∀ d i, i + d = l.length → Ev (fun k => shutterref22_SameAll.l0 k l l (i : Int)) true
  | 0, i, hi => by
    refine Ev.step (f := fun _ => some true) (fun k => ?_) (Ev.now _)
    simp only [shutterref22_SameAll.l0]
    rw [if_neg (by omega)]
  | d + 1, i, hi => by
    have e3 : wrap64 ((i : Int) + 1) = ((i + 1 : Nat) : Int) := by rw [wrap_in (by omega) (by omega)]; omega
    have hlt : i < l.length := by omega
    have hr : rd_T37 l (i : Int) = l[i] := by unfold rd_T37; rw [Int.toNat_natCast, List.getD_eq_getElem?_getD, List.getElem?_eq_getElem hlt]; rfl
    have hsm := prsame_self (l[i]).f0 (l[i]).f1 (l[i]).f2 (l[i]).f3 (hd _ (List.getElem_mem hlt))
    refine Ev.step (fun k => ?_) (Ev.bind hsm (f := fun k t => if t = true then shutterref22_SameAll.l0 k l l ((i + 1 : Nat) : Int) else some false) (by simpa using all_loop l hl hd d (i + 1) (by omega)))
    simp only [shutterref22_SameAll.l0]
    rw [if_pos (by omega), if_pos (by omega), if_pos (by omega), hr, e3]
theorem all_ev (l : List P4) (hl : l.length ≤ 100000) (hd : ∀ p ∈ l, p.f3.length ≤ 100000) : Ev (fun k => shutterref22_SameAll.f k l l) true := by
  unfold shutterref22_SameAll.f
  simp only [if_true]
  exact all_loop l hl hd l.length 0 (by omega)
theorem find_loop (n : Int) (l0 : List P4) (a1 a2 : Int) (l3 : List P4) (l4 : List Int) (a5 a6 : Int) (a7 : Bool) (hl : l3.length ≤ 100000) : ∀ d i, i + d = l3.length → Ev (fun k => shutterref23_find.l0 k n (i : Int) l0 a1 a2 l3 l4 a5 a6 a7) (match fndS n (l3.drop i) with | some j => ((i + j : Nat) : Int) | none => -1)
  | 0, i, hi => by
    rw [List.drop_eq_nil_of_le (by omega)]
    refine Ev.step (f := fun _ => some (-1)) (fun k => ?_) (Ev.now _)
    simp only [shutterref23_find.l0]
    rw [if_neg (by omega)]
  | d + 1, i, hi => by
    have hlt : i < l3.length := by omega
    have e3 : wrap64 ((i : Int) + 1) = ((i + 1 : Nat) : Int) := by rw [wrap_in (by omega) (by omega)]; omega
    have hr : rd_T37 l3 (i : Int) = l3[i] := by unfold rd_T37; rw [Int.toNat_natCast, List.getD_eq_getElem?_getD, List.getElem?_eq_getElem hlt]; rfl
    rw [List.drop_eq_getElem_cons hlt]
    unfold fndS
    by_cases he : (l3[i]).f1 = n
    · rw [if_pos he]
      refine Ev.step (f := fun _ => some (i : Int)) (fun k => ?_) (Ev.now _)
      simp only [shutterref23_find.l0]
      rw [if_pos (by omega), if_pos (by omega), hr, if_pos he]
    · rw [if_neg he]
      have ih := find_loop n l0 a1 a2 l3 l4 a5 a6 a7 hl d (i + 1) (by omega)
      have e4 : (match (fndS n (l3.drop (i + 1))).map (· + 1) with | some j => ((i + j : Nat) : Int) | none => -1) = (match fndS n (l3.drop (i + 1)) with | some j => ((i + 1 + j : Nat) : Int) | none => -1) := by
        cases fndS n (l3.drop (i + 1)) with
        | none => rfl
        | some j => show ((i + (j + 1) : Nat) : Int) = _; rw [show i + (j + 1) = i + 1 + j by omega]
      rw [e4]
      refine Ev.step (fun k => ?_) ih
      simp only [shutterref23_find.l0]
      rw [if_pos (by omega), if_pos (by omega), hr, if_neg he, e3]
def fndI (n : Int) (l : List P4) : Int := match fndS n l with | some j => (j : Int) | none => -1
theorem find_ev (n : Int) (l0 : List P4) (a1 a2 : Int) (l3 : List P4) (l4 : List Int) (a5 a6 : Int) (a7 : Bool) (hl : l3.length ≤ 100000) : Ev (fun k => shutterref23_find.f k l0 a1 a2 l3 l4 a5 a6 a7 n) (fndI n l3) := by
  have h := find_loop n l0 a1 a2 l3 l4 a5 a6 a7 hl l3.length 0 (by omega)
  unfold shutterref23_find.f fndI
  rw [List.drop_zero] at h
  simpa using h
end Go.Proofs.YtafjegfmmnjpfaaDoor.LineT
end
section
namespace Go.Proofs.YtafjegfmmnjpfaaDoor.YLine
open Go.RowKit Go.Proofs.YtafjegfmmnjpfaaDoorW.PrintWords Go.Proofs.YtafjegfmmnjpfaaDoorW.PrintLast Go.Proofs.YtafjegfmmnjpfaaDoorW.PrintMore
attribute [local go_sem] max2_int min2_int max_two min_two max_three min_three max_four min_four   -- for this text's walks alone
set_option linter.unusedVariables false
set_option linter.unusedSimpArgs false
def shutterref22_May.j0 : Nat → Bool → Int → Int → Bool → List Int → Option (Bool)
 | 0, _, _, _, _, _ => none
 | k + 1, x20, x169000, x169001, x169002, x169003 => if x20 = true then (some false) else (if x169001 = 0 then (if x169002 = true then (some false) else (some ((x169003.length : Int) == 0))) else (if (x169003.length : Int) ≥ 1 then (if (x169003.length : Int) ≤ 64 then (if x169002 = true then (some true) else (some ((x169003.length : Int) == 64))) else (some false)) else (some false)))
def shutterref22_May.f (k : Nat) (a0_0 : Int) (a0_1 : Int) (a0_2 : Bool) (l0_3 : List Int) : Option (Bool) := if a0_0 < 0 then (shutterref22_May.j0 k true a0_0 a0_1 a0_2 l0_3) else (if a0_0 > 2147483647 then (shutterref22_May.j0 k true a0_0 a0_1 a0_2 l0_3) else (if a0_1 < 0 then (shutterref22_May.j0 k true a0_0 a0_1 a0_2 l0_3) else (shutterref22_May.j0 k (decide (a0_1 > 2147483647)) a0_0 a0_1 a0_2 l0_3)))
theorem shutterref22_May.mono_l : ∀ k, (∀ y0 y1 y2 y3 y4, LeO (shutterref22_May.j0 k y0 y1 y2 y3 y4) (shutterref22_May.j0 (k + 1) y0 y1 y2 y3 y4))
 | 0 => fun _ _ _ _ _ r h => by simp [shutterref22_May.j0] at h
 | k + 1 => by
  have ih0 := shutterref22_May.mono_l k
  ·intro y0 y1 y2 y3 y4
   unfold shutterref22_May.j0
   repeat' first
   | (with_reducible exact ih0 _ _ _ _ _)
   | (with_reducible exact LeO.refl _)
   | (with_reducible exact LeO.none _)
   | (with_reducible refine LeO.ite ?_ ?_)
   | (with_reducible refine LeO.bind ?_ (fun _ => ?_))
   | exact ih0 _ _ _ _ _
   | exact LeO.none _
   | refine LeO.ite ?_ ?_
   | refine LeO.bind ?_ (fun _ => ?_)
theorem shutterref22_May.mono : ∀ a0 a1 a2 a3 k, LeO (shutterref22_May.f k a0 a1 a2 a3) (shutterref22_May.f (k + 1) a0 a1 a2 a3) := by
 intro a0 a1 a2 a3 k
 have ih0 := shutterref22_May.mono_l k
 unfold shutterref22_May.f
 repeat' first
   | (with_reducible exact ih0 _ _ _ _ _)
   | (with_reducible exact LeO.refl _)
   | (with_reducible exact LeO.none _)
   | (with_reducible refine LeO.ite ?_ ?_)
   | (with_reducible refine LeO.bind ?_ (fun _ => ?_))
   | exact ih0 _ _ _ _ _
   | exact LeO.none _
   | refine LeO.ite ?_ ?_
   | refine LeO.bind ?_ (fun _ => ?_)
set_option maxHeartbeats 8000000 in
set_option maxRecDepth 100000 in
theorem shutterref22_May.calls (k : Nat) (a0_0 : Int) (a0_1 : Int) (a0_2 : Bool) (A0_3 : Option Addr) (c0_3 : Nat) (l0_3 : List Int) (r : Bool) (w : World) (hr0_3 : Kd.C (Kd.int .u8) w A0_3 l0_3.length l0_3) (hc0_3 : l0_3.length ≤ c0_3) (h : shutterref22_May.f k a0_0 a0_1 a0_2 l0_3 = some r) :
  Calls Tryd.prog 33 #[.agg #[.int .i64 a0_0, .int .i64 a0_1, .bool a0_2, .slice A0_3 l0_3.length c0_3]] w fun e w' => e = .returned (.bool r) ∧ Below w.heap.size w w' := by
 have hu37 := Tryd.underlying37
 have HR0_3 := Aside0.mk hr0_3
 have HC0_3 := Aside0.mk hc0_3
 clear hr0_3 hc0_3
 have HB := Aside0.mk (Below.refl w.heap.size w)
 have H : (if a0_0 < 0 then (shutterref22_May.j0 k true a0_0 a0_1 a0_2 l0_3) else (if a0_0 > 2147483647 then (shutterref22_May.j0 k true a0_0 a0_1 a0_2 l0_3) else (if a0_1 < 0 then (shutterref22_May.j0 k true a0_0 a0_1 a0_2 l0_3) else (shutterref22_May.j0 k (decide (a0_1 > 2147483647)) a0_0 a0_1 a0_2 l0_3)))) = some r := h
 clear h
 have HC2 := Aside0.mk H
 clear H
 go_enter Tryd.func33, Tryd.ntmps33
 go_upto_region 1 with (first | ((with_reducible refine gate_dst (N := 1) rfl ?_); (try (refine gate_guard (by rfl) ?_; dsimp only)); refine box_event ?hg (N := 1) ?hd (cs := #[.int .i64 a0_0, .int .i64 a0_1, .bool a0_2, .slice A0_3 l0_3.length c0_3]) (t := 37) ?hr ?_; (case hd => rfl); (case hg => rfl); (case hr => first | (go_simp; done) | (go_simp; rfl)); intro gb168 hg w3 hbox hb; have n0_ := Aside0.mk (below_step (by repeat (first | (with_reducible first | exact HB.out | apply below_alloc | apply pw_below_drewN | apply below_drew1) | exact HB.out)) hb); have n1_ := Aside0.mk (hbox); have n2_ := Aside0.mk ((by rw [hg]; exact (below_size (by repeat (first | (with_reducible first | exact HB.out | apply below_alloc | apply pw_below_drewN | apply below_drew1) | exact HB.out))) : w.heap.size ≤ gb168)); have n3_ := Aside0.mk ((by rw [hg]; exact (below_size (by repeat (first | (with_reducible first | exact HB.out | apply below_alloc | apply pw_below_drewN | apply below_drew1) | exact HB.out))) : w.heap.size ≤ gb168)); clear HB; have HB := n0_; have BK168 := n1_; have GW168 := n2_; have GE168 := n3_; clear n0_ n1_ n2_ n3_; clear hb hbox hg))
 (try simp only [Act.put, List.setIfInBounds_toArray, List.set_cons_zero, List.set_cons_succ])
 go_cut [20] (fun v20 wc => ∃ (kq : Nat) (x20_1 : Bool), v20 = .bool x20_1 ∧ Aside0 (shutterref22_May.j0 kq x20_1 a0_0 a0_1 a0_2 l0_3 = some r) ∧ Aside0 (kq ≤ k) ∧ Aside0 (wc.heap[gb168]? = some (.cells #[.int .i64 a0_0, .int .i64 a0_1, .bool a0_2, (.slice A0_3 l0_3.length c0_3)] 37 (0, 0))) ∧ Aside0 (Below w.heap.size w wc))
 case first =>
  have H := HC2.out
  clear HC2
  by_cases c4 : a0_0 < 0
  ·rw [if_pos c4] at H
   have c4b0 : decide (a0_0 < 0) = true := decide_eq_true c4
   clear c4
   (first | rw [c4b0] | (simp only [i64_w, i32_w]; rw [c4b0]) | skip)
   have H' := Aside0.mk H
   clear H
   have hcz5_0 : w3.cell? ⟨gb168, 0, none⟩ = some (.int .i64 a0_0) := (blk_cell BK168.out 0).trans rfl
   have hcz5_1 : w3.cell? ⟨gb168, 1, none⟩ = some (.int .i64 a0_1) := (blk_cell BK168.out 1).trans rfl
   have hcz5_2 : w3.cell? ⟨gb168, 2, none⟩ = some (.bool a0_2) := (blk_cell BK168.out 2).trans rfl
   have hcz5_3 : w3.cell? ⟨gb168, 3, none⟩ = some (.slice A0_3 l0_3.length c0_3) := (blk_cell BK168.out 3).trans rfl
   have hfz5_0 := blk_frozen BK168.out 0
   have hfz5_1 := blk_frozen BK168.out 1
   have hfz5_2 := blk_frozen BK168.out 2
   have hfz5_3 := blk_frozen BK168.out 3
   go_wp2
   go_meet
   case rel => exact ⟨_, (true), (by first | rfl | (simp; done) | (simp [*]; done)), H', ⟨by first | omega | exact Nat.le_refl _⟩, ⟨by (with_reducible repeat (first | refine blk_drewN ?_ _ | refine blk_drew ?_ | refine blk_alloc ?_ _)); exact BK168.out⟩, ⟨by repeat (first | (with_reducible first | exact HB.out | apply below_alloc | apply pw_below_drewN | apply below_drew1 | refine below_set ?_ GE168.out) | exact HB.out)⟩⟩
  ·rw [if_neg c4] at H
   have c4b0 : decide (a0_0 < 0) = false := decide_eq_false c4
   clear c4
   (first | rw [c4b0] | (simp only [i64_w, i32_w]; rw [c4b0]) | skip)
   by_cases c6 : a0_0 > 2147483647
   ·rw [if_pos c6] at H
    have c6b0 : decide (2147483647 < a0_0) = true := decide_eq_true c6
    clear c6
    have H' := Aside0.mk H
    clear H
    have hcz7_0 : w3.cell? ⟨gb168, 0, none⟩ = some (.int .i64 a0_0) := (blk_cell BK168.out 0).trans rfl
    have hcz7_1 : w3.cell? ⟨gb168, 1, none⟩ = some (.int .i64 a0_1) := (blk_cell BK168.out 1).trans rfl
    have hcz7_2 : w3.cell? ⟨gb168, 2, none⟩ = some (.bool a0_2) := (blk_cell BK168.out 2).trans rfl
    have hcz7_3 : w3.cell? ⟨gb168, 3, none⟩ = some (.slice A0_3 l0_3.length c0_3) := (blk_cell BK168.out 3).trans rfl
    have hfz7_0 := blk_frozen BK168.out 0
    have hfz7_1 := blk_frozen BK168.out 1
    have hfz7_2 := blk_frozen BK168.out 2
    have hfz7_3 := blk_frozen BK168.out 3
    go_wp2
    go_meet
    case rel => exact ⟨_, (true), (by first | rfl | (simp; done) | (simp [*]; done)), H', ⟨by first | omega | exact Nat.le_refl _⟩, ⟨by (with_reducible repeat (first | refine blk_drewN ?_ _ | refine blk_drew ?_ | refine blk_alloc ?_ _)); exact BK168.out⟩, ⟨by repeat (first | (with_reducible first | exact HB.out | apply below_alloc | apply pw_below_drewN | apply below_drew1 | refine below_set ?_ GE168.out) | exact HB.out)⟩⟩
   ·rw [if_neg c6] at H
    have c6b0 : decide (2147483647 < a0_0) = false := decide_eq_false c6
    clear c6
    by_cases c8 : a0_1 < 0
    ·rw [if_pos c8] at H
     have c8b0 : decide (a0_1 < 0) = true := decide_eq_true c8
     clear c8
     have H' := Aside0.mk H
     clear H
     have hcz9_0 : w3.cell? ⟨gb168, 0, none⟩ = some (.int .i64 a0_0) := (blk_cell BK168.out 0).trans rfl
     have hcz9_1 : w3.cell? ⟨gb168, 1, none⟩ = some (.int .i64 a0_1) := (blk_cell BK168.out 1).trans rfl
     have hcz9_2 : w3.cell? ⟨gb168, 2, none⟩ = some (.bool a0_2) := (blk_cell BK168.out 2).trans rfl
     have hcz9_3 : w3.cell? ⟨gb168, 3, none⟩ = some (.slice A0_3 l0_3.length c0_3) := (blk_cell BK168.out 3).trans rfl
     have hfz9_0 := blk_frozen BK168.out 0
     have hfz9_1 := blk_frozen BK168.out 1
     have hfz9_2 := blk_frozen BK168.out 2
     have hfz9_3 := blk_frozen BK168.out 3
     go_wp2
     go_meet
     case rel => exact ⟨_, (true), (by first | rfl | (simp; done) | (simp [*]; done)), H', ⟨by first | omega | exact Nat.le_refl _⟩, ⟨by (with_reducible repeat (first | refine blk_drewN ?_ _ | refine blk_drew ?_ | refine blk_alloc ?_ _)); exact BK168.out⟩, ⟨by repeat (first | (with_reducible first | exact HB.out | apply below_alloc | apply pw_below_drewN | apply below_drew1 | refine below_set ?_ GE168.out) | exact HB.out)⟩⟩
    ·rw [if_neg c8] at H
     have c8b0 : decide (a0_1 < 0) = false := decide_eq_false c8
     clear c8
     have H' := Aside0.mk H
     clear H
     have hcz10_0 : w3.cell? ⟨gb168, 0, none⟩ = some (.int .i64 a0_0) := (blk_cell BK168.out 0).trans rfl
     have hcz10_1 : w3.cell? ⟨gb168, 1, none⟩ = some (.int .i64 a0_1) := (blk_cell BK168.out 1).trans rfl
     have hcz10_2 : w3.cell? ⟨gb168, 2, none⟩ = some (.bool a0_2) := (blk_cell BK168.out 2).trans rfl
     have hcz10_3 : w3.cell? ⟨gb168, 3, none⟩ = some (.slice A0_3 l0_3.length c0_3) := (blk_cell BK168.out 3).trans rfl
     have hfz10_0 := blk_frozen BK168.out 0
     have hfz10_1 := blk_frozen BK168.out 1
     have hfz10_2 := blk_frozen BK168.out 2
     have hfz10_3 := blk_frozen BK168.out 3
     go_wp2
     go_meet
     case rel => exact ⟨_, (decide (a0_1 > 2147483647)), (by first | rfl | (simp; done) | (simp [*]; done)), H', ⟨by first | omega | exact Nat.le_refl _⟩, ⟨by (with_reducible repeat (first | refine blk_drewN ?_ _ | refine blk_drew ?_ | refine blk_alloc ?_ _)); exact BK168.out⟩, ⟨by repeat (first | (with_reducible first | exact HB.out | apply below_alloc | apply pw_below_drewN | apply below_drew1 | refine below_set ?_ GE168.out) | exact HB.out)⟩⟩
 case rest =>
  clear HC2
  try clear p2
  try clear c3
  try clear c4
  try clear c4b0
  try clear c6
  try clear c6b0
  try clear c8
  try clear c8b0
  try clear hcz10_0
  try clear hcz10_1
  try clear hcz10_2
  try clear hcz10_3
  try clear hcz5_0
  try clear hcz5_1
  try clear hcz5_2
  try clear hcz5_3
  try clear hcz7_0
  try clear hcz7_1
  try clear hcz7_2
  try clear hcz7_3
  try clear hcz9_0
  try clear hcz9_1
  try clear hcz9_2
  try clear hcz9_3
  try clear hfz10_0
  try clear hfz10_1
  try clear hfz10_2
  try clear hfz10_3
  try clear hfz5_0
  try clear hfz5_1
  try clear hfz5_2
  try clear hfz5_3
  try clear hfz7_0
  try clear hfz7_1
  try clear hfz7_2
  try clear hfz7_3
  try clear hfz9_0
  try clear hfz9_1
  try clear hfz9_2
  try clear hfz9_3
  obtain ⟨kq, x20_1, rfl, HA, HJ1, BK168, HB⟩ := hcut
  cases kq with
  | zero => exact absurd HA.out (by simp [shutterref22_May.j0])
  | succ kj1 =>
   have H := HA.out
   clear HA
   simp only [shutterref22_May.j0] at H
   by_cases c11 : x20_1 = true
   ·subst c11
    have H1 : (some false) = some r := by rw [if_pos rfl] at H; exact H
    clear H
    have H := H1
    clear H1
    obtain rfl := Option.some.inj H
    go_wp2
    go_ret
    exact ⟨by first | rfl | (simp [errW_none, errW_some] <;> rfl) | (simp [*, errW_none, errW_some] <;> rfl), by repeat (first | (with_reducible first | exact HB.out | apply below_alloc | apply pw_below_drewN | apply below_drew1 | refine below_set ?_ GE168.out) | exact HB.out)⟩
   ·replace c11 := Bool.eq_false_iff.mpr c11
    subst c11
    have H1 : (if a0_1 = 0 then (if a0_2 = true then (some false) else (some ((l0_3.length : Int) == 0))) else (if (l0_3.length : Int) ≥ 1 then (if (l0_3.length : Int) ≤ 64 then (if a0_2 = true then (some true) else (some ((l0_3.length : Int) == 64))) else (some false)) else (some false))) = some r := by rw [if_neg (show ¬ (false = true) by decide)] at H; exact H
    clear H
    have H := H1
    clear H1
    by_cases c12 : a0_1 = 0
    ·rw [if_pos c12] at H
     have c12b0 : (a0_1 == 0) = true := beq_iff_eq.mpr c12
     have c12b1 : (a0_1 != 0) = false := bne_eq_false_iff_eq.mpr c12
     clear c12
     by_cases c13 : a0_2 = true
     ·subst c13
      have H1 : (some false) = some r := by rw [if_pos rfl] at H; exact H
      clear H
      have H := H1
      clear H1
      obtain rfl := Option.some.inj H
      have hcz14_0 : wc.cell? ⟨gb168, 0, none⟩ = some (.int .i64 a0_0) := (blk_cell BK168.out 0).trans rfl
      have hcz14_1 : wc.cell? ⟨gb168, 1, none⟩ = some (.int .i64 a0_1) := (blk_cell BK168.out 1).trans rfl
      have hcz14_2 : wc.cell? ⟨gb168, 2, none⟩ = some (.bool true) := (blk_cell BK168.out 2).trans rfl
      have hcz14_3 : wc.cell? ⟨gb168, 3, none⟩ = some (.slice A0_3 l0_3.length c0_3) := (blk_cell BK168.out 3).trans rfl
      have hfz14_0 := blk_frozen BK168.out 0
      have hfz14_1 := blk_frozen BK168.out 1
      have hfz14_2 := blk_frozen BK168.out 2
      have hfz14_3 := blk_frozen BK168.out 3
      go_wp2
      go_ret
      exact ⟨by first | rfl | (simp [errW_none, errW_some] <;> rfl) | (simp [*, errW_none, errW_some] <;> rfl), by repeat (first | (with_reducible first | exact HB.out | apply below_alloc | apply pw_below_drewN | apply below_drew1 | refine below_set ?_ GE168.out) | exact HB.out)⟩
     ·replace c13 := Bool.eq_false_iff.mpr c13
      subst c13
      have H1 : (some ((l0_3.length : Int) == 0)) = some r := by rw [if_neg (show ¬ (false = true) by decide)] at H; exact H
      clear H
      have H := H1
      clear H1
      obtain rfl := Option.some.inj H
      have hcz15_0 : wc.cell? ⟨gb168, 0, none⟩ = some (.int .i64 a0_0) := (blk_cell BK168.out 0).trans rfl
      have hcz15_1 : wc.cell? ⟨gb168, 1, none⟩ = some (.int .i64 a0_1) := (blk_cell BK168.out 1).trans rfl
      have hcz15_2 : wc.cell? ⟨gb168, 2, none⟩ = some (.bool false) := (blk_cell BK168.out 2).trans rfl
      have hcz15_3 : wc.cell? ⟨gb168, 3, none⟩ = some (.slice A0_3 l0_3.length c0_3) := (blk_cell BK168.out 3).trans rfl
      have hfz15_0 := blk_frozen BK168.out 0
      have hfz15_1 := blk_frozen BK168.out 1
      have hfz15_2 := blk_frozen BK168.out 2
      have hfz15_3 := blk_frozen BK168.out 3
      go_wp2
      go_ret
      exact ⟨by first | rfl | (simp [errW_none, errW_some] <;> rfl) | (simp [*, errW_none, errW_some] <;> rfl), by repeat (first | (with_reducible first | exact HB.out | apply below_alloc | apply pw_below_drewN | apply below_drew1 | refine below_set ?_ GE168.out) | exact HB.out)⟩
    ·rw [if_neg c12] at H
     have c12b0 : (a0_1 == 0) = false := beq_eq_false_iff_ne.mpr c12
     have c12b1 : (a0_1 != 0) = true := bne_iff_ne.mpr c12
     by_cases c16 : (l0_3.length : Int) ≥ 1
     ·rw [if_pos c16] at H
      have c16b0 : decide (1 ≤ (l0_3.length : Int)) = true := decide_eq_true c16
      have c16b1 : decide (1 ≤ l0_3.length) = true := decide_eq_true (by omega)
      clear c16
      by_cases c17 : (l0_3.length : Int) ≤ 64
      ·rw [if_pos c17] at H
       have c17b0 : decide ((l0_3.length : Int) ≤ 64) = true := decide_eq_true c17
       have c17b1 : decide (l0_3.length ≤ 64) = true := decide_eq_true (by omega)
       clear c17
       by_cases c18 : a0_2 = true
       ·subst c18
        have H1 : (some true) = some r := by rw [if_pos rfl] at H; exact H
        clear H
        have H := H1
        clear H1
        obtain rfl := Option.some.inj H
        have hcz19_0 : wc.cell? ⟨gb168, 0, none⟩ = some (.int .i64 a0_0) := (blk_cell BK168.out 0).trans rfl
        have hcz19_1 : wc.cell? ⟨gb168, 1, none⟩ = some (.int .i64 a0_1) := (blk_cell BK168.out 1).trans rfl
        have hcz19_2 : wc.cell? ⟨gb168, 2, none⟩ = some (.bool true) := (blk_cell BK168.out 2).trans rfl
        have hcz19_3 : wc.cell? ⟨gb168, 3, none⟩ = some (.slice A0_3 l0_3.length c0_3) := (blk_cell BK168.out 3).trans rfl
        have hfz19_0 := blk_frozen BK168.out 0
        have hfz19_1 := blk_frozen BK168.out 1
        have hfz19_2 := blk_frozen BK168.out 2
        have hfz19_3 := blk_frozen BK168.out 3
        go_wp2
        go_ret
        exact ⟨by first | rfl | (simp [errW_none, errW_some] <;> rfl) | (simp [*, errW_none, errW_some] <;> rfl), by repeat (first | (with_reducible first | exact HB.out | apply below_alloc | apply pw_below_drewN | apply below_drew1 | refine below_set ?_ GE168.out) | exact HB.out)⟩
       ·replace c18 := Bool.eq_false_iff.mpr c18
        subst c18
        have H1 : (some ((l0_3.length : Int) == 64)) = some r := by rw [if_neg (show ¬ (false = true) by decide)] at H; exact H
        clear H
        have H := H1
        clear H1
        obtain rfl := Option.some.inj H
        have hcz20_0 : wc.cell? ⟨gb168, 0, none⟩ = some (.int .i64 a0_0) := (blk_cell BK168.out 0).trans rfl
        have hcz20_1 : wc.cell? ⟨gb168, 1, none⟩ = some (.int .i64 a0_1) := (blk_cell BK168.out 1).trans rfl
        have hcz20_2 : wc.cell? ⟨gb168, 2, none⟩ = some (.bool false) := (blk_cell BK168.out 2).trans rfl
        have hcz20_3 : wc.cell? ⟨gb168, 3, none⟩ = some (.slice A0_3 l0_3.length c0_3) := (blk_cell BK168.out 3).trans rfl
        have hfz20_0 := blk_frozen BK168.out 0
        have hfz20_1 := blk_frozen BK168.out 1
        have hfz20_2 := blk_frozen BK168.out 2
        have hfz20_3 := blk_frozen BK168.out 3
        go_wp2
        go_ret
        exact ⟨by first | rfl | (simp [errW_none, errW_some] <;> rfl) | (simp [*, errW_none, errW_some] <;> rfl), by repeat (first | (with_reducible first | exact HB.out | apply below_alloc | apply pw_below_drewN | apply below_drew1 | refine below_set ?_ GE168.out) | exact HB.out)⟩
      ·rw [if_neg c17] at H
       have c17b0 : decide ((l0_3.length : Int) ≤ 64) = false := decide_eq_false c17
       have c17b1 : decide (l0_3.length ≤ 64) = false := decide_eq_false (by omega)
       clear c17
       obtain rfl := Option.some.inj H
       have hcz21_0 : wc.cell? ⟨gb168, 0, none⟩ = some (.int .i64 a0_0) := (blk_cell BK168.out 0).trans rfl
       have hcz21_1 : wc.cell? ⟨gb168, 1, none⟩ = some (.int .i64 a0_1) := (blk_cell BK168.out 1).trans rfl
       have hcz21_2 : wc.cell? ⟨gb168, 2, none⟩ = some (.bool a0_2) := (blk_cell BK168.out 2).trans rfl
       have hcz21_3 : wc.cell? ⟨gb168, 3, none⟩ = some (.slice A0_3 l0_3.length c0_3) := (blk_cell BK168.out 3).trans rfl
       have hfz21_0 := blk_frozen BK168.out 0
       have hfz21_1 := blk_frozen BK168.out 1
       have hfz21_2 := blk_frozen BK168.out 2
       have hfz21_3 := blk_frozen BK168.out 3
       go_wp2
       go_ret
       exact ⟨by first | rfl | (simp [errW_none, errW_some] <;> rfl) | (simp [*, errW_none, errW_some] <;> rfl), by repeat (first | (with_reducible first | exact HB.out | apply below_alloc | apply pw_below_drewN | apply below_drew1 | refine below_set ?_ GE168.out) | exact HB.out)⟩
     ·rw [if_neg c16] at H
      have c16b0 : decide (1 ≤ (l0_3.length : Int)) = false := decide_eq_false c16
      have c16b1 : decide (1 ≤ l0_3.length) = false := decide_eq_false (by omega)
      clear c16
      obtain rfl := Option.some.inj H
      have hcz22_0 : wc.cell? ⟨gb168, 0, none⟩ = some (.int .i64 a0_0) := (blk_cell BK168.out 0).trans rfl
      have hcz22_1 : wc.cell? ⟨gb168, 1, none⟩ = some (.int .i64 a0_1) := (blk_cell BK168.out 1).trans rfl
      have hcz22_2 : wc.cell? ⟨gb168, 2, none⟩ = some (.bool a0_2) := (blk_cell BK168.out 2).trans rfl
      have hcz22_3 : wc.cell? ⟨gb168, 3, none⟩ = some (.slice A0_3 l0_3.length c0_3) := (blk_cell BK168.out 3).trans rfl
      have hfz22_0 := blk_frozen BK168.out 0
      have hfz22_1 := blk_frozen BK168.out 1
      have hfz22_2 := blk_frozen BK168.out 2
      have hfz22_3 := blk_frozen BK168.out 3
      go_wp2
      go_ret
      exact ⟨by first | rfl | (simp [errW_none, errW_some] <;> rfl) | (simp [*, errW_none, errW_some] <;> rfl), by repeat (first | (with_reducible first | exact HB.out | apply below_alloc | apply pw_below_drewN | apply below_drew1 | refine below_set ?_ GE168.out) | exact HB.out)⟩
end Go.Proofs.YtafjegfmmnjpfaaDoor.YLine
end
section
namespace Go.Proofs.YtafjegfmmnjpfaaDoor.LineT
open Go.RowKit Go.Proofs.YtafjegfmmnjpfaaDoor.YLine Go.Proofs.YtafjegfmmnjpfaaDoorW.PrintWords Go.Proofs.YtafjegfmmnjpfaaDoorW.PrintLast Go.Proofs.YtafjegfmmnjpfaaDoorW.PrintMore
set_option linter.unusedVariables false
set_option linter.unusedSimpArgs false
theorem rmay_ev (a n : Int) (last : Bool) (d : List Int) : Ev (fun k => shutterref22_May.f k a n last d) (mayB a n last d) := by
  have no : Ev (fun k => shutterref22_May.j0 k true a n last d) false := Ev.step (f := fun _ => some false) (fun k => by simp only [shutterref22_May.j0, if_true]) (Ev.now _)
  unfold shutterref22_May.f mayB
  by_cases h1 : a < 0
  · simp only [if_pos h1, decide_eq_false (show ¬ 0 ≤ a by omega), Bool.false_and]; exact no
  · simp only [if_neg h1, decide_eq_true (show 0 ≤ a by omega), Bool.true_and]
    by_cases h2 : a > 2147483647
    · simp only [if_pos h2, decide_eq_false (show ¬ a ≤ 2147483647 by omega), Bool.false_and]; exact no
    · simp only [if_neg h2, decide_eq_true (show a ≤ 2147483647 by omega), Bool.true_and]
      by_cases h3 : n < 0
      · simp only [if_pos h3, decide_eq_false (show ¬ 0 ≤ n by omega), Bool.false_and]; exact no
      · simp only [if_neg h3, decide_eq_true (show 0 ≤ n by omega), Bool.true_and]
        by_cases h4 : n > 2147483647
        · simp only [decide_eq_true h4, decide_eq_false (show ¬ n ≤ 2147483647 by omega), Bool.false_and]; exact no
        · simp only [decide_eq_false h4, decide_eq_true (show n ≤ 2147483647 by omega), Bool.true_and]
          refine Ev.step (f := fun _ => some (if n = 0 then (if last = true then false else decide (d.length = 0)) else (decide (d.length = 64) || (last && (decide (1 ≤ d.length) && decide (d.length ≤ 64)))))) (fun k => ?_) (Ev.now _)
          simp only [shutterref22_May.j0, Bool.false_eq_true, if_false]
          by_cases h5 : n = 0
          · rw [if_pos h5, if_pos h5]
            cases last
            · simp only [Bool.false_eq_true, if_false]
              congr 1
              by_cases h6 : d.length = 0
              · rw [decide_eq_true h6, beq_iff_eq]; omega
              · rw [decide_eq_false h6, beq_eq_false_iff_ne]; omega
            · rfl
          · rw [if_neg h5, if_neg h5]
            by_cases h6 : (d.length : Int) ≥ 1
            · rw [if_pos h6]
              by_cases h7 : (d.length : Int) ≤ 64
              · rw [if_pos h7, decide_eq_true (show 1 ≤ d.length by omega), decide_eq_true (show d.length ≤ 64 by omega)]
                cases last
                · simp only [Bool.false_eq_true, if_false, Bool.false_and, Bool.or_false]
                  congr 1
                  by_cases h8 : d.length = 64
                  · rw [decide_eq_true h8, beq_iff_eq]; omega
                  · rw [decide_eq_false h8, beq_eq_false_iff_ne]; omega
                · simp
              · rw [if_neg h7, decide_eq_false (show ¬ d.length = 64 by omega), decide_eq_false (show ¬ d.length ≤ 64 by omega)]
                simp
            · rw [if_neg h6, decide_eq_false (show ¬ d.length = 64 by omega), decide_eq_false (show ¬ 1 ≤ d.length by omega)]
              simp
theorem rmay_calls (w : World) (a n : Int) (last : Bool) (A : Option Addr) (c : Nat) (b : List Int) (hb : Bytes w A b) (hc : b.length ≤ c) (hl : b.length ≤ 9223372036854775807) :
    Calls Tryd.prog 33 #[.agg ⟨[.int .i64 a, .int .i64 n, .bool last, .slice A b.length c]⟩] w fun e w' => e = .returned (.bool (mayB a n last b)) ∧ Below w.heap.size w w' := by
  obtain ⟨k, hk⟩ := rmay_ev a n last b
  exact shutterref22_May.calls k a n last A c b _ w (reads_bytes hb hl) hc (hk k (Nat.le_refl _))
/-- A row of packs can be read. -/
theorem rps_C {w : World} {base c : Nat} {A : Option Addr} {ps : List Pk} (hq : QRow w base 37 4 (.slice A ps.length c) ps.length (pkCells ps)) (he : ∀ p ∈ ps, Bytes w p.A p.b ∧ p.b.length ≤ p.c) (hl : ∀ p ∈ ps, p.b.length ≤ 9223372036854775807) : Kd.C k37 w A (ps.map Pk.say).length (ps.map Pk.say) := by
  refine ⟨rfl, by rw [List.length_map]; exact q_max hq, fun hn => ?_⟩
  rw [List.length_map] at hn
  obtain ⟨ad, rfl, hc⟩ := q_cells hq hn
  refine ⟨ad, rfl, fun j p hj => ?_⟩
  rw [List.getElem?_map] at hj
  have hjl : j < ps.length := by
    by_cases h : j < ps.length
    · exact h
    · rw [List.getElem?_eq_none (by omega)] at hj; cases hj
  rw [List.getElem?_eq_getElem hjl] at hj
  injection hj with hj
  subst hj
  obtain ⟨h1, h2⟩ := he _ (List.getElem_mem hjl)
  refine ⟨Pk.cells ps[j], rfl, k37_mk w (ps[j]).say h2 (reads_bytes h1 (hl _ (List.getElem_mem hjl))), fun i u hi => ?_⟩
  have hi4 : i < 4 := (List.getElem?_eq_some_iff.1 hi).1
  exact hc (j * 4 + i) u (by rw [pkCells_at ps j hjl i hi4]; exact hi)
theorem rfind_calls (w : World) (base : Nat) (D : Nat → Prop) (vq vk vc : Value) (qs ks : List Pk) (M : LS) (n : Int) (h : RefIs w base D vq vk vc qs ks M) (hk : M.kept.length ≤ 100000) (hq : ∀ p ∈ qs, p.b.length ≤ 1000000) (hkd : ∀ p ∈ ks, p.b.length ≤ 1000000) (hc : M.coming.length ≤ 1000000) :
    Calls Tryd.prog 34 #[.agg ⟨refCells vq vk vc M⟩, .int .i64 n] w fun e w' => e = .returned (.int .i64 (fndI n M.kept)) ∧ Below w.heap.size w w' := by
  obtain ⟨Aq, cq, rfl, hcq⟩ := q_slice h.que.row
  obtain ⟨Ak, ck, rfl, hck⟩ := q_slice h.kep.row
  obtain ⟨Ac, cc, rfl, hcc⟩ := q_slice h.com
  have e1 : qs.length = (qs.map Pk.say).length := by rw [List.length_map]
  have e2 : ks.length = (ks.map Pk.say).length := by rw [List.length_map]
  have eq' := h.queue
  have ek' := h.kept
  obtain ⟨k, hk'⟩ := find_ev n (qs.map Pk.say) M.given M.await (ks.map Pk.say) M.coming M.wait M.left M.owes (by rw [ek']; exact hk)
  have hby : Bytes w Ac M.coming := fun hp => q_cells h.com hp
  have C1 := rps_C h.que.row (fun p hp => ⟨(h.que.els p hp).bytes, (h.que.els p hp).cap⟩) (fun p hp => by have := hq p hp; omega)
  have C2 := rps_C h.kep.row (fun p hp => ⟨(h.kep.els p hp).bytes, (h.kep.els p hp).cap⟩) (fun p hp => by have := hkd p hp; omega)
  have hh := shutterref23_find.calls k Aq cq (qs.map Pk.say) M.given M.await Ak ck (ks.map Pk.say) Ac cc M.coming M.wait M.left M.owes n _ w C1 (by rw [← e1]; exact hcq) C2 (by rw [← e2]; exact hck) (reads_bytes hby (by omega)) hcc (hk' k (Nat.le_refl _))
  rw [← e1, ← e2, ek'] at hh
  exact hh
theorem rcut_calls (w : World) (A : Option Addr) (c : Nat) (msg : List Int) (hb : Bytes w A msg) (hc : msg.length ≤ c) (h1 : 1 ≤ msg.length) (h2 : msg.length ≤ 8192) :
    Calls Tryd.prog 37 #[.slice A msg.length c] w fun e w' => (∃ v ps, e = .returned v ∧ Packs w' w.heap.size v ps ∧ ps.map Pk.say = Chunk.cutL msg) ∧ Below w.heap.size w w' := by
  obtain ⟨k, hk⟩ := rcut_ev msg h1 h2
  refine (shutterref22_Cut.calls k A c msg (Chunk.cutL msg) w (reads_bytes hb (by omega)) hc (hk k (Nat.le_refl _))).mono ?_
  rintro e w' ⟨v, he, hS, hB⟩
  obtain ⟨ps, hp, hs⟩ := packs_of_R (Kd.S_R hS)
  exact ⟨⟨v, ps, he, hp, hs⟩, hB⟩
theorem rall_calls (w : World) (B1 B2 c1 c2 : Nat) (A1 A2 : Option Addr) (ps1 ps2 : List Pk) (q1 : QRow w B1 37 4 (.slice A1 ps1.length c1) ps1.length (pkCells ps1)) (q2 : QRow w B2 37 4 (.slice A2 ps2.length c2) ps2.length (pkCells ps2)) (e1 : ∀ p ∈ ps1, Bytes w p.A p.b ∧ p.b.length ≤ p.c) (e2 : ∀ p ∈ ps2, Bytes w p.A p.b ∧ p.b.length ≤ p.c)
    (hs : ps1.map Pk.say = ps2.map Pk.say) (hl : ps1.length ≤ 100000) (hd : ∀ p ∈ ps1.map Pk.say, p.f3.length ≤ 100000) :
    Calls Tryd.prog 22 #[.slice A1 ps1.length c1, .slice A2 ps2.length c2] w fun e w' => e = .returned (.bool true) ∧ Below w.heap.size w w' := by
  obtain ⟨k, hk⟩ := all_ev (ps1.map Pk.say) (by rw [List.length_map]; exact hl) hd
  have hd1 : ∀ p ∈ ps1, p.b.length ≤ 9223372036854775807 := fun p hp => by have h : p.b.length ≤ 100000 := hd p.say (List.mem_map_of_mem hp); omega
  have hd2 : ∀ p ∈ ps2, p.b.length ≤ 9223372036854775807 := fun p hp => by have h : p.b.length ≤ 100000 := hd p.say (by rw [hs]; exact List.mem_map_of_mem hp); omega
  have C1 := rps_C q1 e1 hd1
  have C2 := rps_C q2 e2 hd2
  rw [← hs] at C2
  obtain ⟨_, _, x1, k1⟩ := q_slice q1
  obtain ⟨_, _, x2, k2⟩ := q_slice q2
  injection x1 with _ _ x1
  injection x2 with _ _ x2
  have hh := shutterref22_SameAll.calls k A1 c1 (ps1.map Pk.say) A2 c2 (ps1.map Pk.say) true w C1 (by rw [List.length_map, x1]; exact k1) C2 (by rw [hs, List.length_map, x2]; exact k2) (hk k (Nat.le_refl _))
  have l1 : (ps1.map Pk.say).length = ps1.length := List.length_map _
  have l2 : (ps1.map Pk.say).length = ps2.length := by rw [hs, List.length_map]
  rw [show #[Value.slice A1 (ps1.map Pk.say).length c1, Value.slice A2 (ps1.map Pk.say).length c2] = #[Value.slice A1 ps1.length c1, Value.slice A2 ps2.length c2] by rw [← l1, ← l2]] at hh
  exact hh
end Go.Proofs.YtafjegfmmnjpfaaDoor.LineT
end

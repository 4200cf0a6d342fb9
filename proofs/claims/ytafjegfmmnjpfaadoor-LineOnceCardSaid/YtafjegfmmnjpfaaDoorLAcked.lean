/- Proved: (*line.Line).acked; conditions: the theorems' own premises. -/
import Derived.Test.YtafjegfmmnjpfaaDoorLAck
namespace Go.Proofs.YtafjegfmmnjpfaaDoor.LineT
open Go.RowKit Go.Proofs.YtafjegfmmnjpfaaDoor.YLine Go.Proofs.YtafjegfmmnjpfaaDoorW.PrintWords Go.Proofs.YtafjegfmmnjpfaaDoorW.PrintLast Go.Proofs.YtafjegfmmnjpfaaDoorW.PrintMore
set_option linter.unusedVariables false
set_option linter.unusedSimpArgs false
/-- How many packs an acknowledgment takes off. -/
def ackK (L : LS) (n : Int) : Nat := (firstOver n L.queue).getD L.queue.length
def ackS (L : LS) (n : Int) : LS := if ackK L n = 0 then L else { L with queue := L.queue.drop (ackK L n), wait := 1, left := 0 }
theorem over_lt {n : Int} {l : List P4} {k : Nat} (h : firstOver n l = some k) : k < l.length := by
  induction l generalizing k with
  | nil => simp [firstOver] at h
  | cons p l ih =>
    unfold firstOver at h
    split at h
    · injection h with h; subst h; simp
    · obtain ⟨j, hj, rfl⟩ := Option.map_eq_some_iff.1 h
      have := ih hj
      simpa using this
theorem ackK_le (L : LS) (n : Int) : ackK L n ≤ L.queue.length := by
  unfold ackK
  cases h : firstOver n L.queue with
  | none => exact Nat.le_refl _
  | some k => exact Nat.le_of_lt (over_lt h)
theorem pkCells_drop (qs : List Pk) (k : Nat) : (pkCells qs).drop (k * 4) = pkCells (qs.drop k) := by
  induction qs generalizing k with
  | nil => simp [pkCells]
  | cons q qs ih =>
    cases k with
    | zero => simp
    | succ k =>
      have e : pkCells (q :: qs) = Pk.cells q ++ pkCells qs := rfl
      rw [e, List.drop_append, show (Pk.cells q).length = 4 from rfl, show (k + 1) * 4 - 4 = k * 4 by omega, ih k, List.drop_eq_nil_of_le (by show 4 ≤ _; omega), List.nil_append]
      rfl
/-- The queue is changed for a new row. -/
theorem IsLine.requeue {W : World} {base g : Nat} {vq v1 : Value} {mb : Nat} {cv : Value} {qs rs ks : List Pk} {L : LS} (h : IsLine W base g vq mb cv qs ks L) (hr : ∀ p ∈ rs, p ∈ qs)
    (hq : QRow W base 37 4 v1 rs.length (pkCells rs)) :
    IsLine (W.setCell ⟨g, 0, none⟩ v1) base g v1 mb cv rs ks { L with queue := rs.map Pk.say } := by
  obtain ⟨n1, n2, n3, n4, n5, n6, n7⟩ := h.ne
  have hF : Frame W (W.setCell ⟨g, 0, none⟩ v1) (fun k => k = g) := Frame.of_set W g 0 v1
  have hne : ∀ k, v1.ownBlock = some k → ¬ k = g := fun k hk e => by
    obtain ⟨_, cc, hc⟩ := q_typed hq k hk
    rw [e] at hc
    have := hc.symm.trans h.blk
    simp at this
  have hin : ∀ p ∈ rs ++ ks, p ∈ qs ++ ks := fun p hp => by
    rcases List.mem_append.1 hp with hp | hp
    · exact List.mem_append_left _ (hr p hp)
    · exact List.mem_append_right _ hp
  exact ⟨(blk_set h.blk 0 v1).trans rfl, qi_keep hq hF (fun k hk e => hne k hk e), h.map.keep hF (fun e => n1 e.symm), qi_keep h.com hF (fun k hk e => n3 (by rw [← e]; exact hk.symm)), fun p hp => (h.els p (hin p hp)).keep hF (fun ad e => (n7 p (hin p hp) ad e).1), fun p hp => h.apart p (hin p hp), rfl, h.kept, h.bg, h.bm⟩
set_option maxHeartbeats 4000000 in
set_option maxRecDepth 100000 in
theorem acked_calls (w : World) (base g : Nat) (D : Nat → Prop) (L : LS) (n : Int) (h : LineAt w base g D L) (hl : L.queue.length ≤ 200) :
    Calls Tryd.prog 30 #[.pointer (some ⟨g, 0, none⟩), .int .i64 n] w fun e w' => e = .returned (.tuple #[]) ∧ LineTo w w' base g D (ackS L n) ∧ Frame w w' D := by
  have H0 := Aside0.mk h
  clear h
  go_enter Tryd.func30, Tryd.ntmps30
  go_wp2_with ((with_reducible refine gate_dst (N := 3) rfl ?_); refine stop_here ?_)
  refine ⟨?_⟩
  refine box_event rfl (N := 3) rfl (cs := #[.int .i64 n]) (t := 3) ?hr3 ?_
  case hr3 => first | (go_simp; done) | (go_simp; rfl)
  intro nb hnb w1 hbox hb
  have X1 := Aside0.mk hbox
  have H1 := Aside0.mk (H0.out.below hb)
  have B1 := Aside0.mk hb
  clear hnb hbox hb
  obtain ⟨vq, mb, cv, qs, ks, hI, hD⟩ := H1.out
  have I1 := Aside0.mk hI
  have HD := Aside0.mk hD
  have HQ := Aside0.mk (show L.queue.length = qs.length by rw [← hI.queue, List.length_map])
  have HDOM := Aside0.mk (show ∀ k, dom g mb vq cv (qs ++ ks) k → k < w.heap.size from fun k hk => (H0.out.ge k ((hD k).2 hk)).2)
  clear hI hD
  obtain ⟨Aq, cq, hv, hle⟩ := q_slice I1.out.row
  subst hv
  have c0 := (blk_cell I1.out.blk 0).trans (show (⟨lineCells (.slice Aq qs.length cq) mb cv L⟩ : Array Value)[0]? = some (.slice Aq qs.length cq) from rfl)
  go_wp2_with (go_at_call 42; refine stop_here ?_)
  refine ⟨?_⟩
  refine (idxp_calls w1 base nb cq Aq n qs I1.out.row X1.out (by rw [← HQ.out]; omega)).mono ?_
  rintro e w2 ⟨he, hb⟩
  unfold IdxIs at he
  have I2 := Aside0.mk (I1.out.below hb)
  have B2 := Aside0.mk (below_step B1.out hb)
  clear hb c0
  rw [I1.out.queue] at he
  have HK := Aside0.mk (ackK_le L n)
  have c0 := (blk_cell I2.out.blk 0).trans (show (⟨lineCells (.slice Aq qs.length cq) mb cv L⟩ : Array Value)[0]? = some (.slice Aq qs.length cq) from rfl)
  have hql : qs.length ≤ 200 := by rw [← HQ.out]; exact hl
  have hv0 : ∃ v0 : Int, e = .returned (.int .i64 v0) ∧ (∀ k, firstOver n L.queue = some k → v0 = (k : Int)) ∧ (firstOver n L.queue = none → v0 = -1) := ⟨_, he, fun k h => by rw [h], fun h => by rw [h]⟩
  clear he
  obtain ⟨v0, rfl, hv1, hv2⟩ := hv0
  go_upto_if 12 with (fail)
  go_cut [4] (fun v4 w' => v4 = .int .i64 (ackK L n : Int) ∧ w' = w2)
  case first =>
    cases hf : firstOver n L.queue with
    | none =>
      have e : v0 = -1 := hv2 hf
      subst e
      have EK : Aside0 (ackK L n = qs.length) := ⟨by unfold ackK; rw [hf]; exact HQ.out⟩
      clear hv1 hv2 hf
      go_wp2
      go_meet
      rw [EK.out]
      exact ⟨rfl, rfl⟩
    | some k =>
      have e : v0 = (k : Int) := hv1 k hf
      subst e
      have EK : Aside0 (ackK L n = k) := ⟨by unfold ackK; rw [hf]; rfl⟩
      have zk : 0 ≤ (k : Int) := by omega
      have nk : ¬ (k : Int) < 0 := by omega
      clear hv1 hv2 hf
      go_wp2
      go_meet
      rw [EK.out]
      exact ⟨rfl, rfl⟩
  case rest =>
    obtain ⟨rfl, hw⟩ := hcut
    have hw' := hw.symm
    subst hw'
    clear hw hv1 hv2
    obtain ⟨k, hk⟩ : ∃ k, ackK L n = k := ⟨_, rfl⟩
    have EK := Aside0.mk hk
    rw [hk]
    clear hk
    by_cases hz : k = 0
    · have ES : Aside0 (ackS L n = L) := ⟨by unfold ackS; rw [if_pos (by rw [EK.out]; exact hz)]⟩
      subst hz
      go_wp2
      go_end0
      rw [ES.out]
      exact ⟨rfl, ⟨D, H0.out.below B2.out, fun k hk => .inl hk⟩, (Frame.of_below B2.out).mono (fun _ h => h.elim)⟩
    · have ES : Aside0 (ackS L n = { L with queue := L.queue.drop k, wait := 1, left := 0 }) := ⟨by unfold ackS; rw [if_neg (by rw [EK.out]; exact hz), EK.out]⟩
      have hkl : k ≤ qs.length := by have h1 := HK.out; have h2 := HQ.out; have h3 := EK.out; omega
      have kp : 0 < (k : Int) := by omega
      have kle : (k : Int) ≤ (qs.length : Int) := by omega
      obtain ⟨A4, hA4⟩ : ∃ A4, (if cq = ((k : Int)).toNat then Aq else Aq.map (·.add (((k : Int)).toNat * 4))) = A4 := ⟨_, rfl⟩
      obtain ⟨i0, hi0, hzz⟩ := Option.map_eq_some_iff.1 infoPk
      simp only [Prod.mk.injEq] at hzz
      have kf := cut_from (P := Tryd.prog) 28 37 .i64 Tryd.underlying28 hi0 4 hzz.2.1 Aq qs.length cq (k : Int) (by omega) kle
      rw [hA4] at kf
      rw [Int.toNat_natCast] at hA4
      simp only [Int.toNat_natCast] at kf
      have hq := q_drop (k := k) I2.out.row hkl
      rw [hA4, pkCells_drop] at hq
      obtain ⟨m, hm⟩ : ∃ m, qs.length - k = m := ⟨_, rfl⟩
      have HM := Aside0.mk (show (qs.drop k).length = m by rw [List.length_drop, hm])
      rw [hm] at hq kf
      have HR := Aside0.mk hq
      clear hA4 hzz hi0 hq hm
      go_wp2_with (go_at_call 44; refine stop_here ?_)
      refine ⟨?_⟩
      have hcl := clonep_calls w2 base (cq - k) A4 (qs.drop k) (by rw [HM.out]; exact HR.out) (by rw [List.length_drop]; omega)
      rw [HM.out] at hcl
      refine hcl.mono ?_
      clear hcl
      rintro e w3 ⟨⟨v3, rfl, hv3⟩, hb⟩
      rw [HM.out] at hv3
      have R3 := Aside0.mk hv3
      have I3 := Aside0.mk (I2.out.below hb)
      have B3 := Aside0.mk (below_step B2.out hb)
      clear hb hv3 c0 kf
      have hbase := Aside0.mk (show base ≤ w2.heap.size by have h1 := I2.out.bg; have h2 := blk_lt I2.out.blk; omega)
      obtain ⟨A5, c5, hv5, hle5⟩ := q_slice R3.out
      subst hv5
      have f0 := blk_frozen I3.out.blk 0
      have c0 := (blk_cell I3.out.blk 0).trans (show (⟨lineCells (.slice Aq qs.length cq) mb cv L⟩ : Array Value)[0]? = some (.slice Aq qs.length cq) from rfl)
      go_wp2_with (go_at_call 27; refine stop_here ?_)
      refine ⟨?_⟩
      have I4 := Aside0.mk (I3.out.requeue (rs := qs.drop k) (fun p hp => List.mem_of_mem_drop hp) (by rw [HM.out]; exact q_lower R3.out hbase.out))
      have F4 := Aside0.mk (((Frame.of_below B3.out).mono (S' := D) (fun _ h => h.elim)).trans (Frame.of_set w3 g 0 (.slice A5 m c5)) (fun k e => .inl (by have e' : k = g := e; rw [e']; exact (HD.out g).2 (.inl rfl))))
      obtain ⟨w4, hw4⟩ : ∃ w4, w3.setCell ⟨g, 0, none⟩ (.slice A5 m c5) = w4 := ⟨_, rfl⟩
      rw [hw4] at I4 F4
      try rw [hw4]
      clear hw4 c0 f0
      refine (nowi_calls w4 base g _ mb cv (qs.drop k) ks _ I4.out).mono ?_
      rintro e w5 ⟨rfl, hI, hF⟩
      have I5 := Aside0.mk hI
      have F5 := Aside0.mk (F4.out.trans hF (fun k e => .inl (by have e' : k = g := e; rw [e']; exact (HD.out g).2 (.inl rfl))))
      clear hI hF
      go_wp2
      go_end0
      rw [ES.out]
      have IL : IsLine w5 base g (.slice A5 m c5) mb cv (qs.drop k) ks { L with queue := L.queue.drop k, wait := 1, left := 0 } := by
        have h := I5.out
        rw [List.map_drop, I1.out.queue] at h
        exact h
      refine ⟨rfl, ⟨_, ⟨_, _, _, _, _, IL, fun k => Iff.rfl⟩, fun j hj => ?_⟩, F5.out⟩
      rcases hj with rfl | rfl | hk | hk | ⟨p, hp, ad, e, rfl⟩
      · exact .inl ((HD.out _).2 (.inl rfl))
      · exact .inl ((HD.out _).2 (.inr (.inl rfl)))
      · exact .inr (by have h1 := (q_typed R3.out j hk.symm).1; have h2 := B2.out.size; omega)
      · exact .inl ((HD.out _).2 (.inr (.inr (.inr (.inl hk)))))
      · refine .inl ((HD.out _).2 (.inr (.inr (.inr (.inr ⟨p, ?_, ad, e, rfl⟩)))))
        rcases List.mem_append.1 hp with hp | hp
        · exact List.mem_append_left _ (List.mem_of_mem_drop hp)
        · exact List.mem_append_right _ hp
end Go.Proofs.YtafjegfmmnjpfaaDoor.LineT

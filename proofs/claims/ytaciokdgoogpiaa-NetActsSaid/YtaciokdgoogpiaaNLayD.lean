/- Proved: (*net.Air).lay, put off by a defer, lays a datagram into the air; conditions: the theorems' own premises. -/
import Derived.Test.YtaciokdgoogpiaaNLay
namespace Go.Proofs.Ytaciokdgoogpiaa.NetT
open Go.RowKit Go.Proofs.Ytaciokdgoogpiaa.YNet Go.Proofs.YtaciokdgoogpiaaW.PrintWords Go.Proofs.YtaciokdgoogpiaaW.PrintLast Go.Proofs.YtaciokdgoogpiaaW.PrintMore
set_option linter.unusedVariables false
set_option linter.unusedSimpArgs false
set_option maxHeartbeats 4000000 in
set_option maxRecDepth 100000 in
theorem lay_callsD (w : World) (u : FrameMode) (base g : Nat) (v : Value) (fs : List Fl) (s : ByteArray) (d : Int) (o : ByteArray) (A : Option Addr) (c : Nat) (b : List Int) (t : Int) (hI : IsAir w base g v fs) (hb : Bytes w A b) (hc : b.length ≤ c) (hbl : b.length < 140737488355328) (hbase : base ≤ w.heap.size) (hfs : fs.length ≤ 200) :
    CallsD Try.prog 19 #[.pointer (some ⟨g, 0, none⟩), .agg #[.string s, .int .i64 d, .string o, .slice A b.length c], .int .i64 t] u w fun e u' w' => u' = u ∧ (e = .returned (.tuple #[]) ∧ ∃ A' c' v', IsAir w' base g v' (if fs.length < 200 then fs ++ [⟨s, d, o, A', c', b, t⟩] else fs) ∧ (v'.ownBlock = v.ownBlock ∨ ∃ k, v'.ownBlock = some k ∧ w.heap.size ≤ k) ∧ Frame w w' (AirFoot g v)) := by
  have HI := Aside0.mk hI
  have HBy := Aside0.mk hb
  have HF := Aside0.mk (Frame.refl w (AirFoot g v))
  clear hI hb
  obtain ⟨Av, cv, hv, hle⟩ := q_slice HI.out.row
  subst hv
  go_enter_d Try.func19, Try.ntmps19
  go_wp2_with ((with_reducible refine gate_dst (N := 4) rfl ?_); refine stop_here ?_)
  refine ⟨?_⟩
  refine box_event rfl (N := 4) rfl (cs := #[.string s, .int .i64 d, .string o, .slice A b.length c]) (t := 32) ?hr ?_
  case hr => first | (go_simp; done) | (go_simp; rfl)
  intro m hm w1 hbox hb
  have HM := Aside0.mk (show w.heap.size ≤ m by rw [hm]; exact Nat.le_refl _)
  have HX := Aside0.mk hbox
  have I1 := Aside0.mk (HI.out.below hb)
  have By1 := Aside0.mk (HBy.out.below hb)
  have F1 := Aside0.mk (HF.out.trans (Frame.of_below hb) (fun _ h => h.elim))
  clear HI HBy HF hm hbox hb
  have c0 := (blk_cell I1.out.blk 0).trans (show (#[Value.slice Av fs.length cv] : Array Value)[0]? = some _ from rfl)
  by_cases hlt : fs.length < 200
  · have lt : ((fs.length : Nat) : Int) < 200 := by omega
    go_wp2
    have I2 := Aside0.mk (I1.out.below (below_drew1 (Below.refl w1.heap.size w1)))
    have By2 := Aside0.mk (By1.out.below (below_drew1 (Below.refl w1.heap.size w1)))
    have F2 := Aside0.mk (F1.out.trans (Frame.of_drewN w1 1 (AirFoot g (.slice Av fs.length cv))) (fun _ h => .inl h))
    have X2 := Aside0.mk (blk_drew HX.out)
    have xr : w1.rangeAt m 0 [.string s, .int .i64 d, .string o, .slice A b.length c] := row_range HX.out
    have HLt := Aside0.mk (show ∀ f ∈ fs, ∀ ad, f.A = some ad → ad.block < w1.drew.heap.size from fun f hm ad e => by
      obtain ⟨_, cells, h⟩ := (I2.out.els f hm).own ad e
      exact blk_lt h)
    clear I1 By1 F1
    refine start_ (n := 14) (S := fun w' => w'.cell? ⟨g, 0, none⟩ = some (.slice Av fs.length cv) ∧ w'.rangeAt m 0 [.string s, .int .i64 d, .string o, .slice A b.length c]) (ds := [13]) #[false, false, false, false, false, false, false, false, false, false, false, false, false, false] (by kernel_rfl) rfl rfl ⟨c0, xr⟩ (fun hHeld => ?_)
    refine pure_ (i := 0) (N := some 12) (v := ?_) (a' := ?_) #[true, false, false, false, false, false, false, false, false, false, false, false, false, false] rfl rfl (by kernel_rfl) (fun _ _ _ h => h) (Or.inl ⟨by rfl, ?_⟩) ?_ ?_
    rotate_left
    · intro w'
      go_simp
      with_reducible rfl
    rotate_left
    · simp only [Act.put, List.setIfInBounds_toArray, List.set_cons_zero, List.set_cons_succ, i64_w, i32_w]
      rfl
    refine pure_ (i := 1) (N := some 13) (v := ?_) (a' := ?_) #[true, true, false, false, false, false, false, false, false, false, false, false, false, false] rfl rfl (by kernel_rfl) (fun _ _ _ h => h) (Or.inl ⟨by rfl, ?_⟩) ?_ ?_
    rotate_left
    · intro w'
      go_simp
      with_reducible rfl
    rotate_left
    · simp only [Act.put, List.setIfInBounds_toArray, List.set_cons_zero, List.set_cons_succ, i64_w, i32_w]
      rfl
    refine pure_ (i := 2) (N := some 14) (v := ?_) (a' := ?_) #[true, true, true, false, false, false, false, false, false, false, false, false, false, false] rfl rfl (by kernel_rfl) (fun _ _ _ h => h) (Or.inl ⟨by rfl, ?_⟩) ?_ ?_
    rotate_left
    · intro w'
      go_simp
      with_reducible rfl
    rotate_left
    · simp only [Act.put, List.setIfInBounds_toArray, List.set_cons_zero, List.set_cons_succ, i64_w, i32_w]
      rfl
    refine pure_ (i := 3) (N := some 15) (v := ?_) (a' := ?_) #[true, true, true, true, false, false, false, false, false, false, false, false, false, false] rfl rfl (by kernel_rfl) (fun _ _ _ h => h) (Or.inl ⟨by rfl, ?_⟩) ?_ ?_
    rotate_left
    · intro w'
      go_simp
      with_reducible rfl
    rotate_left
    · simp only [Act.put, List.setIfInBounds_toArray, List.set_cons_zero, List.set_cons_succ, i64_w, i32_w]
      rfl
    refine pure_ (i := 7) (N := some 19) (v := ?_) (a' := ?_) #[true, true, true, true, false, false, false, true, false, false, false, false, false, false] rfl rfl (by kernel_rfl) (fun _ _ _ h => h) (Or.inl ⟨by rfl, ?_⟩) ?_ ?_
    rotate_left
    · intro w'
      go_simp
      with_reducible rfl
    rotate_left
    · simp only [Act.put, List.setIfInBounds_toArray, List.set_cons_zero, List.set_cons_succ, i64_w, i32_w]
      rfl
    refine take_ (i := 4) (N := some 16) (v := ?_) (a' := ?_) #[true, true, true, true, true, false, false, true, false, false, false, false, false, false] rfl rfl (by kernel_rfl) (fun _ _ _ h => h) (Or.inl ⟨by rfl, ?_⟩) hHeld ?_ ?_
    rotate_left
    · rintro w' ⟨s0, s1⟩
      go_simp
      with_reducible rfl
    rotate_left
    · simp only [Act.put, List.setIfInBounds_toArray, List.set_cons_zero, List.set_cons_succ, i64_w, i32_w]
      rfl
    refine take_ (i := 5) (N := some 17) (v := ?_) (a' := ?_) #[true, true, true, true, true, true, false, true, false, false, false, false, false, false] rfl rfl (by kernel_rfl) (fun _ _ _ h => h) (Or.inl ⟨by rfl, ?_⟩) hHeld ?_ ?_
    rotate_left
    · rintro w' ⟨s0, s1⟩
      refine (load_mid_run 32 (.tmp 4) ?q1 m 0 ?q2 [.string s, .int .i64 d, .string o, .slice A b.length c] _ s1 Try.underlying32 rfl rfl); rfl; rfl
    rotate_left
    · simp only [Act.put, List.setIfInBounds_toArray, List.set_cons_zero, List.set_cons_succ, i64_w, i32_w]
      rfl
    refine one_ (i := 6) (N := some 18) #[true, true, true, true, true, true, true, true, false, false, false, false, false, false] rfl rfl (by kernel_rfl) (by decide) (fun K hK => ?_)
    refine goes_ Try.func22 (by kernel_rfl) rfl #[.agg #[.string s, .int .i64 d, .string o, .slice A b.length c]] (by rfl) rfl rfl (by simp only [List.map_toArray, List.map_cons, List.map_nil]; rfl) ?_
    with_reducible refine (net_copied.calls s d o A c b s d o b _ (reads_bytes By2.out (by omega)) hc (copied_f s d o b hbl)).mono ?_
    rintro e w3 ⟨vb, rfl, hR, hb⟩
    refine ⟨_, rfl, ?_⟩
    have hq := own_bytes hR
    obtain ⟨Ab, cb, hvb, hle2⟩ := q_slice hq
    subst hvb
    have Q3 := Aside0.mk hq
    have I3 := Aside0.mk (I2.out.below hb)
    have F3 := Aside0.mk (F2.out.trans (Frame.of_below hb) (fun _ h => h.elim))
    have X3 := Aside0.mk (blk_below X2.out hb)
    have L3 := Aside0.mk (show w.heap.size ≤ w1.drew.heap.size from F2.out.size)
    clear I2 By2 F2 X2 hR hb hq
    refine hK.out _ _ ⟨(blk_cell I3.out.blk 0).trans rfl, row_range X3.out⟩ (fun hHeld => ?_)
    clear hK K
    refine norm_ (a' := ?_) ?_ ?_
    rotate_left
    · show Act.put _ (some 18) _ = _
      simp only [Act.put, List.setIfInBounds_toArray, List.set_cons_zero, List.set_cons_succ, i64_w, i32_w]
      rfl
    refine pure_ (i := 8) (N := some 20) (v := ?_) (a' := ?_) #[true, true, true, true, true, true, true, true, true, false, false, false, false, false] rfl rfl (by kernel_rfl) (fun _ _ _ h => h) (Or.inl ⟨by rfl, ?_⟩) ?_ ?_
    rotate_left
    · intro w'
      go_simp
      with_reducible rfl
    rotate_left
    · simp only [Act.put, List.setIfInBounds_toArray, List.set_cons_zero, List.set_cons_succ, i64_w, i32_w]
      rfl
    refine one_ (i := 9) (N := some 21) #[true, true, true, true, true, true, true, true, true, true, false, false, false, false] rfl rfl (by kernel_rfl) (by decide) (fun K hK => ?_)
    refine made_step ⟨Fl.cells ⟨s, d, o, Ab, cb, b, t⟩⟩ 56 1 (by rfl) ?hr9 ?_
    case hr9 => first | (go_simp; done) | (go_simp; rfl)
    intro gl hgl w4 hbx hb
    have Q4 := Aside0.mk (qi_below Q3.out hb)
    have I4 := Aside0.mk (I3.out.below hb)
    have F4 := Aside0.mk (F3.out.trans (Frame.of_below hb) (fun _ h => h.elim))
    have X4 := Aside0.mk (blk_below X3.out hb)
    have E4 := Aside0.mk hbx
    clear I3 F3 X3 Q3 hgl hbx hb
    refine hK.out _ _ ⟨(blk_cell I4.out.blk 0).trans rfl, row_range X4.out⟩ (fun hHeld => ?_)
    clear hK K
    refine norm_ (a' := ?_) ?_ ?_
    rotate_left
    · show Act.put _ (some 21) _ = _
      simp only [Act.put, List.setIfInBounds_toArray, List.set_cons_zero, List.set_cons_succ, i64_w, i32_w]
      rfl
    refine one_ (i := 10) (N := some 22) #[true, true, true, true, true, true, true, true, true, true, true, false, false, false] rfl rfl (by kernel_rfl) (by decide) (fun K hK => ?_)
    refine fl_step (base := base) (v := .slice Av fs.length cv) (fs := fs) (f := ⟨s, d, o, Ab, cb, b, t⟩) (gl := gl) (by rfl) (.tmp 16) (.tmp 21) (by rfl) (by rfl) (by rfl) I4.out.row E4.out hfs (Nat.le_trans hbase F4.out.size) ?_
    intro v5 w5 hq hg5 hat
    obtain ⟨A5', c5, hv5, hle5⟩ := q_slice hq
    subst hv5
    clear hle5
    have R5 := Aside0.mk hq
    have G5 := Aside0.mk hg5
    have A5 := Aside0.mk hat
    have B5 := Aside0.mk (blk_grown I4.out.blk hg5 I4.out.ne)
    clear hq hg5 hat
    refine hK.out _ _ ⟨(blk_cell B5.out 0).trans rfl, row_range (blk_grown X4.out G5.out (fun e => I4.out.typed X4.out (by decide) (by decide) (.inr e)))⟩ (fun hHeld => ?_)
    clear hK K
    refine norm_ (a' := ?_) ?_ ?_
    rotate_left
    · show Act.put _ (some 22) _ = _
      simp only [Act.put, List.setIfInBounds_toArray, List.set_cons_zero, List.set_cons_succ, i64_w, i32_w]
      rfl
    refine pure_ (i := 11) (N := some 23) (v := ?_) (a' := ?_) #[true, true, true, true, true, true, true, true, true, true, true, true, false, false] rfl rfl (by kernel_rfl) (fun _ _ _ h => h) (Or.inl ⟨by rfl, ?_⟩) ?_ ?_
    rotate_left
    · intro w'
      go_simp
      with_reducible rfl
    rotate_left
    · simp only [Act.put, List.setIfInBounds_toArray, List.set_cons_zero, List.set_cons_succ, i64_w, i32_w]
      rfl
    refine pure_ (i := 12) (N := some 24) (v := ?_) (a' := ?_) #[true, true, true, true, true, true, true, true, true, true, true, true, true, false] rfl rfl (by kernel_rfl) (fun _ _ _ h => h) (Or.inl ⟨by rfl, ?_⟩) ?_ ?_
    rotate_left
    · intro w'
      go_simp
      with_reducible rfl
    rotate_left
    · simp only [Act.put, List.setIfInBounds_toArray, List.set_cons_zero, List.set_cons_succ, i64_w, i32_w]
      rfl
    refine last_ (i := 13) (N := none) #[true, true, true, true, true, true, true, true, true, true, true, true, true, true] rfl rfl (by kernel_rfl) (by decide) (fun K hK => ?_)
    have f0 := blk_frozen B5.out 0
    have c1 := (blk_cell B5.out 0).trans (show (#[Value.slice Av fs.length cv] : Array Value)[0]? = some _ from rfl)
    refine skip_ (w1 := ?_) (by rfl) rfl ?_ ?_
    rotate_left
    · go_simp
      rfl
    refine hK.out _ _ ?_
    clear hK K
    refine done_ (by kernel_rfl) ?_
    go_wp2
    go_end0
    have A6 := A5.out
    rw [List.length_append, List.length_singleton] at A6
    have K := air_more I4.out Q4.out hle2 (Nat.le_trans hbase L3.out) HLt.out R5.out G5.out A5.out
    rw [List.length_append, List.length_singleton] at K
    refine ⟨rfl, Ab, cb, .slice A5' (fs.length + 1) c5, K.1, ?_, F4.out.trans K.2 (fun _ h => .inl h)⟩
    rcases A6 with h | ⟨k, h, hk⟩
    · exact .inl h
    · exact .inr ⟨k, h, Nat.le_trans F4.out.size hk⟩
  · have lt : ¬ (((fs.length : Nat) : Int) < 200) := by omega
    go_wp2
    go_end0
    exact ⟨rfl, .slice Av fs.length cv, I1.out, .inl rfl, F1.out⟩
end Go.Proofs.Ytaciokdgoogpiaa.NetT

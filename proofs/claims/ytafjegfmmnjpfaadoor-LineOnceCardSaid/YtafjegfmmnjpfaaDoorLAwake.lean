/- Proved: awake of the laws of line answers true; conditions: errors.errorType holds the handle of the type error. -/
import Derived.Test.YtafjegfmmnjpfaaDoorLHear
import Derived.Lib.SlBytesConst
namespace Go.Proofs.YtafjegfmmnjpfaaDoor.LineT
open Go.RowKit Go.Proofs.YtafjegfmmnjpfaaDoor.YLine Go.Proofs.YtafjegfmmnjpfaaDoorW.PrintWords Go.Proofs.YtafjegfmmnjpfaaDoorW.PrintLast Go.Proofs.YtafjegfmmnjpfaaDoorW.PrintMore
set_option linter.unusedVariables false
set_option linter.unusedSimpArgs false
theorem mark_bytes {w : World} {g : Nat} {l : List Int} {m : Nat × Nat} (h : w.heap[g]? = some (.cells ⟨nums .u8 l⟩ 5 m)) : Bytes w (some ⟨g, 0, none⟩) l := by
  intro hp
  refine ⟨_, rfl, fun j u hu => ?_⟩
  rw [add_at, Nat.zero_add]
  have e : w.cell? ⟨g, j, none⟩ = (⟨nums .u8 l⟩ : Array Value)[j]? := by simp [World.cell?, h]
  rw [e, List.getElem?_toArray]
  exact hu
theorem packs_one {w : World} {B : Nat} {v : Value} {ps : List Pk} {x : P4} (h : Packs w B v ps) (e : ps.map Pk.say = [x]) :
    ∃ gr off c A k, v = .slice (some ⟨gr, off, none⟩) 1 c ∧ B ≤ gr ∧ (∃ cells, w.heap[gr]? = some (.cells cells 37 (0, 0))) ∧ w.cell? ⟨gr, off, none⟩ = some (.int .i64 x.f0) ∧ w.cell? ⟨gr, off + 1, none⟩ = some (.int .i64 x.f1) ∧ w.cell? ⟨gr, off + 2, none⟩ = some (.bool x.f2) ∧ w.cell? ⟨gr, off + 3, none⟩ = some (.slice A x.f3.length k) ∧ PkOk w B ⟨x.f0, x.f1, x.f2, A, k, x.f3⟩ ∧ 1 ≤ c := by
  obtain ⟨hq, hk⟩ := h
  obtain ⟨f, rfl⟩ : ∃ f, ps = [f] := by
    have hl := congrArg List.length e
    rw [List.length_map] at hl
    rcases ps with _ | ⟨f, _ | ⟨f2, gs⟩⟩
    · simp at hl
    · exact ⟨f, rfl⟩
    · simp at hl
  simp only [List.map_cons, List.map_nil, List.cons.injEq, and_true] at e
  subst e
  obtain ⟨Av, cv, rfl, hle⟩ := q_slice hq
  obtain ⟨gr, off, rfl⟩ := row_at hq (by simp)
  obtain ⟨ad, ea, hc⟩ := q_cells hq (by simp)
  injection ea with ea
  subst ea
  obtain ⟨h1, h2⟩ := q_typed hq gr rfl
  have hm : pkCells [f] = f.cells := by unfold pkCells; rw [List.flatMap_cons, List.flatMap_nil, List.append_nil]
  refine ⟨gr, off, cv, f.A, f.c, rfl, h1, h2, ?_, ?_, ?_, ?_, hk f (List.mem_singleton.2 rfl), hle⟩
  · have := hc 0 _ (by rw [hm]; rfl)
    rwa [add_at] at this
  · have := hc 1 _ (by rw [hm]; rfl)
    rwa [add_at] at this
  · have := hc 2 _ (by rw [hm]; rfl)
    rwa [add_at] at this
  · have := hc 3 _ (by rw [hm]; rfl)
    rwa [add_at] at this
theorem msgs_one {w : World} {B : Nat} {v : Value} {ms : List Pk} {x : List Int} (h : Msgs w B v ms) (e : ms.map Pk.b = [x]) :
    ∃ gr off c A k, v = .slice (some ⟨gr, off, none⟩) 1 c ∧ w.cell? ⟨gr, off, none⟩ = some (.slice A x.length k) ∧ Bytes w A x ∧ x.length ≤ k ∧ 1 ≤ c ∧ gr < w.heap.size := by
  obtain ⟨hq, hk⟩ := h
  obtain ⟨f, rfl⟩ : ∃ f, ms = [f] := by
    have hl := congrArg List.length e
    rw [List.length_map] at hl
    rcases ms with _ | ⟨f, _ | ⟨f2, gs⟩⟩
    · simp at hl
    · exact ⟨f, rfl⟩
    · simp at hl
  simp only [List.map_cons, List.map_nil, List.cons.injEq, and_true] at e
  subst e
  obtain ⟨Av, cv, rfl, hle⟩ := q_slice hq
  obtain ⟨gr, off, rfl⟩ := row_at hq (by simp)
  obtain ⟨ad, ea, hc⟩ := q_cells hq (by simp)
  injection ea with ea
  subst ea
  refine ⟨gr, off, cv, f.A, f.c, rfl, ?_, (hk f (List.mem_singleton.2 rfl)).bytes, (hk f (List.mem_singleton.2 rfl)).cap, hle, q_lt hq gr rfl⟩
  have := hc 0 f.val rfl
  rwa [add_at] at this
theorem aw_send : sendE ls0 [97, 98, 99] = none := by kernel_rfl
def awL1 : LS := ⟨[⟨0, 1, true, [97, 98, 99]⟩], 1, 1, [], [], 1, 0, false⟩
def awL2 : LS := ⟨[⟨0, 1, true, [97, 98, 99]⟩], 1, 1, [], [], 2, 1, false⟩
def awL3 : LS := ⟨[], 1, 2, [], [], 1, 0, true⟩
theorem aw_sends : sendS ls0 [97, 98, 99] = awL1 := by kernel_rfl
theorem aw_out : tickOutS awL1 = [⟨0, 1, true, [97, 98, 99]⟩] := by kernel_rfl
theorem aw_tick : tickS awL1 = awL2 := by kernel_rfl
theorem aw_hear : hearS awL2 ⟨2, 0, false, []⟩ = (awL2, [], some 14) := by kernel_rfl
theorem aw_hear2 : hearS awL2 ⟨1, 1, true, [120]⟩ = (awL3, [[120]], none) := by kernel_rfl
theorem awL1_ok : LOk awL1 := ⟨by decide, by decide, by decide, by decide, by decide, by decide, by decide, by decide⟩
theorem below_line {B : Nat} {w0 w w1 : World} {base g : Nat} {D : Nat → Prop} {L : LS} (h : Below B w0 w) (hf : Frame w w1 D) (ha : LineAt w base g D L) (hB : B ≤ base) (hw : B ≤ w.heap.size) : Below B w0 w1 :=
  below_frame h hf hw (fun k hk => Nat.le_trans hB (ha.ge k hk).1)
theorem LineAt.mem {w : World} {base g : Nat} {D : Nat → Prop} {L : LS} (h : LineAt w base g D L) : D g := by
  obtain ⟨_, _, _, _, _, _, h2⟩ := h
  exact (h2 g).2 (.inl rfl)
set_option maxHeartbeats 4000000 in
set_option maxRecDepth 100000 in
theorem awake_calls (w : World) (hG : Code.Gl w) : Calls Tryd.prog 8 #[] w fun e w' => e = .returned (.bool true) ∧ Below w.heap.size w w' := by
  have GL := Aside0.mk hG
  clear hG
  go_enter Tryd.func8, Tryd.ntmps8
  go_wp2_with (go_at_call 10; refine stop_here ?_)
  refine ⟨?_⟩
  refine (newl_calls w).mono ?_
  rintro e w1 ⟨g, D, rfl, hL, hb⟩
  have A1 := Aside0.mk hL
  have B1 := Aside0.mk hb
  clear hL hb
  have kc := Lib.run_convert_bytes_const (P := Tryd.prog) w1 32 5 #[.int .u8 97, .int .u8 98, .int .u8 99] 3 3 Tryd.underlying32 Tryd.underlying5
  obtain ⟨gl, hgl⟩ : ∃ gl, w1.heap.size = gl := ⟨_, rfl⟩
  have hX2 := blk_new w1 (.cells #[.int .u8 97, .int .u8 98, .int .u8 99] 5 (3, 4))
  have GL2 := Aside0.mk (show w1.heap.size ≤ gl by rw [hgl]; exact Nat.le_refl _)
  rw [hgl] at kc hX2
  go_wp2_with (go_at_call 11; refine stop_here ?_)
  refine ⟨?_⟩
  have hb := below_alloc (Below.refl w1.heap.size w1) (.cells #[.int .u8 97, .int .u8 98, .int .u8 99] 5 (3, 4))
  have A2 := Aside0.mk (A1.out.below hb)
  have B2 := Aside0.mk (below_step B1.out hb)
  obtain ⟨w2, hw2⟩ : ∃ w2, w1.alloc (.cells #[.int .u8 97, .int .u8 98, .int .u8 99] 5 (3, 4)) = w2 := ⟨_, rfl⟩
  rw [hw2] at A2 B2 hX2
  rw [hw2]
  have Q2 := Aside0.mk (show Bytes w2 (some ⟨gl, 0, none⟩) [97, 98, 99] from mark_bytes hX2)
  clear kc hX2 hgl hw2 hb A1 B1
  refine (send_calls w2 w.heap.size g D ls0 (some ⟨gl, 0, none⟩) 3 [97, 98, 99] A2.out (by decide) (by decide) (by decide) Q2.out (by decide) (by decide)).mono ?_
  rw [aw_send, aw_sends]
  rintro e w3 ⟨rfl, ⟨D3, hL, hD⟩, hF⟩
  have A3 := Aside0.mk hL
  have B3 := Aside0.mk (below_line B2.out hF A2.out (Nat.le_refl _) B2.out.size)
  clear hL hD hF A2 B2 Q2
  rw [show errW none = .nilIface from rfl]
  go_wp2_with (go_at_call 12; refine stop_here ?_)
  refine ⟨?_⟩
  refine (tickl_calls w3 w.heap.size g D3 awL1 A3.out awL1_ok).mono ?_
  rw [aw_out, aw_tick]
  rintro e w4 ⟨⟨v, ps, rfl, hP, hs⟩, hL, hF⟩
  obtain ⟨gr, off, cr, Ar, kr, rfl, hgr, ht, h0, h1, h2, h3, hok, hc1⟩ := packs_one hP hs
  have A4 := Aside0.mk hL
  have B4 := Aside0.mk (below_line B3.out (hF.mono (fun k e => by have e' : k = g := e; rw [e']; exact A3.out.mem)) A3.out (Nat.le_refl _) B3.out.size)
  have C1 := Aside0.mk h1
  have C2 := Aside0.mk h2
  have NR := Aside0.mk (show ∀ k, D3 k → k < gr from fun k hk => Nat.lt_of_lt_of_le (A3.out.ge k hk).2 hgr)
  have NR2 := Aside0.mk (show gr < w4.heap.size from World.block_lt_of_cell? w4 ⟨gr, off + 1, none⟩ h1)
  clear hP hs hL hF hgr ht h0 h1 h2 h3 hok A3 B3
  go_wp2_with (go_at_call 13; refine stop_here ?_)
  refine ⟨?_⟩
  refine (hear_calls w4 w.heap.size g D3 awL2 ⟨2, 0, false, none, 0, []⟩ A4.out (fun h => by simp at h) (by decide) (by decide) (fun ad e => by cases e) (by decide) (by decide) (by decide) (by decide) (by decide) (by decide)).mono ?_
  rw [show Pk.say ⟨2, 0, false, none, 0, []⟩ = ⟨2, 0, false, []⟩ from rfl, aw_hear]
  rintro e w5 ⟨⟨v5, ms5, D5, rfl, hL, hD, hM, hb5, hO, _⟩, hF⟩
  have A5 : Aside0 (LineAt w5 w.heap.size g D5 awL2) := ⟨hL⟩
  have B5 := Aside0.mk (below_line B4.out hF A4.out (Nat.le_refl _) B4.out.size)
  have C15 := Aside0.mk (hF.cell C1.out (fun h => by have := NR.out _ h; have e : (⟨gr, off + 1, none⟩ : Addr).block = gr := rfl; omega))
  have C25 := Aside0.mk (hF.cell C2.out (fun h => by have := NR.out _ h; have e : (⟨gr, off + 2, none⟩ : Addr).block = gr := rfl; omega))
  have ND5 := Aside0.mk (show ¬ D5 gr from fun h => (hD gr h).elim (fun h => by have := NR.out gr h; omega) (fun h => by have := NR2.out; omega))
  clear hL hD hM hb5 hO hF A4 B4 C1 C2
  rw [show errW ((awL2, ([] : List (List Int)), some (14 : Int)) : LS × List (List Int) × Option Int).2.2 = .iface 67 (.int .i64 14) from rfl]
  have kc := Lib.run_convert_bytes_const (P := Tryd.prog) w5 32 5 #[.int .u8 120] 1 1 Tryd.underlying32 Tryd.underlying5
  obtain ⟨gm, hgm⟩ : ∃ gm, w5.heap.size = gm := ⟨_, rfl⟩
  have hX6 := blk_new w5 (.cells #[.int .u8 120] 5 (1, 2))
  have GM := Aside0.mk (show w5.heap.size ≤ gm by rw [hgm]; exact Nat.le_refl _)
  rw [hgm] at kc hX6
  go_wp2_with (go_at_call 13; refine stop_here ?_)
  refine ⟨?_⟩
  have hb := below_alloc (Below.refl w5.heap.size w5) (.cells #[.int .u8 120] 5 (1, 2))
  have A6 := Aside0.mk (A5.out.below hb)
  have B6 := Aside0.mk (below_step B5.out hb)
  have C16 := Aside0.mk (hb.cell (p := ⟨gr, off + 1, none⟩) (World.block_lt_of_cell? w5 ⟨gr, off + 1, none⟩ C15.out) |>.trans C15.out)
  have C26 := Aside0.mk (hb.cell (p := ⟨gr, off + 2, none⟩) (World.block_lt_of_cell? w5 ⟨gr, off + 2, none⟩ C25.out) |>.trans C25.out)
  have NM := Aside0.mk (show ∀ k, D5 k → k < gm from fun k hk => Nat.lt_of_lt_of_le (A5.out.ge k hk).2 GM.out)
  obtain ⟨w6, hw6⟩ : ∃ w6, w5.alloc (.cells #[.int .u8 120] 5 (1, 2)) = w6 := ⟨_, rfl⟩
  rw [hw6] at A6 B6 C16 C26 hX6
  rw [hw6]
  have Q6 := Aside0.mk (show Bytes w6 (some ⟨gm, 0, none⟩) [120] from mark_bytes hX6)
  clear kc hX6 hgm hw6 hb A5 B5 C15 C25
  refine (hear_calls w6 w.heap.size g D5 awL2 ⟨1, 1, true, some ⟨gm, 0, none⟩, 1, [120]⟩ A6.out Q6.out (by show 1 ≤ 1; decide) (by show 1 ≤ 1000000; decide) (fun ad e h => by injection e with e; subst e; have h1 := NM.out _ h; have h2 : (⟨gm, 0, none⟩ : Addr).block = gm := rfl; omega) (by decide) (by decide) (by decide) (by decide) (by decide) (by decide)).mono ?_
  rw [show Pk.say ⟨1, 1, true, some ⟨gm, 0, none⟩, 1, [120]⟩ = ⟨1, 1, true, [120]⟩ from rfl, aw_hear2]
  rintro e w7 ⟨⟨v7, ms7, D7, rfl, hL, hD, hM, hb7, hO, _⟩, hF⟩
  obtain ⟨gv, ov, cvv, Am, km, rfl, hm1, hm2, hm3, hm4, hm5⟩ := msgs_one hM hb7
  have A7 : Aside0 (LineAt w7 w.heap.size g D7 awL3) := ⟨hL⟩
  have B7 := Aside0.mk (below_line B6.out hF A6.out (Nat.le_refl _) B6.out.size)
  have c1 := hF.cell C16.out (fun h => ND5.out h)
  have c2 := hF.cell C26.out (fun h => ND5.out h)
  have G7 := Aside0.mk (GL.out.below B7.out GL.out.lt)
  have M1 := Aside0.mk hm1
  have M2 := Aside0.mk hm2
  clear hL hD hM hb7 hO hF hm1 hm2 A6 B6 C16 C26
  rw [show errW ((awL3, ([[120]] : List (List Int)), (none : Option Int)) : LS × List (List Int) × Option Int).2.2 = .nilIface from rfl]
  go_wp2_with (go_at_call 20; refine stop_here ?_)
  refine ⟨?_⟩
  refine (Code.code_some 14 w7 G7.out).mono ?_
  rintro e w8 ⟨rfl, hb⟩
  have A8 := Aside0.mk (A7.out.below hb)
  have B8 := Aside0.mk (below_step B7.out hb)
  have m1 := hb.cell (p := ⟨gv, ov, none⟩) (World.block_lt_of_cell? w7 ⟨gv, ov, none⟩ M1.out) |>.trans M1.out
  have M8 := Aside0.mk (M2.out.below hb)
  clear hb A7 B7 M1 M2 c1 c2
  have hcv : (convert 32 9 (.slice Am 1 km)).run Tryd.prog w8 = .ok (.string ⟨#[120]⟩) w8 := Kd.C_string (P := Tryd.prog) (A := Am) (c := km) (xs := [120]) (n := 1) Tryd.underlying32 Tryd.underlying5 Tryd.underlying9 (reads_bytes M8.out (by decide))
  go_wp2_with (go_at_call 16; refine stop_here ?_)
  refine ⟨?_⟩
  refine (waits_calls w8 w.heap.size g D7 awL3 A8.out).mono ?_
  rintro e w9 ⟨rfl, rfl⟩
  go_wp2_with (go_at_call 15; refine stop_here ?_)
  refine ⟨?_⟩
  refine (Room_calls w9 w.heap.size g D7 awL3 1 A8.out (by decide)).mono ?_
  rintro e w10 ⟨rfl, rfl⟩
  go_wp2_with (go_at_call 15; refine stop_here ?_)
  refine ⟨?_⟩
  refine (Room_calls w10 w.heap.size g D7 awL3 0 A8.out (by decide)).mono ?_
  rintro e w11 ⟨rfl, rfl⟩
  go_wp2
  go_ret
  exact ⟨rfl, B8.out⟩
end Go.Proofs.YtafjegfmmnjpfaaDoor.LineT

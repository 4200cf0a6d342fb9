/- Proved: (*line.Line).told; conditions: the theorems' own premises. -/
import Derived.Test.YtafjegfmmnjpfaaDoorLLine
namespace Go.Proofs.YtafjegfmmnjpfaaDoor.LineT
open Go.RowKit Go.Proofs.YtafjegfmmnjpfaaDoor.YLine Go.Proofs.YtafjegfmmnjpfaaDoorW.PrintWords Go.Proofs.YtafjegfmmnjpfaaDoorW.PrintLast Go.Proofs.YtafjegfmmnjpfaaDoorW.PrintMore
set_option linter.unusedVariables false
set_option linter.unusedSimpArgs false
theorem clone_f (b : List Int) (h : b.length < 140737488355328) : slices_Clone_byte_byte.f b = some b := by
  unfold slices_Clone_byte_byte.f
  simp [h]
/-- A pack that is answered: its bytes lie in a new row. -/
def ToldIs (w : World) (B : Nat) (e : Ending) (x : P4) : Prop := ∃ A c, e = .returned (.agg ⟨Pk.cells ⟨x.f0, x.f1, x.f2, A, c, x.f3⟩⟩) ∧ PkOk w B ⟨x.f0, x.f1, x.f2, A, c, x.f3⟩
set_option maxHeartbeats 4000000 in
set_option maxRecDepth 100000 in
theorem told_calls (w : World) (base g : Nat) (D : Nat → Prop) (L : LS) (ack num : Int) (last : Bool) (A : Option Addr) (c : Nat) (b : List Int) (h : LineAt w base g D L) (hb : Bytes w A b) (hc : b.length ≤ c) (hbl : b.length < 140737488355328) (h0 : 0 ≤ L.await) (h1 : L.await ≤ 4611686018427387904) :
    Calls Tryd.prog 28 #[.pointer (some ⟨g, 0, none⟩), .agg ⟨Pk.cells ⟨ack, num, last, A, c, b⟩⟩] w fun e w' => ToldIs w' w.heap.size e ⟨L.await - 1, num, last, b⟩ ∧ Below w.heap.size w w' := by
  obtain ⟨vq, mb, cv, qs, ks, hI, _⟩ := h
  have I0 := Aside0.mk hI.blk
  have IG := Aside0.mk (blk_lt hI.blk)
  have HBy := Aside0.mk hb
  have HB := Aside0.mk (Below.refl w.heap.size w)
  clear hI hb
  obtain ⟨aw, haw⟩ : ∃ aw, L.await = aw := ⟨_, rfl⟩
  have c2' : (⟨lineCells vq mb cv L⟩ : Array Value)[2]? = some (.int .i64 aw) := by rw [← haw]; rfl
  have C2 := Aside0.mk c2'
  rw [haw] at h0 h1 ⊢
  clear c2' haw
  unfold Pk.cells
  go_enter Tryd.func28, Tryd.ntmps28
  go_wp2_with ((with_reducible refine gate_dst (N := 3) rfl ?_); refine stop_here ?_)
  refine ⟨?_⟩
  refine box_event rfl (N := 3) rfl (cs := ⟨[.int .i64 ack, .int .i64 num, .bool last, .slice A b.length c]⟩) (t := 37) ?hr3 ?_
  case hr3 => first | (go_simp; done) | (go_simp; rfl)
  intro m hm w1 hbox hb
  have X1 := Aside0.mk hbox
  have M1 := Aside0.mk (show w.heap.size ≤ m by rw [hm]; exact Nat.le_refl _)
  have I1 := Aside0.mk (blk_below I0.out hb)
  have B1 := Aside0.mk (below_step HB.out hb)
  clear hm hbox hb I0 HB
  go_wp2_with ((with_reducible refine gate_dst (N := 4) rfl ?_); refine stop_here ?_)
  refine ⟨?_⟩
  refine box_event rfl (N := 4) rfl (cs := ⟨[.int .i64 0, .int .i64 0, .bool false, .slice none 0 0]⟩) (t := 37) ?hr4 ?_
  case hr4 => first | (go_simp; done) | (go_simp; rfl)
  intro q hq w2 hbox hb
  have Y2 := Aside0.mk hbox
  have X2 := Aside0.mk (blk_below X1.out hb)
  have Q2 := Aside0.mk (show w.heap.size ≤ q by rw [hq]; exact B1.out.size)
  have N2 := Aside0.mk (show q ≠ m by rw [hq]; have := blk_lt X1.out; omega)
  have NM := Aside0.mk (show g ≠ m by have h1 := blk_lt I1.out; have := M1.out; have h2 := IG.out; omega)
  have I2 := Aside0.mk (blk_below I1.out hb)
  have B2 := Aside0.mk (below_step B1.out hb)
  clear hq hbox hb X1 I1 B1
  have c2 := (blk_cell I2.out 2).trans C2.out
  have x0 := (blk_cell X2.out 0).trans (show (⟨[Value.int .i64 ack, .int .i64 num, .bool last, .slice A b.length c]⟩ : Array Value)[0]? = some _ from rfl)
  have fx := blk_frozen X2.out 0
  go_upto_region 2 with (fail)
  have X3 := Aside0.mk ((blk_set X2.out 0 (.int .i64 (aw - 1))).trans (show _ = some (Obj.cells ⟨[.int .i64 (aw - 1), .int .i64 num, .bool last, .slice A b.length c]⟩ 37 (0, 0)) from rfl))
  have FS := Aside0.mk (Frame.of_set w2 m 0 (.int .i64 (aw - 1)))
  have Y3 := Aside0.mk (FS.out.blk Y2.out N2.out)
  have B3 := Aside0.mk (below_frame B2.out FS.out B2.out.size (fun k e => by rw [e]; exact M1.out))
  obtain ⟨w3, hw3⟩ : ∃ w3, w2.setCell ⟨m, 0, none⟩ (.int .i64 (aw - 1)) = w3 := ⟨_, rfl⟩
  rw [hw3] at X3 Y3 B3
  rw [hw3]
  clear hw3 FS X2 Y2 I2 B2 c2 x0 fx
  have x3 := (blk_cell X3.out 3).trans (show (⟨[Value.int .i64 (aw - 1), .int .i64 num, .bool last, .slice A b.length c]⟩ : Array Value)[3]? = some (.slice A b.length c) from rfl)
  go_wp2_with (go_at_call 31; refine stop_here ?_)
  refine ⟨?_⟩
  refine (slices_Clone_byte_byte.calls A c b b w3 (reads_bytes (HBy.out.below B3.out) (by omega)) hc (clone_f b hbl)).mono ?_
  rintro e w4 ⟨vb, rfl, hR, hb⟩
  obtain ⟨An, cn, rfl, hcn, hby, hty⟩ := bytes_of_row hR
  have K4 : Aside0 (PkOk w4 w.heap.size ⟨aw - 1, num, last, An, cn, b⟩) := ⟨⟨hby, hcn, fun ad e => ⟨Nat.le_trans B3.out.size (hty ad e).1, (hty ad e).2⟩⟩⟩
  have X4 := Aside0.mk (blk_below X3.out hb)
  have Y4 := Aside0.mk (blk_below Y3.out hb)
  have B4 := Aside0.mk (below_step B3.out hb)
  clear hR hb hby hcn hty X3 Y3 B3 x3
  have x3 := (blk_cell X4.out 3).trans (show (⟨[Value.int .i64 (aw - 1), .int .i64 num, .bool last, .slice A b.length c]⟩ : Array Value)[3]? = some (.slice A b.length c) from rfl)
  have fx := blk_frozen X4.out 3
  go_upto_region 3 with (fail)
  have X5 := Aside0.mk ((blk_set X4.out 3 (.slice An b.length cn)).trans (show _ = some (Obj.cells ⟨[.int .i64 (aw - 1), .int .i64 num, .bool last, .slice An b.length cn]⟩ 37 (0, 0)) from rfl))
  have FS := Aside0.mk (Frame.of_set w4 m 3 (.slice An b.length cn))
  have ty : ∀ k, (∃ cells, w4.heap[k]? = some (.cells cells 37 (0, 0))) → ∀ ad, An = some ad → ¬ ad.block = k := fun k hk ad e h => by
    obtain ⟨cells, hk⟩ := hk
    obtain ⟨_, cc, h2⟩ := K4.out.own ad e
    rw [h] at h2
    have := h2.symm.trans hk
    simp at this
  have K5 := Aside0.mk (K4.out.keep FS.out (fun ad e h => ty m ⟨_, X4.out⟩ ad e h))
  have Y5 := Aside0.mk (FS.out.blk Y4.out N2.out)
  have B5 := Aside0.mk (below_frame B4.out FS.out B4.out.size (fun k e => by rw [e]; exact M1.out))
  obtain ⟨w5, hw5⟩ : ∃ w5, w4.setCell ⟨m, 3, none⟩ (.slice An b.length cn) = w5 := ⟨_, rfl⟩
  rw [hw5] at X5 Y5 B5 K5
  rw [hw5]
  clear hw5 FS X4 Y4 B4 x3 fx ty K4
  go_wp2_with ((with_reducible refine gate_dst (N := 15) rfl ?_); refine stop_here ?_)
  refine ⟨?_⟩
  refine wpList_load_row rfl 37 (.tmp 3) rfl m rfl 37 ⟨Pk.cells ⟨aw - 1, num, last, An, cn, b⟩⟩ (0, 0) _ X5.out Tryd.underlying37 rfl rfl ?_
  go_wp2_with ((with_reducible refine gate_store (t := 37) (p := 4) rfl ?_); refine stop_here ?_)
  refine ⟨?_⟩
  refine wpList_store_mid rfl 37 (.tmp 4) (.tmp 15) rfl q 0 ⟨Pk.cells ⟨aw - 1, num, last, An, cn, b⟩⟩ rfl rfl (by have h := box_there Y5.out; exact h) rfl (pk_all _) ?_
  have FS := Aside0.mk (Frame.of_setCells w5 q 0 (Pk.cells ⟨aw - 1, num, last, An, cn, b⟩))
  have Y6 := Aside0.mk (box_put (Pk.cells ⟨aw - 1, num, last, An, cn, b⟩) Y5.out rfl)
  have K6 := Aside0.mk (K5.out.keep FS.out (fun ad e h => by
    obtain ⟨_, cc, h2⟩ := K5.out.own ad e
    have h' : ad.block = q := h
    rw [h'] at h2
    have := h2.symm.trans Y5.out
    simp at this))
  have B6 := Aside0.mk (below_frame B5.out FS.out B5.out.size (fun k e => by rw [e]; exact Q2.out))
  obtain ⟨w6, hw6⟩ : ∃ w6, w5.setCells q 0 (Pk.cells ⟨aw - 1, num, last, An, cn, b⟩) = w6 := ⟨_, rfl⟩
  have e6 : w5.setCells q 0 (⟨Pk.cells ⟨aw - 1, num, last, An, cn, b⟩⟩ : Array Value).toList = w6 := hw6
  rw [e6]
  rw [hw6] at Y6 K6 B6
  clear hw6 e6 FS Y5 K5 B5 X5
  go_wp2
  exact bodyPost_ret (results_cell_row rfl _ _ q 37 ⟨Pk.cells ⟨aw - 1, num, last, An, cn, b⟩⟩ (0, 0) _ rfl Y6.out Tryd.underlying37 rfl (by kernel_rfl)) rfl ⟨⟨An, cn, rfl, K6.out⟩, B6.out⟩
end Go.Proofs.YtafjegfmmnjpfaaDoor.LineT

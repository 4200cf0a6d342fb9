/- Proved: hash.Of tells the sum of parts; conditions: the theorems' own premises. -/
import Derived.Test.YtlniejfbkcgneaaHEnd
namespace Go.Proofs.Ytlniejfbkcgneaa.HashT
open Go.RowKit Go.Proofs.Ytlniejfbkcgneaa.YHash Go.Proofs.YtlniejfbkcgneaaW.PrintWords Go.Proofs.YtlniejfbkcgneaaW.PrintLast Go.Proofs.YtlniejfbkcgneaaW.PrintMore
set_option linter.unusedVariables false
set_option linter.unusedSimpArgs false
theorem Bytes.lt {w : World} {A : Option Addr} {p : List Int} (h : Bytes w A p) (hp : 0 < p.length) : ∀ ad, A = some ad → ad.block < w.heap.size := by
  intro ad e
  obtain ⟨ad', e', hc⟩ := h hp
  rw [e] at e'
  injection e' with e'
  subst e'
  have hn : (nums .u8 p)[0]? = some ((nums .u8 p)[0]'(by unfold nums; rw [List.length_map]; exact hp)) := List.getElem?_eq_getElem _
  have := World.block_lt_of_cell? w _ (hc 0 _ hn)
  unfold Addr.add at this
  split at this <;> exact this
theorem Bytes.below {w w1 : World} {A : Option Addr} {p : List Int} (h : Bytes w A p) (hb : Below w.heap.size w w1) : Bytes w1 A p := h.frame (Frame.of_below hb) (fun _ _ _ h => h)
/-- Parts that were there lie behind new blocks as they did, and in none of those. -/
theorem PartsAt.later {w w1 : World} {A : Option Addr} {ps : List (List Int)} {S0 S S1 : Nat → Prop} (h : PartsAt w A ps S0) (hf : Frame w w1 S1) (hs1 : ∀ k, S1 k → S0 k) (hS : ∀ k, S k → S0 k ∨ w.heap.size ≤ k) : PartsAt w1 A ps S := by
  intro h0
  obtain ⟨b, o, rfl, hb, hi⟩ := h h0
  have hb1 : b < w.heap.size := by
    obtain ⟨_, _, hc, _⟩ := hi 0 h0
    exact World.block_lt_of_cell? w _ hc
  refine ⟨b, o, rfl, fun h1 => by rcases hS b h1 with h2 | h2; exact hb h2; omega, fun i hlt => ?_⟩
  obtain ⟨A', c, hc, hby, hA⟩ := hi i hlt
  refine ⟨A', c, hf.cell hc (fun h1 => hb (hs1 _ h1)), hby.frame hf (fun h1 ad e h2 => hA h1 ad e (hs1 _ h2)), fun h1 ad e h2 => ?_⟩
  rcases hS _ h2 with h3 | h3
  · exact hA h1 ad e h3
  · have := hby.lt h1 ad e; omega
set_option maxHeartbeats 4000000 in
set_option maxRecDepth 100000 in
theorem of_calls (A : Option Addr) (np cp : Nat) (ps : List (List Int)) (w : World) (hnp : ps.length = np) (hp : PartsAt w A ps (fun _ => False)) (hb : ps.flatten.length ≤ 1000000) (hnp1 : np ≤ 1000) :
    Calls Try.prog 9 #[.slice A np cp] w fun e w' => e = .returned (.agg ⟨nums .u8 (digest ps.flatten)⟩) ∧ Below w.heap.size w w' := by
  have HP := Aside0.mk hp
  have HL := Aside0.mk hb
  have HN := Aside0.mk hnp
  clear hp hb hnp
  go_enter Try.func9, Try.ntmps9
  go_wp2_with ((with_reducible refine gate_dst (N := 2) rfl ?_); refine stop_here ?_)
  refine ⟨?_⟩
  refine box_event rfl (N := 2) rfl (cs := ⟨nums .u8 (zeros 32)⟩) (t := 25) ?hr ?_
  case hr => first | (go_simp; done) | (go_simp; rfl)
  intro g2 hg w1 hbox hb
  have G2 := Aside0.mk (show w.heap.size ≤ g2 by rw [hg]; exact Nat.le_refl _)
  have X1 := Aside0.mk hbox
  have P1 := Aside0.mk (HP.out.later (S := fun _ => False) (Frame.of_below hb) (fun _ h => h) (fun _ h => .inl h))
  have B1 := Aside0.mk hb
  clear hg hbox hb
  go_wp2_with (go_at_call 11; refine stop_here ?_)
  refine ⟨?_⟩
  refine (new_calls _).mono ?_
  rintro e w2 ⟨g, rfl, hgle, hs2, hb2⟩
  have S2 := Aside0.mk hs2
  have P2 := Aside0.mk (P1.out.later (S := Foot g none) (Frame.of_below hb2) (fun _ h => h) (fun k h => .inr (by rcases h with h | h; omega; cases h)))
  have X2 := Aside0.mk (blk_below X1.out hb2)
  have B2 := Aside0.mk (below_step B1.out hb2)
  have HB2 := Aside0.mk hb2.size
  have GL := Aside0.mk hgle
  clear hs2 hb2 hgle
  go_wp2_with (go_at_call 12; refine stop_here ?_)
  refine ⟨?_⟩
  refine (add_calls g w1.heap.size none [] A np cp ps w2 HN.out HB2.out S2.out P2.out (by have := HL.out; rw [List.length_nil]; omega) hnp1).mono ?_
  rintro e w3 ⟨rfl, r3, hs3, _, hf3⟩
  rw [List.nil_append] at hs3
  have S3 := Aside0.mk hs3
  have X3 := Aside0.mk (hf3.blk X2.out (fun h => by rcases h with h | h; have := blk_lt X1.out; have := GL.out; omega; cases h))
  have B3 := Aside0.mk (below_frame B2.out hf3 B2.out.size (fun k h => by rcases h with h | h; have := GL.out; have := B1.out.size; omega; cases h))
  have HB3 := Aside0.mk (Nat.le_trans HB2.out hf3.size)
  clear hs3 hf3
  go_wp2_with (go_at_call 13; refine stop_here ?_)
  refine ⟨?_⟩
  refine (end_calls g w1.heap.size r3 ps.flatten w3 HB3.out S3.out HL.out).mono ?_
  rintro e w4 ⟨rfl, hb4⟩
  have X4 := Aside0.mk (blk_below X3.out hb4)
  have B4 := Aside0.mk (below_step B3.out hb4)
  clear hb4
  go_wp2_with ((with_reducible refine gate_store (t := 25) (p := 2) rfl ?_); refine stop_here ?_)
  refine ⟨?_⟩
  refine row_event rfl 25 (.tmp 2) (.tmp 6) rfl g2 ⟨nums .u8 (digest ps.flatten)⟩ rfl rfl 25 _ X4.out (by rw [u8s_size _ (digest_len _)]; rfl) (by rw [u8s_size _ (digest_len _)]; rfl) (u8s_one _) ?_
  intro w12 hp
  have BF := Aside0.mk (hp.below B4.out G2.out)
  have XF := Aside0.mk hp.here
  clear hp
  go_wp2
  exact bodyPost_ret (results_cell_row rfl _ _ g2 25 ⟨nums .u8 (digest ps.flatten)⟩ (0, 0) _ rfl XF.out Try.underlying25 rfl (by rw [u8s_size _ (digest_len _)]; rfl)) rfl ⟨rfl, BF.out⟩
end Go.Proofs.Ytlniejfbkcgneaa.HashT

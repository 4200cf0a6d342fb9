/- Proved: the reference's Throw (shutterref24.Throw); conditions: the theorems' own premises. -/
import Derived.Test.YtaciokdgoogpiaaNRLay
namespace Go.Proofs.Ytaciokdgoogpiaa.NetT
open Go.RowKit Go.Proofs.Ytaciokdgoogpiaa.YNet Go.Proofs.YtaciokdgoogpiaaW.PrintWords Go.Proofs.YtaciokdgoogpiaaW.PrintLast Go.Proofs.YtaciokdgoogpiaaW.PrintMore
set_option linter.unusedVariables false
set_option linter.unusedSimpArgs false
def mailOf (x : Say) : S32 := ⟨x.1, x.2.1, x.2.2.1, x.2.2.2.1⟩
def tickOf (x : Say) : Int := x.2.2.2.2
/-- The reference's air, told by what it says. -/
def RefIs (w : World) (ok : Nat → Prop) (v0 v1 : Value) (l : List Say) : Prop := IsRef w ok v0 v1 (l.map mailOf) (l.map tickOf)
def RefSays (w : World) (e : Ending) (ok : Nat → Prop) (l : List Say) : Prop := ∃ v0 v1, e = .returned (.agg #[v0, v1]) ∧ RefIs w ok v0 v1 l
theorem layS_len (l : List Say) (x : Say) (h : l.length ≤ 200) : (layS l x).length ≤ 200 := by
  unfold layS
  split
  · rw [List.length_append, List.length_singleton]; omega
  · exact h
theorem layS_m (l : List Say) (x : Say) (h : l.length ≤ 200) : layM (l.map mailOf) (mailOf x) = (layS l x).map mailOf := by
  unfold layM layS
  rw [List.length_map]
  by_cases e : l.length = 200
  · rw [if_pos e, if_neg (by omega)]
  · rw [if_neg e, if_pos (by omega), List.map_append]; rfl
theorem layS_t (l : List Say) (x : Say) (h : l.length ≤ 200) : layT (l.map mailOf) (l.map tickOf) (tickOf x) = (layS l x).map tickOf := by
  unfold layT layS
  rw [List.length_map]
  by_cases e : l.length = 200
  · rw [if_pos e, if_neg (by omega)]
  · rw [if_neg e, if_pos (by omega), List.map_append]; rfl
theorem rlay_says (w : World) (ok : Nat → Prop) (v0 v1 : Value) (l : List Say) (s : ByteArray) (d : Int) (o : ByteArray) (A : Option Addr) (c : Nat) (b : List Int) (t : Int) (hR : RefIs w ok v0 v1 l) (hM : Kd.V (Kd.int .u8) 5 w 0 ok (.slice A b.length c) b) (hl : l.length ≤ 200) :
    Calls Try.prog 20 #[.agg #[v0, v1], .agg #[.string s, .int .i64 d, .string o, .slice A b.length c], .int .i64 t] w fun e w' => RefSays w' e (fun k => ok k ∨ w.heap.size ≤ k) (layS l (s, d, o, b, t)) ∧ Below w.heap.size w w' := by
  refine (rlay_calls w ok v0 v1 _ _ s d o A c b t hR hM (by rw [List.length_map]; exact hl) (by rw [List.length_map]; exact hl)).mono ?_
  rintro e w' ⟨⟨u0, u1, rfl, h⟩, hb⟩
  refine ⟨⟨u0, u1, rfl, ?_⟩, hb⟩
  have e1 := layS_m l (s, d, o, b, t) hl
  have e2 := layS_t l (s, d, o, b, t) hl
  unfold RefIs
  rw [← e1, ← e2]
  exact h
theorem RefIs.below {w w1 : World} {ok : Nat → Prop} {v0 v1 : Value} {l : List Say} (h : RefIs w ok v0 v1 l) (hb : Below w.heap.size w w1) : RefIs w1 ok v0 v1 l := IsRef.below h hb
theorem RefIs.mono {w : World} {ok ok' : Nat → Prop} {v0 v1 : Value} {l : List Say} (h : RefIs w ok v0 v1 l) (hk : ∀ k, ok k → ok' k) : RefIs w ok' v0 v1 l := IsRef.mono h hk
theorem RefIs.keep {w w1 : World} {ok S : Nat → Prop} {v0 v1 : Value} {l : List Say} (h : RefIs w ok v0 v1 l) (hf : Frame w w1 S) (hk : ∀ k, ok k → ¬ S k) : RefIs w1 ok v0 v1 l :=
  ⟨Kd.V_step h.1 (fun k hk' hlt => hf.block k hlt (hk k hk')), Kd.V_step h.2 (fun k hk' hlt => hf.block k hlt (hk k hk'))⟩
theorem RefIs.old {w : World} {ok : Nat → Prop} {v0 v1 : Value} {l : List Say} (h : RefIs w ok v0 v1 l) : RefIs w (fun k => ok k ∧ k < w.heap.size) v0 v1 l := ⟨Kd.V_bound h.1, Kd.V_bound h.2⟩
theorem RefIs.slices {w : World} {ok : Nat → Prop} {v0 v1 : Value} {l : List Say} (h : RefIs w ok v0 v1 l) : ∃ A0 c0 A1 c1, v0 = .slice A0 l.length c0 ∧ v1 = .slice A1 l.length c1 := by
  obtain ⟨A0, c0, h0⟩ := Kd.V_slice h.1
  obtain ⟨A1, c1, h1⟩ := Kd.V_slice h.2
  rw [List.length_map] at h0 h1
  exact ⟨A0, c0, A1, c1, h0, h1⟩
set_option maxHeartbeats 4000000 in
set_option maxRecDepth 100000 in
theorem rthrow_calls (w : World) (ok : Nat → Prop) (v0 v1 : Value) (l : List Say) (s : ByteArray) (d : Int) (o : ByteArray) (A : Option Addr) (c : Nat) (b : List Int) (lost twice : Bool) (t : Int) (hR : RefIs w ok v0 v1 l) (hM : Kd.V (Kd.int .u8) 5 w 0 ok (.slice A b.length c) b) (hl : l.length ≤ 200) :
    Calls Try.prog 14 #[.agg #[v0, v1], .agg #[.string s, .int .i64 d, .string o, .slice A b.length c], .agg #[.bool lost, .bool twice, .int .i64 t]] w fun e w' => RefSays w' e (fun k => ok k ∨ w.heap.size ≤ k) (throwS l s d o b lost twice t) ∧ Below w.heap.size w w' := by
  have R0 := Aside0.mk hR
  have M0 := Aside0.mk hM
  have HB := Aside0.mk (Below.refl w.heap.size w)
  clear hR hM
  obtain ⟨A0, c0, A1, c1, hv0, hv1⟩ := R0.out.slices
  subst hv0
  subst hv1
  go_enter Try.func14, Try.ntmps14
  go_wp2_with ((with_reducible refine gate_dst (N := 3) rfl ?_); refine stop_here ?_)
  refine ⟨?_⟩
  refine box_event rfl (N := 3) rfl (cs := ⟨[.slice A0 l.length c0, .slice A1 l.length c1]⟩) (t := 29) ?hr3 ?_
  case hr3 => first | (go_simp; done) | (go_simp; rfl)
  intro g3 hg3 w3 hbox hb
  have B3 := Aside0.mk hbox
  have L3 := Aside0.mk (show w.heap.size ≤ g3 by rw [hg3]; exact Nat.le_refl _)
  have H3 := Aside0.mk (below_step HB.out hb)
  clear hg3 hbox hb HB
  go_wp2_with ((with_reducible refine gate_dst (N := 4) rfl ?_); refine stop_here ?_)
  refine ⟨?_⟩
  refine box_event rfl (N := 4) rfl (cs := ⟨[.string s, .int .i64 d, .string o, .slice A b.length c]⟩) (t := 32) ?hr4 ?_
  case hr4 => first | (go_simp; done) | (go_simp; rfl)
  intro g4 hg4 w4 hbox hb
  have B4 := Aside0.mk hbox
  have N34 := Aside0.mk (show g4 ≠ g3 by rw [hg4]; have := blk_lt B3.out; omega)
  have B34 := Aside0.mk (blk_below B3.out hb)
  have H4 := Aside0.mk (below_step H3.out hb)
  clear hg4 hbox hb H3 B3
  go_wp2_with ((with_reducible refine gate_dst (N := 5) rfl ?_); refine stop_here ?_)
  refine ⟨?_⟩
  refine box_event rfl (N := 5) rfl (cs := #[.bool lost, .bool twice, .int .i64 t]) (t := 34) ?hr5 ?_
  case hr5 => first | (go_simp; done) | (go_simp; rfl)
  intro g5 hg5 w5 hbox hb
  have B5 := Aside0.mk hbox
  have N35 := Aside0.mk (show g5 ≠ g3 by rw [hg5]; have := blk_lt B34.out; omega)
  have B35 := Aside0.mk (blk_below B34.out hb)
  have B45 := Aside0.mk (blk_below B4.out hb)
  have H5 := Aside0.mk (below_step H4.out hb)
  clear hg5 hbox hb H4 B34 B4
  go_wp2_with ((with_reducible refine gate_dst (N := 6) rfl ?_); refine stop_here ?_)
  refine ⟨?_⟩
  refine box_event rfl (N := 6) rfl (cs := ⟨[.slice none 0 0, .slice none 0 0]⟩) (t := 29) ?hr6 ?_
  case hr6 => first | (go_simp; done) | (go_simp; rfl)
  intro g6 hg6 w6 hbox hb
  have B6 := Aside0.mk hbox
  have N36 := Aside0.mk (show g6 ≠ g3 by rw [hg6]; have := blk_lt B35.out; omega)
  have L6 := Aside0.mk (show w.heap.size ≤ g6 by rw [hg6]; exact H5.out.size)
  have B36 := Aside0.mk (blk_below B35.out hb)
  have B46 := Aside0.mk (blk_below B45.out hb)
  have B56 := Aside0.mk (blk_below B5.out hb)
  have H6 := Aside0.mk (below_step H5.out hb)
  clear hg6 hbox hb H5 B35 B45 B5
  have y0 := (blk_cell B56.out 0).trans (show (#[Value.bool lost, .bool twice, .int .i64 t] : Array Value)[0]? = some _ from rfl)
  have y1 := (blk_cell B56.out 1).trans (show (#[Value.bool lost, .bool twice, .int .i64 t] : Array Value)[1]? = some _ from rfl)
  have y2 := (blk_cell B56.out 2).trans (show (#[Value.bool lost, .bool twice, .int .i64 t] : Array Value)[2]? = some _ from rfl)
  obtain ⟨D, hD⟩ : ∃ D, delayS t = D := ⟨_, rfl⟩
  have HD := Aside0.mk hD
  have hd0 : 0 ≤ D := by rw [← hD]; unfold delayS; omega
  have hd1 : D ≤ 1000 := by rw [← hD]; unfold delayS; omega
  obtain ⟨E, hE⟩ : ∃ E, max t 0 = E := ⟨_, rfl⟩
  have HE := Aside0.mk hE
  clear hD hE
  go_upto_if 11 with (fail)
  go_cut [7] (fun v7 w' => v7 = .int .i64 E ∧ w' = w6)
  case first =>
    by_cases h1 : t < 0
    · go_wp2
      go_meet
      exact ⟨by have := HE.out; rw [show E = 0 by omega], rfl⟩
    · go_wp2
      go_meet
      exact ⟨by have := HE.out; rw [show E = t by omega], rfl⟩
  case rest =>
    obtain ⟨rfl, hw⟩ := hcut
    have hw' := hw.symm
    subst hw'
    clear hw
    go_upto_if 13 with (fail)
    go_cut [7] (fun v7 w' => v7 = .int .i64 D ∧ w' = w6)
    case first =>
      by_cases h1 : E > 1000
      · go_wp2
        go_meet
        exact ⟨by have h2 := HE.out; have h3 := HD.out; unfold delayS at h3; rw [show D = 1000 by omega], rfl⟩
      · go_wp2
        go_meet
        exact ⟨by have h2 := HE.out; have h3 := HD.out; unfold delayS at h3; rw [show D = E by omega], rfl⟩
    case rest =>
      obtain ⟨rfl, hw⟩ := hcut
      have hw' := hw.symm
      subst hw'
      clear hw
      have MB := Aside0.mk (Kd.V_bound M0.out)
      have R1 := Aside0.mk (R0.out.old.below H6.out)
      have M1 := Aside0.mk (Kd.V_below MB.out H6.out)
      cases lost with
      | true =>
        replace y0 : w6.cell? ⟨g5, 0, none⟩ = some (.bool true) := y0
        go_wp2_with ((with_reducible refine gate_dst (N := 16) rfl ?_); refine stop_here ?_)
        refine ⟨?_⟩
        refine wpList_load_row rfl 29 (.tmp 3) rfl g3 rfl 29 ⟨[.slice A0 l.length c0, .slice A1 l.length c1]⟩ (0, 0) _ B36.out Try.underlying29 rfl rfl ?_
        go_wp2_with ((with_reducible refine gate_store (t := 29) (p := 6) rfl ?_); refine stop_here ?_)
        refine ⟨?_⟩
        refine wpList_store_mid rfl 29 (.tmp 6) (.tmp 16) rfl g6 0 ⟨[.slice A0 l.length c0, .slice A1 l.length c1]⟩ rfl rfl (by have h := box_there B6.out; exact h) rfl (two_one _ _ _ _ _ _) ?_
        have BF := Aside0.mk (box_put [.slice A0 l.length c0, .slice A1 l.length c1] B6.out rfl)
        have FF := Aside0.mk (Frame.of_setCells w6 g6 0 [.slice A0 l.length c0, .slice A1 l.length c1])
        have RF := Aside0.mk (R1.out.keep FF.out (fun k hk e => by have := L6.out; omega))
        have HF := Aside0.mk (below_frame H6.out FF.out H6.out.size (fun k e => by rw [e]; exact L6.out))
        obtain ⟨wf, hwf⟩ : ∃ wf, w6.setCells g6 0 [.slice A0 l.length c0, .slice A1 l.length c1] = wf := ⟨_, rfl⟩
        have ef : w6.setCells g6 0 (⟨[.slice A0 l.length c0, .slice A1 l.length c1]⟩ : Array Value).toList = wf := hwf
        rw [ef]
        rw [hwf] at BF RF HF
        clear hwf ef FF
        go_wp2
        refine bodyPost_ret (results_cell_row rfl _ _ g6 29 ⟨[.slice A0 l.length c0, .slice A1 l.length c1]⟩ (0, 0) _ rfl BF.out Try.underlying29 rfl (by kernel_rfl)) rfl ⟨⟨_, _, rfl, ?_⟩, HF.out⟩
        exact RF.out.mono (fun k hk => .inl hk.1)
      | false =>
        replace y0 : w6.cell? ⟨g5, 0, none⟩ = some (.bool false) := y0
        go_wp2_with ((with_reducible refine gate_dst (N := 17) rfl ?_); refine stop_here ?_)
        refine ⟨?_⟩
        refine wpList_load_row rfl 29 (.tmp 3) rfl g3 rfl 29 ⟨[.slice A0 l.length c0, .slice A1 l.length c1]⟩ (0, 0) _ B36.out Try.underlying29 rfl rfl ?_
        go_wp2_with ((with_reducible refine gate_dst (N := 18) rfl ?_); refine stop_here ?_)
        refine ⟨?_⟩
        refine wpList_load_row rfl 32 (.tmp 4) rfl g4 rfl 32 ⟨[.string s, .int .i64 d, .string o, .slice A b.length c]⟩ (0, 0) _ B46.out Try.underlying32 rfl rfl ?_
        go_wp2_with (go_at_call 20; refine stop_here ?_)
        refine ⟨?_⟩
        refine (rlay_says w6 _ _ _ l s d o A c b D R1.out M1.out hl).mono ?_
        rintro e v1 ⟨⟨y0_1, y1_1, rfl, hR⟩, hb⟩
        have R1 := Aside0.mk hR
        have H1_ := Aside0.mk (below_step H6.out hb)
        have M1 := Aside0.mk (Kd.V_mono (Kd.V_below M1.out hb) (ok' := fun k => ok k ∨ w.heap.size ≤ k) (fun k hk => .inl hk.1))
        have P3_1 := Aside0.mk (blk_below B36.out hb)
        have P4_1 := Aside0.mk (blk_below B46.out hb)
        have P5_1 := Aside0.mk (blk_below B56.out hb)
        have P6_1 := Aside0.mk (blk_below B6.out hb)
        have Z1 := Aside0.mk (fun k (hk : (ok k ∧ k < w.heap.size) ∨ w6.heap.size ≤ k) => (show ok k ∧ k < w.heap.size ∨ w.heap.size ≤ k ∧ k ≠ g3 ∧ k ≠ g6 from by have h3 := blk_lt B36.out; have h6 := blk_lt B6.out; have hs := H6.out.size; have h36 := L3.out; have h66 := L6.out; exact hk.elim .inl (fun h => .inr ⟨by omega, by omega, by omega⟩)))
        clear hR hb
        obtain ⟨B0_1, d0_1, B1_1, d1_1, hv0, hv1⟩ := R1.out.slices
        subst hv0
        subst hv1
        go_wp2_with ((with_reducible refine gate_store (t := 29) (p := 3) rfl ?_); refine stop_here ?_)
        refine ⟨?_⟩
        refine wpList_store_mid rfl 29 (.tmp 3) (.tmp 20) rfl g3 0 ⟨[.slice B0_1 (layS l (s, d, o, b, D)).length d0_1, .slice B1_1 (layS l (s, d, o, b, D)).length d1_1]⟩ rfl rfl (by have h := box_there P3_1.out; exact h) rfl (two_one _ _ _ _ _ _) ?_
        have C3_1 := Aside0.mk (box_put [.slice B0_1 (layS l (s, d, o, b, D)).length d0_1, .slice B1_1 (layS l (s, d, o, b, D)).length d1_1] P3_1.out rfl)
        have FS := Aside0.mk (Frame.of_setCells v1 g3 0 [.slice B0_1 (layS l (s, d, o, b, D)).length d0_1, .slice B1_1 (layS l (s, d, o, b, D)).length d1_1])
        have S1 := Aside0.mk ((R1.out.mono Z1.out).keep FS.out (fun k hk e => hk.elim (fun h => by have := L3.out; omega) (fun h => h.2.1 e)))
        have C4_1 := Aside0.mk (FS.out.blk P4_1.out N34.out)
        have C5_1 := Aside0.mk (FS.out.blk P5_1.out N35.out)
        have C6_1 := Aside0.mk (FS.out.blk P6_1.out N36.out)
        have K1 := Aside0.mk (below_frame H1_.out FS.out H1_.out.size (fun k e => by rw [e]; exact L3.out))
        obtain ⟨q1, hq⟩ : ∃ q, v1.setCells g3 0 [.slice B0_1 (layS l (s, d, o, b, D)).length d0_1, .slice B1_1 (layS l (s, d, o, b, D)).length d1_1] = q := ⟨_, rfl⟩
        have eq : v1.setCells g3 0 (⟨[.slice B0_1 (layS l (s, d, o, b, D)).length d0_1, .slice B1_1 (layS l (s, d, o, b, D)).length d1_1]⟩ : Array Value).toList = q1 := hq
        rw [eq]
        rw [hq] at C3_1 S1 C4_1 C5_1 C6_1 K1
        clear hq eq FS P3_1 P4_1 P5_1 P6_1 R1 H1_ M1
        have N1 := Aside0.mk (Kd.V_below MB.out K1.out)
        have z1 := (blk_cell C5_1.out 1).trans (show (#[Value.bool false, .bool twice, .int .i64 t] : Array Value)[1]? = some _ from rfl)
        cases twice with
        | false =>
          replace z1 : q1.cell? ⟨g5, 1, none⟩ = some (.bool false) := z1
          go_wp2_with ((with_reducible refine gate_dst (N := 29) rfl ?_); refine stop_here ?_)
          refine ⟨?_⟩
          refine wpList_load_row rfl 29 (.tmp 3) rfl g3 rfl 29 ⟨[.slice B0_1 (layS l (s, d, o, b, D)).length d0_1, .slice B1_1 (layS l (s, d, o, b, D)).length d1_1]⟩ (0, 0) _ C3_1.out Try.underlying29 rfl rfl ?_
          go_wp2_with ((with_reducible refine gate_store (t := 29) (p := 6) rfl ?_); refine stop_here ?_)
          refine ⟨?_⟩
          refine wpList_store_mid rfl 29 (.tmp 6) (.tmp 29) rfl g6 0 ⟨[.slice B0_1 (layS l (s, d, o, b, D)).length d0_1, .slice B1_1 (layS l (s, d, o, b, D)).length d1_1]⟩ rfl rfl (by have h := box_there C6_1.out; exact h) rfl (two_one _ _ _ _ _ _) ?_
          have BF := Aside0.mk (box_put [.slice B0_1 (layS l (s, d, o, b, D)).length d0_1, .slice B1_1 (layS l (s, d, o, b, D)).length d1_1] C6_1.out rfl)
          have FF := Aside0.mk (Frame.of_setCells q1 g6 0 [.slice B0_1 (layS l (s, d, o, b, D)).length d0_1, .slice B1_1 (layS l (s, d, o, b, D)).length d1_1])
          have RF := Aside0.mk (S1.out.keep FF.out (fun k hk e => hk.elim (fun h => by have := L6.out; omega) (fun h => h.2.2 e)))
          have HF := Aside0.mk (below_frame K1.out FF.out K1.out.size (fun k e => by rw [e]; exact L6.out))
          obtain ⟨wf, hwf⟩ : ∃ wf, q1.setCells g6 0 [.slice B0_1 (layS l (s, d, o, b, D)).length d0_1, .slice B1_1 (layS l (s, d, o, b, D)).length d1_1] = wf := ⟨_, rfl⟩
          have ef : q1.setCells g6 0 (⟨[.slice B0_1 (layS l (s, d, o, b, D)).length d0_1, .slice B1_1 (layS l (s, d, o, b, D)).length d1_1]⟩ : Array Value).toList = wf := hwf
          rw [ef]
          rw [hwf] at BF RF HF
          clear hwf ef FF
          go_wp2
          refine bodyPost_ret (results_cell_row rfl _ _ g6 29 ⟨[.slice B0_1 (layS l (s, d, o, b, D)).length d0_1, .slice B1_1 (layS l (s, d, o, b, D)).length d1_1]⟩ (0, 0) _ rfl BF.out Try.underlying29 rfl (by kernel_rfl)) rfl ⟨⟨_, _, rfl, ?_⟩, HF.out⟩
          show RefIs _ _ _ _ (layS l (s, d, o, b, delayS t))
          rw [HD.out]
          exact RF.out.mono (fun k hk => hk.elim (fun h => .inl h.1) (fun h => .inr h.1))
        | true =>
          replace z1 : q1.cell? ⟨g5, 1, none⟩ = some (.bool true) := z1
          have N1' := Aside0.mk (Kd.V_mono N1.out (ok' := fun k => ok k ∧ k < w.heap.size ∨ w.heap.size ≤ k ∧ k ≠ g3 ∧ k ≠ g6) (fun k hk => .inl hk))
          go_wp2_with ((with_reducible refine gate_dst (N := 23) rfl ?_); refine stop_here ?_)
          refine ⟨?_⟩
          refine wpList_load_row rfl 29 (.tmp 3) rfl g3 rfl 29 ⟨[.slice B0_1 (layS l (s, d, o, b, D)).length d0_1, .slice B1_1 (layS l (s, d, o, b, D)).length d1_1]⟩ (0, 0) _ C3_1.out Try.underlying29 rfl rfl ?_
          go_wp2_with ((with_reducible refine gate_dst (N := 24) rfl ?_); refine stop_here ?_)
          refine ⟨?_⟩
          refine wpList_load_row rfl 32 (.tmp 4) rfl g4 rfl 32 ⟨[.string s, .int .i64 d, .string o, .slice A b.length c]⟩ (0, 0) _ C4_1.out Try.underlying32 rfl rfl ?_
          go_wp2_with (go_at_call 20; refine stop_here ?_)
          refine ⟨?_⟩
          refine (rlay_says q1 _ _ _ (layS l (s, d, o, b, D)) s d o A c b (2 * D + 1) S1.out N1'.out (layS_len _ _ hl)).mono ?_
          rintro e v2 ⟨⟨y0_2, y1_2, rfl, hR⟩, hb⟩
          have R2 := Aside0.mk hR
          have H2_ := Aside0.mk (below_step K1.out hb)
          have P3_2 := Aside0.mk (blk_below C3_1.out hb)
          have P4_2 := Aside0.mk (blk_below C4_1.out hb)
          have P5_2 := Aside0.mk (blk_below C5_1.out hb)
          have P6_2 := Aside0.mk (blk_below C6_1.out hb)
          have Z2 := Aside0.mk (fun k (hk : (ok k ∧ k < w.heap.size ∨ w.heap.size ≤ k ∧ k ≠ g3 ∧ k ≠ g6) ∨ q1.heap.size ≤ k) => (show ok k ∧ k < w.heap.size ∨ w.heap.size ≤ k ∧ k ≠ g3 ∧ k ≠ g6 from by have h3 := blk_lt C3_1.out; have h6 := blk_lt C6_1.out; have hs := K1.out.size; have h36 := L3.out; have h66 := L6.out; exact hk.elim id (fun h => .inr ⟨by omega, by omega, by omega⟩)))
          clear hR hb
          obtain ⟨B0_2, d0_2, B1_2, d1_2, hv0, hv1⟩ := R2.out.slices
          subst hv0
          subst hv1
          go_wp2_with ((with_reducible refine gate_store (t := 29) (p := 3) rfl ?_); refine stop_here ?_)
          refine ⟨?_⟩
          refine wpList_store_mid rfl 29 (.tmp 3) (.tmp 28) rfl g3 0 ⟨[.slice B0_2 (layS (layS l (s, d, o, b, D)) (s, d, o, b, (2 * D + 1))).length d0_2, .slice B1_2 (layS (layS l (s, d, o, b, D)) (s, d, o, b, (2 * D + 1))).length d1_2]⟩ rfl rfl (by have h := box_there P3_2.out; exact h) rfl (two_one _ _ _ _ _ _) ?_
          have C3_2 := Aside0.mk (box_put [.slice B0_2 (layS (layS l (s, d, o, b, D)) (s, d, o, b, (2 * D + 1))).length d0_2, .slice B1_2 (layS (layS l (s, d, o, b, D)) (s, d, o, b, (2 * D + 1))).length d1_2] P3_2.out rfl)
          have FS := Aside0.mk (Frame.of_setCells v2 g3 0 [.slice B0_2 (layS (layS l (s, d, o, b, D)) (s, d, o, b, (2 * D + 1))).length d0_2, .slice B1_2 (layS (layS l (s, d, o, b, D)) (s, d, o, b, (2 * D + 1))).length d1_2])
          have S2 := Aside0.mk ((R2.out.mono Z2.out).keep FS.out (fun k hk e => hk.elim (fun h => by have := L3.out; omega) (fun h => h.2.1 e)))
          have C4_2 := Aside0.mk (FS.out.blk P4_2.out N34.out)
          have C5_2 := Aside0.mk (FS.out.blk P5_2.out N35.out)
          have C6_2 := Aside0.mk (FS.out.blk P6_2.out N36.out)
          have K2 := Aside0.mk (below_frame H2_.out FS.out H2_.out.size (fun k e => by rw [e]; exact L3.out))
          obtain ⟨q2, hq⟩ : ∃ q, v2.setCells g3 0 [.slice B0_2 (layS (layS l (s, d, o, b, D)) (s, d, o, b, (2 * D + 1))).length d0_2, .slice B1_2 (layS (layS l (s, d, o, b, D)) (s, d, o, b, (2 * D + 1))).length d1_2] = q := ⟨_, rfl⟩
          have eq : v2.setCells g3 0 (⟨[.slice B0_2 (layS (layS l (s, d, o, b, D)) (s, d, o, b, (2 * D + 1))).length d0_2, .slice B1_2 (layS (layS l (s, d, o, b, D)) (s, d, o, b, (2 * D + 1))).length d1_2]⟩ : Array Value).toList = q2 := hq
          rw [eq]
          rw [hq] at C3_2 S2 C4_2 C5_2 C6_2 K2
          clear hq eq FS P3_2 P4_2 P5_2 P6_2 R2 H2_
          have N2 := Aside0.mk (Kd.V_below MB.out K2.out)
          go_wp2_with ((with_reducible refine gate_dst (N := 29) rfl ?_); refine stop_here ?_)
          refine ⟨?_⟩
          refine wpList_load_row rfl 29 (.tmp 3) rfl g3 rfl 29 ⟨[.slice B0_2 (layS (layS l (s, d, o, b, D)) (s, d, o, b, (2 * D + 1))).length d0_2, .slice B1_2 (layS (layS l (s, d, o, b, D)) (s, d, o, b, (2 * D + 1))).length d1_2]⟩ (0, 0) _ C3_2.out Try.underlying29 rfl rfl ?_
          go_wp2_with ((with_reducible refine gate_store (t := 29) (p := 6) rfl ?_); refine stop_here ?_)
          refine ⟨?_⟩
          refine wpList_store_mid rfl 29 (.tmp 6) (.tmp 29) rfl g6 0 ⟨[.slice B0_2 (layS (layS l (s, d, o, b, D)) (s, d, o, b, (2 * D + 1))).length d0_2, .slice B1_2 (layS (layS l (s, d, o, b, D)) (s, d, o, b, (2 * D + 1))).length d1_2]⟩ rfl rfl (by have h := box_there C6_2.out; exact h) rfl (two_one _ _ _ _ _ _) ?_
          have BF := Aside0.mk (box_put [.slice B0_2 (layS (layS l (s, d, o, b, D)) (s, d, o, b, (2 * D + 1))).length d0_2, .slice B1_2 (layS (layS l (s, d, o, b, D)) (s, d, o, b, (2 * D + 1))).length d1_2] C6_2.out rfl)
          have FF := Aside0.mk (Frame.of_setCells q2 g6 0 [.slice B0_2 (layS (layS l (s, d, o, b, D)) (s, d, o, b, (2 * D + 1))).length d0_2, .slice B1_2 (layS (layS l (s, d, o, b, D)) (s, d, o, b, (2 * D + 1))).length d1_2])
          have RF := Aside0.mk (S2.out.keep FF.out (fun k hk e => hk.elim (fun h => by have := L6.out; omega) (fun h => h.2.2 e)))
          have HF := Aside0.mk (below_frame K2.out FF.out K2.out.size (fun k e => by rw [e]; exact L6.out))
          obtain ⟨wf, hwf⟩ : ∃ wf, q2.setCells g6 0 [.slice B0_2 (layS (layS l (s, d, o, b, D)) (s, d, o, b, (2 * D + 1))).length d0_2, .slice B1_2 (layS (layS l (s, d, o, b, D)) (s, d, o, b, (2 * D + 1))).length d1_2] = wf := ⟨_, rfl⟩
          have ef : q2.setCells g6 0 (⟨[.slice B0_2 (layS (layS l (s, d, o, b, D)) (s, d, o, b, (2 * D + 1))).length d0_2, .slice B1_2 (layS (layS l (s, d, o, b, D)) (s, d, o, b, (2 * D + 1))).length d1_2]⟩ : Array Value).toList = wf := hwf
          rw [ef]
          rw [hwf] at BF RF HF
          clear hwf ef FF
          go_wp2
          refine bodyPost_ret (results_cell_row rfl _ _ g6 29 ⟨[.slice B0_2 (layS (layS l (s, d, o, b, D)) (s, d, o, b, (2 * D + 1))).length d0_2, .slice B1_2 (layS (layS l (s, d, o, b, D)) (s, d, o, b, (2 * D + 1))).length d1_2]⟩ (0, 0) _ rfl BF.out Try.underlying29 rfl (by kernel_rfl)) rfl ⟨⟨_, _, rfl, ?_⟩, HF.out⟩
          show RefIs _ _ _ _ (layS (layS l (s, d, o, b, delayS t)) (s, d, o, b, 2 * delayS t + 1))
          rw [HD.out]
          exact RF.out.mono (fun k hk => hk.elim (fun h => .inl h.1) (fun h => .inr h.1))
end Go.Proofs.Ytaciokdgoogpiaa.NetT

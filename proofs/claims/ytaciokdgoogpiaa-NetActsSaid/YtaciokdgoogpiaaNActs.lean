/- Proved: the law NetActs; conditions: the theorems' own premises. -/
import Derived.Test.YtaciokdgoogpiaaNOpen
namespace Go.Proofs.Ytaciokdgoogpiaa.NetT
open Go.RowKit Go.Proofs.Ytaciokdgoogpiaa.YNet Go.Proofs.YtaciokdgoogpiaaW.PrintWords Go.Proofs.YtaciokdgoogpiaaW.PrintLast Go.Proofs.YtaciokdgoogpiaaW.PrintMore
set_option linter.unusedVariables false
set_option linter.unusedSimpArgs false
/-- The program's air and the reference's, beside each other. -/
structure Both (w0 w : World) (base g g4 : Nat) (v v0 v1 : Value) (l : List Say) : Prop where
  air : AirIs w base g v l
  blk : w.heap[g4]? = some (.cells ⟨[v0, v1]⟩ 29 (0, 0))
  ref : ∃ ok : Nat → Prop, RefIs w ok v0 v1 l ∧ (∀ k, k < w0.heap.size → ok k) ∧ ∀ k, ok k → ¬ AirFoot g v k ∧ k ≠ g4 ∧ k < w.heap.size
  below : Below w0.heap.size w0 w
  sizes : ∀ x ∈ l, x.2.2.2.1.length ≤ 300
theorem Both.mono_below {w0 w w1 : World} {base g g4 : Nat} {v v0 v1 : Value} {l : List Say} (h : Both w0 w base g g4 v v0 v1 l) (hb : Below w.heap.size w w1) : Both w0 w1 base g g4 v v0 v1 l := by
  obtain ⟨ok, h1, h2, h3⟩ := h.ref
  exact ⟨h.air.below hb, blk_below h.blk hb, ⟨ok, h1.below hb, h2, fun k hk => ⟨(h3 k hk).1, (h3 k hk).2.1, Nat.lt_of_lt_of_le (h3 k hk).2.2 hb.size⟩⟩, below_step h.below hb, h.sizes⟩
theorem four_range {w : World} {g o : Nat} {a b c d : Value} (h1 : w.cell? ⟨g, o + 1, none⟩ = some a) (h2 : w.cell? ⟨g, o + 2, none⟩ = some b) (h3 : w.cell? ⟨g, o + 3, none⟩ = some c) (h4 : w.cell? ⟨g, o + 4, none⟩ = some d) : w.rangeAt g (o + 1) [a, b, c, d] := by
  intro j u hj
  rcases j with _ | _ | _ | _ | j
  · simp at hj; subst hj; exact h1
  · simp at hj; subst hj; exact h2
  · simp at hj; subst hj; exact h3
  · simp at hj; subst hj; exact h4
  · simp at hj
theorem three_range {w : World} {g o : Nat} {a b c : Value} (h1 : w.cell? ⟨g, o + 5, none⟩ = some a) (h2 : w.cell? ⟨g, o + 6, none⟩ = some b) (h3 : w.cell? ⟨g, o + 7, none⟩ = some c) : w.rangeAt g (o + 5) [a, b, c] := by
  intro j u hj
  rcases j with _ | _ | _ | j
  · simp at hj; subst hj; exact h1
  · simp at hj; subst hj; exact h2
  · simp at hj; subst hj; exact h3
  · simp at hj
theorem range_keep {w w1 : World} {g o : Nat} {cs : List Value} {S : Nat → Prop} (h : w.rangeAt g o cs) (hf : Frame w w1 S) (hn : ¬ S g) : w1.rangeAt g o cs := fun j u hj => hf.cell (h j u hj) hn
theorem left_sizes {l : List Say} (h : ∀ x ∈ l, x.2.2.2.1.length ≤ 300) : ∀ x ∈ leftS l, x.2.2.2.1.length ≤ 300 := by
  intro x hx
  unfold leftS keptS at hx
  obtain ⟨y, hy, rfl⟩ := List.mem_map.1 hx
  exact h y (List.mem_filter.1 hy).1
theorem gone_sizes {l : List Say} (h : ∀ x ∈ l, x.2.2.2.1.length ≤ 300) : ∀ x ∈ goneS l, x.2.2.2.1.length ≤ 300 := fun x hx => h x (List.mem_filter.1 hx).1
theorem lay_sizes {l : List Say} {y : Say} (h : ∀ x ∈ l, x.2.2.2.1.length ≤ 300) (hy : y.2.2.2.1.length ≤ 300) : ∀ x ∈ layS l y, x.2.2.2.1.length ≤ 300 := by
  unfold layS
  split
  · intro x hx
    rcases List.mem_append.1 hx with hx | hx
    · exact h x hx
    · obtain rfl := List.mem_singleton.1 hx
      exact hy
  · exact h
theorem throw_sizes {l : List Say} (h : ∀ x ∈ l, x.2.2.2.1.length ≤ 300) (s : ByteArray) (d : Int) (o : ByteArray) (b : List Int) (lost twice : Bool) (t : Int) (hb : b.length ≤ 300) : ∀ x ∈ throwS l s d o b lost twice t, x.2.2.2.1.length ≤ 300 := by
  unfold throwS
  split
  · exact h
  · split
    · exact lay_sizes (lay_sizes h hb) hb
    · exact lay_sizes h hb
theorem bytesC {w : World} {A : Option Addr} {l : List Int} (h : Kd.C (Kd.int .u8) w A l.length l) : Bytes w A l := by
  intro hp
  obtain ⟨ad, e, _⟩ := Kd.at_int h 0 (by omega) (by omega)
  refine ⟨ad, e, fun j u hu => ?_⟩
  unfold nums at hu
  rw [List.getElem?_map] at hu
  have hj : j < l.length := by
    by_cases hj : j < l.length
    · exact hj
    · rw [List.getElem?_eq_none (by omega)] at hu; cases hu
  obtain ⟨ad', e', hc⟩ := Kd.at_int h (j : Int) (by omega) (by omega)
  rw [e] at e'
  injection e' with e'
  subst e'
  rw [List.getElem?_eq_getElem hj] at hu
  injection hu with hu
  rw [Int.toNat_natCast] at hc
  rw [hc, ← hu]
  unfold rd
  rw [Int.toNat_natCast, List.getD_eq_getElem?_getD, List.getElem?_eq_getElem hj]
  rfl
theorem Came.same {w : World} {B base : Nat} {e : Ending} {l : List Say} (h : Came w B base e l) (hl : ∀ x ∈ l, x.2.2.2.1.length ≤ 300) : ∃ A c, e = .returned (.slice A (l.map mailOf).length c) ∧ (l.map mailOf).length ≤ c ∧ Kd.C k32 w A (l.map mailOf).length (l.map mailOf) := by
  obtain ⟨vo, gs, rfl, hs, hq, hf⟩ := h
  obtain ⟨Av, cv, rfl, hle⟩ := q_slice hq
  have e1 : (l.map mailOf).length = gs.length := by rw [List.length_map, ← hs, List.length_map]
  rw [e1]
  have h1 := ml_reads hq hf (fun f hm => by
    have := hl f.say (by rw [← hs]; exact List.mem_map.2 ⟨f, hm, rfl⟩)
    have h2 : f.b.length ≤ 300 := this
    omega)
  rw [hs] at h1
  exact ⟨Av, cv, rfl, hle, h1⟩
theorem AirIs.drewN {w : World} {base g : Nat} {v : Value} {l : List Say} (h : AirIs w base g v l) (n : Nat) : AirIs (w.drewN n) base g v l := h.below (pw_below_drewN (Below.refl _ _) n)
set_option maxHeartbeats 4000000 in
set_option maxRecDepth 100000 in
theorem acts_law (A : Option Addr) (c : Nat) (acts : List ActD) (w : World) (hA : ActsAt w A acts) (hl : acts.length ≤ 9223372036854775807) :
    Calls Try.prog 3 #[.slice A acts.length c] w fun e w' => e = .returned (.bool true) ∧ Below w.heap.size w w' := by
  have HA := Aside0.mk hA
  clear hA
  go_enter Try.func3, Try.ntmps3
  go_wp2_with (go_at_call 8; refine stop_here ?_)
  refine ⟨?_⟩
  refine (awake_calls w).mono ?_
  rintro e w2 ⟨rfl, hb⟩
  have B2 := Aside0.mk hb
  clear hb
  by_cases hn : acts.length ≤ 300
  · have l1 : ¬ 300 < (acts.length : Int) := by omega
    go_wp2_with (go_at_call 9; refine stop_here ?_)
    refine ⟨?_⟩
    refine (new_is w2).mono ?_
    rintro e w3 ⟨g, rfl, hg, hA, hb⟩
    have A3 := Aside0.mk hA
    have G3 := Aside0.mk hg
    have W2 := Aside0.mk (show w.heap.size ≤ w2.heap.size from B2.out.size)
    have B3 := Aside0.mk (below_step B2.out hb)
    clear hA hg hb B2
    go_wp2_with ((with_reducible refine gate_dst (N := 4) rfl ?_); refine stop_here ?_)
    refine ⟨?_⟩
    refine box_event rfl (N := 4) rfl (cs := ⟨[.slice none 0 0, .slice none 0 0]⟩) (t := 29) ?hr4 ?_
    case hr4 => first | (go_simp; done) | (go_simp; rfl)
    intro g4 hg4 w4 hbox hb
    have L4 := Aside0.mk (show w3.heap.size ≤ g4 by rw [hg4]; exact Nat.le_refl _)
    have D4 : Aside0 (Both w w4 w2.heap.size g g4 (.slice none 0 0) (.slice none 0 0) (.slice none 0 0) []) := ⟨⟨A3.out.below hb, hbox, ⟨fun k => k < w.heap.size, ⟨Kd.V_nil _ _ _ _ _, Kd.V_nil _ _ _ _ _⟩, fun k hk => hk, fun k hk => ⟨fun hf => by
      have h1 := A3.out.foot G3.out k hf
      have := W2.out
      omega, by have h1 := B3.out.size; omega, by have h1 := B3.out.size; have h2 := hb.size; omega⟩⟩, below_step B3.out hb, fun x hx => by simp at hx⟩⟩
    have Z4 := Aside0.mk (show w2.heap.size ≤ w4.heap.size from by
      have h1 := A3.out.foot_lt g (.inl rfl)
      have h2 := G3.out
      have h3 := hb.size
      omega)
    have LW := Aside0.mk (show w.heap.size ≤ g4 from Nat.le_trans B3.out.size L4.out)
    clear hg4 hbox hb A3 B3
    go_upto_region 8 with (fail)
    go_loopg [5] acts.length (fun kq v5 w' => ∃ (i : Nat) (v v0 v1 : Value) (l : List Say), i ≤ acts.length ∧ v5 = .int .i64 (i : Int) ∧ Aside0 (kq = acts.length - i) ∧ Aside0 (Both w w' w2.heap.size g g4 v v0 v1 l) ∧ Aside0 (w2.heap.size ≤ w'.heap.size))
    case atStart => exact ⟨0, _, _, _, [], by omega, rfl, ⟨rfl⟩, D4, Z4⟩
    case round =>
      clear D4 Z4
      obtain ⟨i, v, v0, v1, l, hi, rfl, HK, D4, Z4⟩ := hrel
      have zi : 0 ≤ (i : Int) := by omega
      by_cases hlt : i < acts.length
      · have lt : (i : Int) < (acts.length : Int) := by omega
        obtain ⟨gr, off, hAr, hrow⟩ := HA.out.2 (by omega)
        subst hAr
        have hx := HA.out.1 _ (List.getElem_mem hlt)
        have hrow := hrow i hlt
        obtain ⟨x, hxe⟩ : ∃ x, acts[i] = x := ⟨_, rfl⟩
        rw [hxe] at hx hrow
        obtain ⟨tick, s, d, o, Ab, cb, b, lost, twice, t⟩ := x
        have FB := Frame.of_below D4.out.below
        have k0 := FB.cell (hrow 0 _ rfl) (fun h => h)
        have k1 := FB.cell (hrow 1 _ rfl) (fun h => h)
        have k2 := FB.cell (hrow 2 _ rfl) (fun h => h)
        have k3 := FB.cell (hrow 3 _ rfl) (fun h => h)
        have k4 := FB.cell (hrow 4 _ rfl) (fun h => h)
        have k5 := FB.cell (hrow 5 _ rfl) (fun h => h)
        have k6 := FB.cell (hrow 6 _ rfl) (fun h => h)
        have k7 := FB.cell (hrow 7 _ rfl) (fun h => h)
        have HX := Aside0.mk hx
        have HROW := Aside0.mk hrow
        have HLT := Aside0.mk hlt
        clear hx hrow hxe FB
        by_cases h1 : 300 < b.length
        · have lt1 : 300 < (b.length : Int) := by omega
          go_wp2
          go_ret
          exact ⟨rfl, D4.out.below⟩
        · have lt1 : ¬ 300 < (b.length : Int) := by omega
          by_cases h2 : 100 < s.size
          · have lt2 : 100 < (s.size : Int) := by omega
            go_wp2
            go_ret
            exact ⟨rfl, D4.out.below⟩
          · have lt2 : ¬ 100 < (s.size : Int) := by omega
            replace k0 : wr.cell? ⟨gr, off + i * 8, none⟩ = some (.bool tick) := k0
            go_upto_if 47 with (fail)
            go_cut [5] (fun v5 w' => v5 = .int .i64 (i : Int) ∧ ∃ (v' v0' v1' : Value) (l' : List Say), Aside0 (Both w w' w2.heap.size g g4 v' v0' v1' l') ∧ Aside0 (w2.heap.size ≤ w'.heap.size))
            case first =>
              obtain ⟨ok, hR, hok0, hok⟩ := D4.out.ref
              have R4 := Aside0.mk hR
              have OK0 := Aside0.mk hok0
              have OK := Aside0.mk hok
              have A4 := Aside0.mk D4.out.air
              have K4 := Aside0.mk D4.out.blk
              have B4 := Aside0.mk D4.out.below
              have SZ := Aside0.mk D4.out.sizes
              have FL := Aside0.mk D4.out.air.foot_lt
              have LL := Aside0.mk D4.out.air.len
              clear hR hok0 hok
              cases tick with
              | true =>
                go_wp2_with ((with_reducible refine gate_dst (N := 49) rfl ?_); refine stop_here ?_)
                refine ⟨?_⟩
                refine wpList_load_row rfl 29 (.tmp 4) rfl g4 rfl 29 ⟨[v0, v1]⟩ (0, 0) _ K4.out Try.underlying29 rfl rfl ?_
                go_wp2_with (go_at_call 10; refine stop_here ?_)
                refine ⟨?_⟩
                refine (rtick_calls _ ok v0 v1 l R4.out A4.out.len A4.out.ok).mono ?_
                rintro e w5 ⟨⟨u0, u1, u2, rfl, hR, hV⟩, hb⟩
                have OK2 := Aside0.mk (show ∀ k, (ok k ∨ wr.heap.size ≤ k) ∧ k < w5.heap.size → ¬ AirFoot g v k ∧ k ≠ g4 ∧ k < w5.heap.size from fun k hk => by
                  rcases hk.1 with h | h
                  · exact ⟨(OK.out k h).1, (OK.out k h).2.1, hk.2⟩
                  · exact ⟨fun hf => by have := FL.out k hf; omega, fun e => by have := blk_lt K4.out; omega, hk.2⟩)
                have R5 := Aside0.mk hR.old
                have V5 := Aside0.mk (Kd.V_bound hV)
                have A5 := Aside0.mk (A4.out.below hb)
                have K5 := Aside0.mk (blk_below K4.out hb)
                have B5 := Aside0.mk (below_step B4.out hb)
                have Z5 := Aside0.mk (Nat.le_trans Z4.out hb.size)
                have S5 := Aside0.mk hb.size
                have LWA := Aside0.mk (show w.heap.size ≤ w5.heap.size from B5.out.size)
                clear hR hV hb R4 A4 K4 B4 Z4 D4 k0 k1 k2 k3 k4 k5 k6 k7
                obtain ⟨B0, d0, B1, d1, hu0, hu1⟩ := R5.out.slices
                subst hu0
                subst hu1
                go_wp2_with ((with_reducible refine gate_dst (N := 6) rfl ?_); refine stop_here ?_)
                refine ⟨?_⟩
                refine box_event rfl (N := 6) rfl (cs := ⟨[.slice none 0 0, .slice none 0 0]⟩) (t := 29) ?hr6 ?_
                case hr6 => first | (go_simp; done) | (go_simp; rfl)
                intro g6 hg6 w6 hbox hb
                have N6 := Aside0.mk (show g6 ≠ g4 by rw [hg6]; have := blk_lt K5.out; omega)
                have L6 := Aside0.mk (show w5.heap.size ≤ g6 by rw [hg6]; exact Nat.le_refl _)
                have X6 := Aside0.mk hbox
                have R6 := Aside0.mk (R5.out.below hb)
                have V6 := Aside0.mk (Kd.V_below V5.out hb)
                have A6 := Aside0.mk (A5.out.below hb)
                have K6 := Aside0.mk (blk_below K5.out hb)
                have B6 := Aside0.mk (below_step B5.out hb)
                have Z6 := Aside0.mk (Nat.le_trans Z5.out hb.size)
                have S6 := Aside0.mk hb.size
                clear hg6 hbox hb R5 V5 A5 K5 B5 Z5
                go_wp2_with ((with_reducible refine gate_store (t := 29) (p := 6) rfl ?_); refine stop_here ?_)
                refine ⟨?_⟩
                refine wpList_store_mid rfl 29 (.tmp 6) (.tmp 51) rfl g6 0 ⟨[.slice B0 (leftS l).length d0, .slice B1 (leftS l).length d1]⟩ rfl rfl (by have h := box_there X6.out; exact h) rfl (two_one _ _ _ _ _ _) ?_
                have FS := Aside0.mk (Frame.of_setCells w6 g6 0 [.slice B0 (leftS l).length d0, .slice B1 (leftS l).length d1])
                have X7 := Aside0.mk (box_put [.slice B0 (leftS l).length d0, .slice B1 (leftS l).length d1] X6.out rfl)
                have R7 := Aside0.mk (R6.out.keep FS.out (fun k hk e => by have := (OK2.out k hk).2.2; have := L6.out; omega))
                have V7 := Aside0.mk (Kd.V_step V6.out (fun k hk hlt => FS.out.block k hlt (fun e => by have := (OK2.out k hk).2.2; have := L6.out; omega)))
                have A7 := Aside0.mk (A6.out.keepT FS.out (ty := 29) (by decide) (by decide) (by decide) (fun k e => by have e' : k = g6 := e; exact ⟨_, e' ▸ X6.out⟩))
                have K7 := Aside0.mk (FS.out.blk K6.out (fun e => N6.out e.symm))
                have B7 := Aside0.mk (below_frame B6.out FS.out B6.out.size (fun k e => by rw [e]; have h1 := L6.out; have h2 := B6.out.size; have h3 := blk_lt X6.out; have h4 := LWA.out; omega))
                have Z7 := Aside0.mk (Nat.le_trans Z6.out FS.out.size)
                have S7 := Aside0.mk (Nat.le_trans S6.out FS.out.size)
                obtain ⟨w7, hw7⟩ : ∃ w7, w6.setCells g6 0 [.slice B0 (leftS l).length d0, .slice B1 (leftS l).length d1] = w7 := ⟨_, rfl⟩
                have e7 : w6.setCells g6 0 (⟨[.slice B0 (leftS l).length d0, .slice B1 (leftS l).length d1]⟩ : Array Value).toList = w7 := hw7
                rw [e7]
                rw [hw7] at X7 R7 V7 A7 K7 B7 Z7 S7
                clear hw7 e7 FS X6 R6 V6 A6 K6 B6 Z6
                go_wp2_with ((with_reducible refine gate_dst (N := 53) rfl ?_); refine stop_here ?_)
                refine ⟨?_⟩
                refine wpList_load_row rfl 29 (.tmp 6) rfl g6 rfl 29 ⟨[.slice B0 (leftS l).length d0, .slice B1 (leftS l).length d1]⟩ (0, 0) _ X7.out Try.underlying29 rfl rfl ?_
                go_wp2_with ((with_reducible refine gate_store (t := 29) (p := 4) rfl ?_); refine stop_here ?_)
                refine ⟨?_⟩
                refine wpList_store_mid rfl 29 (.tmp 4) (.tmp 53) rfl g4 0 ⟨[.slice B0 (leftS l).length d0, .slice B1 (leftS l).length d1]⟩ rfl rfl (by have h := box_there K7.out; exact h) rfl (two_one _ _ _ _ _ _) ?_
                have FS := Aside0.mk (Frame.of_setCells w7 g4 0 [.slice B0 (leftS l).length d0, .slice B1 (leftS l).length d1])
                have K8 := Aside0.mk (box_put [.slice B0 (leftS l).length d0, .slice B1 (leftS l).length d1] K7.out rfl)
                have R8 := Aside0.mk (R7.out.keep FS.out (fun k hk e => (OK2.out k hk).2.1 e))
                have V8 := Aside0.mk (Kd.V_step V7.out (fun k hk hlt => FS.out.block k hlt (fun e => (OK2.out k hk).2.1 e)))
                have A8 := Aside0.mk (A7.out.keepT FS.out (ty := 29) (by decide) (by decide) (by decide) (fun k e => by have e' : k = g4 := e; exact ⟨_, e' ▸ K7.out⟩))
                have B8 := Aside0.mk (below_frame B7.out FS.out B7.out.size (fun k e => by rw [e]; exact LW.out))
                have Z8 := Aside0.mk (Nat.le_trans Z7.out FS.out.size)
                have S8 := Aside0.mk (Nat.le_trans S7.out FS.out.size)
                obtain ⟨w8, hw8⟩ : ∃ w8, w7.setCells g4 0 [.slice B0 (leftS l).length d0, .slice B1 (leftS l).length d1] = w8 := ⟨_, rfl⟩
                have e8 : w7.setCells g4 0 (⟨[.slice B0 (leftS l).length d0, .slice B1 (leftS l).length d1]⟩ : Array Value).toList = w8 := hw8
                rw [e8]
                rw [hw8] at R8 V8 A8 K8 B8 Z8 S8
                clear hw8 e8 FS X7 R7 V7 A7 K7 B7 Z7
                go_wp2_with (go_at_call 12; refine stop_here ?_)
                refine ⟨?_⟩
                refine (tick_is _ w2.heap.size g v l A8.out).mono ?_
                rintro e w9 ⟨hC, v9, hA, hV, hF⟩
                obtain ⟨Ac, cc, rfl, hcc, hCC⟩ := hC.same (gone_sizes SZ.out)
                have A9 := Aside0.mk hA
                have R9 := Aside0.mk (R8.out.keep hF (fun k hk => (OK2.out k hk).1))
                have V9 := Aside0.mk (Kd.V_step V8.out (fun k hk hlt => hF.block k hlt (OK2.out k hk).1))
                have K9 := Aside0.mk (hF.blk K8.out (A8.out.typed K8.out (by decide) (by decide)))
                have B9 := Aside0.mk (below_air B8.out hF A8.out G3.out W2.out B8.out.size)
                have Z9 := Aside0.mk (Nat.le_trans Z8.out hF.size)
                have OW := Aside0.mk hV
                have S9 := Aside0.mk (Nat.le_trans S8.out hF.size)
                have CC := Aside0.mk hCC
                have CL := Aside0.mk hcc
                clear hC hA hV hF hCC hcc R8 V8 A8 K8 B8 Z8
                obtain ⟨A2, c2, hu2⟩ := Kd.V_slice V9.out
                subst hu2
                have V9r := Kd.V_reads' V9.out
                have HS := Aside0.mk (same_true w9 Ac A2 cc c2 ((goneS l).map mailOf) CC.out V9r.2.2 CL.out V9r.2.1 (by
                  rw [List.length_map]
                  have h2 : (goneS l).length ≤ l.length := List.length_filter_le _ _
                  have h3 := LL.out
                  omega) (fun x hx => by
                  obtain ⟨y, hy, rfl⟩ := List.mem_map.1 hx
                  have h1 : y.2.2.2.1.length ≤ 300 := gone_sizes SZ.out y hy
                  show y.2.2.2.1.length ≤ _
                  omega))
                clear V9r
                go_wp2_with (go_at_call 11; refine stop_here ?_)
                refine ⟨?_⟩
                have HS' := HS.out
                rw [List.length_map] at HS'
                with_reducible refine HS'.mono ?_
                clear HS'
                rintro e wA ⟨rfl, hb⟩
                have DA : Aside0 (Both w wA w2.heap.size g g4 v9 (.slice B0 (leftS l).length d0) (.slice B1 (leftS l).length d1) (leftS l)) := ⟨⟨A9.out.below hb, blk_below K9.out hb, ⟨_, R9.out.below hb, fun k hk => ⟨.inl (OK0.out k hk), by have h1 := (OK.out k (OK0.out k hk)).2.2; have h2 := S5.out; omega⟩, fun k hk => ⟨fun hf => by
                  rcases hf with hf | hf
                  · exact (OK2.out k hk).1 (.inl hf)
                  · exact (OK2.out k hk).1 (.inr (by rw [hf, OW.out])), (OK2.out k hk).2.1, by have h1 := (OK2.out k hk).2.2; have h2 := S9.out; have h3 := hb.size; omega⟩⟩, below_step B9.out hb, left_sizes SZ.out⟩⟩
                have ZA := Aside0.mk (Nat.le_trans Z9.out hb.size)
                clear hb A9 R9 V9 K9 B9 Z9
                go_wp2
                go_meet
                exact ⟨rfl, v9, _, _, _, DA, ZA⟩
              | false =>
                obtain ⟨B0, d0, B1, d1, hu0, hu1⟩ := R4.out.slices
                subst hu0
                subst hu1
                have xr : wr.rangeAt gr (off + i * 8 + 1) [.string s, .int .i64 d, .string o, .slice Ab b.length cb] := four_range k1 k2 k3 k4
                have xs : wr.rangeAt gr (off + i * 8 + 5) [.bool lost, .bool twice, .int .i64 t] := three_range k5 k6 k7
                have NGR := Aside0.mk (show gr < w.heap.size from by
                  have := World.block_lt_of_cell? w _ (HROW.out 0 _ rfl)
                  exact this)
                have HBy := Aside0.mk (bytesC HX.out.bytes)
                have HC := Aside0.mk HX.out.cap
                have A5 := Aside0.mk (A4.out.below (below_drew1 (Below.refl wr.heap.size wr)))
                have R5 := Aside0.mk (R4.out.below (below_drew1 (Below.refl wr.heap.size wr)))
                have K5 := Aside0.mk (blk_drew K4.out)
                have B5 := Aside0.mk (below_drew1 B4.out)
                have Z5 := Aside0.mk (show w2.heap.size ≤ wr.drew.heap.size from Z4.out)
                clear R4 A4 K4 B4 Z4 D4
                go_wp2
                refine start_ (n := 12) (S := fun w' => w'.rangeAt gr (off + i * 8 + 1) [.string s, .int .i64 d, .string o, .slice Ab b.length cb] ∧ w'.rangeAt gr (off + i * 8 + 5) [.bool lost, .bool twice, .int .i64 t]) (ds := []) #[false, false, false, false, false, false, false, false, false, false, false, false] (by kernel_rfl) rfl rfl ⟨xr, xs⟩ (fun hHeld => ?_)
                refine pure_ (i := 0) (N := some 59) (v := ?_) (a' := ?_) #[true, false, false, false, false, false, false, false, false, false, false, false] rfl rfl (by kernel_rfl) (fun _ _ _ h => h) (Or.inl ⟨by rfl, ?_⟩) ?_ ?_
                rotate_left
                · intro w'
                  go_simp
                  with_reducible rfl
                rotate_left
                · simp only [Act.put, List.setIfInBounds_toArray, List.set_cons_zero, List.set_cons_succ, i64_w, i32_w]
                  rfl
                refine pure_ (i := 1) (N := some 60) (v := ?_) (a' := ?_) #[true, true, false, false, false, false, false, false, false, false, false, false] rfl rfl (by kernel_rfl) (fun _ _ _ h => h) (Or.inl ⟨by rfl, ?_⟩) ?_ ?_
                rotate_left
                · intro w'
                  go_simp
                  with_reducible rfl
                rotate_left
                · simp only [Act.put, List.setIfInBounds_toArray, List.set_cons_zero, List.set_cons_succ, i64_w, i32_w]
                  rfl
                refine pure_ (i := 2) (N := some 61) (v := ?_) (a' := ?_) #[true, true, true, false, false, false, false, false, false, false, false, false] rfl rfl (by kernel_rfl) (fun _ _ _ h => h) (Or.inl ⟨by rfl, ?_⟩) ?_ ?_
                rotate_left
                · intro w'
                  go_simp
                  with_reducible rfl
                rotate_left
                · simp only [Act.put, List.setIfInBounds_toArray, List.set_cons_zero, List.set_cons_succ, i64_w, i32_w]
                  rfl
                refine pure_ (i := 3) (N := some 62) (v := ?_) (a' := ?_) #[true, true, true, true, false, false, false, false, false, false, false, false] rfl rfl (by kernel_rfl) (fun _ _ _ h => h) (Or.inl ⟨by rfl, ?_⟩) ?_ ?_
                rotate_left
                · intro w'
                  go_simp
                  with_reducible rfl
                rotate_left
                · simp only [Act.put, List.setIfInBounds_toArray, List.set_cons_zero, List.set_cons_succ, i64_w, i32_w]
                  rfl
                refine pure_ (i := 4) (N := some 63) (v := ?_) (a' := ?_) #[true, true, true, true, true, false, false, false, false, false, false, false] rfl rfl (by kernel_rfl) (fun _ _ _ h => h) (Or.inl ⟨by rfl, ?_⟩) ?_ ?_
                rotate_left
                · intro w'
                  go_simp
                  with_reducible rfl
                rotate_left
                · simp only [Act.put, List.setIfInBounds_toArray, List.set_cons_zero, List.set_cons_succ, i64_w, i32_w]
                  rfl
                refine pure_ (i := 6) (N := some 65) (v := ?_) (a' := ?_) #[true, true, true, true, true, false, true, false, false, false, false, false] rfl rfl (by kernel_rfl) (fun _ _ _ h => h) (Or.inl ⟨by rfl, ?_⟩) ?_ ?_
                rotate_left
                · intro w'
                  go_simp
                  with_reducible rfl
                rotate_left
                · simp only [Act.put, List.setIfInBounds_toArray, List.set_cons_zero, List.set_cons_succ, i64_w, i32_w]
                  rfl
                refine pure_ (i := 7) (N := some 66) (v := ?_) (a' := ?_) #[true, true, true, true, true, false, true, true, false, false, false, false] rfl rfl (by kernel_rfl) (fun _ _ _ h => h) (Or.inl ⟨by rfl, ?_⟩) ?_ ?_
                rotate_left
                · intro w'
                  go_simp
                  with_reducible rfl
                rotate_left
                · simp only [Act.put, List.setIfInBounds_toArray, List.set_cons_zero, List.set_cons_succ, i64_w, i32_w]
                  rfl
                refine pure_ (i := 8) (N := some 67) (v := ?_) (a' := ?_) #[true, true, true, true, true, false, true, true, true, false, false, false] rfl rfl (by kernel_rfl) (fun _ _ _ h => h) (Or.inl ⟨by rfl, ?_⟩) ?_ ?_
                rotate_left
                · intro w'
                  go_simp
                  with_reducible rfl
                rotate_left
                · simp only [Act.put, List.setIfInBounds_toArray, List.set_cons_zero, List.set_cons_succ, i64_w, i32_w]
                  rfl
                refine pure_ (i := 9) (N := some 68) (v := ?_) (a' := ?_) #[true, true, true, true, true, false, true, true, true, true, false, false] rfl rfl (by kernel_rfl) (fun _ _ _ h => h) (Or.inl ⟨by rfl, ?_⟩) ?_ ?_
                rotate_left
                · intro w'
                  go_simp
                  with_reducible rfl
                rotate_left
                · simp only [Act.put, List.setIfInBounds_toArray, List.set_cons_zero, List.set_cons_succ, i64_w, i32_w]
                  rfl
                refine take_ (i := 5) (N := some 64) (v := ?_) (a' := ?_) #[true, true, true, true, true, true, true, true, true, true, false, false] rfl rfl (by kernel_rfl) (fun _ _ _ h => h) (Or.inl ⟨by rfl, ?_⟩) hHeld ?_ ?_
                rotate_left
                · rintro w' ⟨s0, s1⟩
                  refine (load_mid_run 32 (.tmp 63) ?q1 gr (off + i * 8 + 1) ?q2 [.string s, .int .i64 d, .string o, .slice Ab b.length cb] _ s0 Try.underlying32 rfl rfl); rfl; rfl
                rotate_left
                · simp only [Act.put, List.setIfInBounds_toArray, List.set_cons_zero, List.set_cons_succ, i64_w, i32_w]
                  rfl
                refine take_ (i := 10) (N := some 69) (v := ?_) (a' := ?_) #[true, true, true, true, true, true, true, true, true, true, true, false] rfl rfl (by kernel_rfl) (fun _ _ _ h => h) (Or.inl ⟨by rfl, ?_⟩) hHeld ?_ ?_
                rotate_left
                · rintro w' ⟨s0, s1⟩
                  refine (load_mid_run 34 (.tmp 68) ?q3 gr (off + i * 8 + 5) ?q4 [.bool lost, .bool twice, .int .i64 t] _ s1 Try.underlying34 rfl rfl); rfl; rfl
                rotate_left
                · simp only [Act.put, List.setIfInBounds_toArray, List.set_cons_zero, List.set_cons_succ, i64_w, i32_w]
                  rfl
                refine one_ (i := 11) (N := some 70) #[true, true, true, true, true, true, true, true, true, true, true, true] rfl rfl (by kernel_rfl) (by decide) (fun K hK => ?_)
                refine goes_ Try.func13 (by kernel_rfl) rfl #[.pointer (some ⟨g, 0, none⟩), .agg #[.string s, .int .i64 d, .string o, .slice Ab b.length cb], .agg #[.bool lost, .bool twice, .int .i64 t]] (by rfl) rfl rfl (by simp only [List.map_toArray, List.map_cons, List.map_nil]; rfl) ?_
                with_reducible refine (throw_is _ w2.heap.size g v l s d o Ab cb b lost twice t A5.out (HBy.out.below B5.out) (fun hp ad e hf => by have h4 := A5.out.foot G3.out _ hf; have h5 := HBy.out.lt hp ad e; have := W2.out; omega) HC.out (by omega) Z5.out).mono ?_
                rintro e w6 ⟨rfl, v6, hA, hV, hF⟩
                refine ⟨_, rfl, ?_⟩
                have A6 := Aside0.mk hA
                have V6 := Aside0.mk hV
                have NA := Aside0.mk (show ¬ AirFoot g v gr from fun hf => by have h1 := A5.out.foot G3.out _ hf; have h2 := NGR.out; have := W2.out; omega)
                have R6 := Aside0.mk (R5.out.keep hF (fun k hk => (OK.out k hk).1))
                have K6 := Aside0.mk (hF.blk K5.out (A5.out.typed K5.out (by decide) (by decide)))
                have B6 := Aside0.mk (below_air B5.out hF A5.out G3.out W2.out B5.out.size)
                have Z6 := Aside0.mk (Nat.le_trans Z5.out hF.size)
                have S6 := Aside0.mk (show wr.heap.size ≤ w6.heap.size from hF.size)
                have xr6 := range_keep (w := wr.drew) xr hF NA.out
                have xs6 := range_keep (w := wr.drew) xs hF NA.out
                clear hA hV hF A5 R5 K5 B5 Z5
                refine hK.out _ _ ⟨xr6, xs6⟩ (fun hHeld => ?_)
                clear hK K
                refine norm_ (a' := ?_) ?_ ?_
                rotate_left
                · show Act.put _ (some 70) _ = _
                  simp only [Act.put, List.setIfInBounds_toArray, List.set_cons_zero, List.set_cons_succ, i64_w, i32_w]
                  rfl
                refine done_ (by kernel_rfl) ?_
                clear xr xs k0 k1 k2 k3 k4 k5 k6 k7
                have zw : w6.drew.heap.size = w6.heap.size := rfl
                have A7 := Aside0.mk (A6.out.below (below_drew1 (Below.refl w6.heap.size w6)))
                have R7 := Aside0.mk (R6.out.below (below_drew1 (Below.refl w6.heap.size w6)))
                have K7 := Aside0.mk (blk_drew K6.out)
                have B7 := Aside0.mk (below_drew1 B6.out)
                have Z7 := Aside0.mk (show w2.heap.size ≤ w6.drew.heap.size from Z6.out)
                have S7 := Aside0.mk (show wr.heap.size ≤ w6.drew.heap.size from S6.out)
                have kr : w6.drew.rangeAt g4 0 [.slice B0 l.length d0, .slice B1 l.length d1] := row_range K6.out
                clear A6 R6 K6 B6 Z6 S6 zw
                have HMV := Aside0.mk (show Kd.V (Kd.int .u8) 5 w6.drew 0 ok (.slice Ab b.length cb) b from Kd.V_mk HC.out (Kd.F_mono (Kd.F_below (Kd.C_F (Kd.heap_int .u8) HX.out.bytes) B7.out) (fun k hk => OK0.out k hk)))
                go_wp2
                refine start_ (n := 13) (S := fun w' => w'.rangeAt g4 0 [.slice B0 l.length d0, .slice B1 l.length d1] ∧ w'.rangeAt gr (off + i * 8 + 1) [.string s, .int .i64 d, .string o, .slice Ab b.length cb] ∧ w'.rangeAt gr (off + i * 8 + 5) [.bool lost, .bool twice, .int .i64 t]) (ds := [12]) #[false, false, false, false, false, false, false, false, false, false, false, false, false] (by kernel_rfl) rfl rfl ⟨kr, xr6, xs6⟩ (fun hHeld => ?_)
                refine pure_ (i := 1) (N := some 72) (v := ?_) (a' := ?_) #[false, true, false, false, false, false, false, false, false, false, false, false, false] rfl rfl (by kernel_rfl) (fun _ _ _ h => h) (Or.inl ⟨by rfl, ?_⟩) ?_ ?_
                rotate_left
                · intro w'
                  go_simp
                  with_reducible rfl
                rotate_left
                · simp only [Act.put, List.setIfInBounds_toArray, List.set_cons_zero, List.set_cons_succ, i64_w, i32_w]
                  rfl
                refine pure_ (i := 2) (N := some 73) (v := ?_) (a' := ?_) #[false, true, true, false, false, false, false, false, false, false, false, false, false] rfl rfl (by kernel_rfl) (fun _ _ _ h => h) (Or.inl ⟨by rfl, ?_⟩) ?_ ?_
                rotate_left
                · intro w'
                  go_simp
                  with_reducible rfl
                rotate_left
                · simp only [Act.put, List.setIfInBounds_toArray, List.set_cons_zero, List.set_cons_succ, i64_w, i32_w]
                  rfl
                refine pure_ (i := 3) (N := some 74) (v := ?_) (a' := ?_) #[false, true, true, true, false, false, false, false, false, false, false, false, false] rfl rfl (by kernel_rfl) (fun _ _ _ h => h) (Or.inl ⟨by rfl, ?_⟩) ?_ ?_
                rotate_left
                · intro w'
                  go_simp
                  with_reducible rfl
                rotate_left
                · simp only [Act.put, List.setIfInBounds_toArray, List.set_cons_zero, List.set_cons_succ, i64_w, i32_w]
                  rfl
                refine pure_ (i := 4) (N := some 75) (v := ?_) (a' := ?_) #[false, true, true, true, true, false, false, false, false, false, false, false, false] rfl rfl (by kernel_rfl) (fun _ _ _ h => h) (Or.inl ⟨by rfl, ?_⟩) ?_ ?_
                rotate_left
                · intro w'
                  go_simp
                  with_reducible rfl
                rotate_left
                · simp only [Act.put, List.setIfInBounds_toArray, List.set_cons_zero, List.set_cons_succ, i64_w, i32_w]
                  rfl
                refine pure_ (i := 6) (N := some 77) (v := ?_) (a' := ?_) #[false, true, true, true, true, false, true, false, false, false, false, false, false] rfl rfl (by kernel_rfl) (fun _ _ _ h => h) (Or.inl ⟨by rfl, ?_⟩) ?_ ?_
                rotate_left
                · intro w'
                  go_simp
                  with_reducible rfl
                rotate_left
                · simp only [Act.put, List.setIfInBounds_toArray, List.set_cons_zero, List.set_cons_succ, i64_w, i32_w]
                  rfl
                refine pure_ (i := 7) (N := some 78) (v := ?_) (a' := ?_) #[false, true, true, true, true, false, true, true, false, false, false, false, false] rfl rfl (by kernel_rfl) (fun _ _ _ h => h) (Or.inl ⟨by rfl, ?_⟩) ?_ ?_
                rotate_left
                · intro w'
                  go_simp
                  with_reducible rfl
                rotate_left
                · simp only [Act.put, List.setIfInBounds_toArray, List.set_cons_zero, List.set_cons_succ, i64_w, i32_w]
                  rfl
                refine pure_ (i := 8) (N := some 79) (v := ?_) (a' := ?_) #[false, true, true, true, true, false, true, true, true, false, false, false, false] rfl rfl (by kernel_rfl) (fun _ _ _ h => h) (Or.inl ⟨by rfl, ?_⟩) ?_ ?_
                rotate_left
                · intro w'
                  go_simp
                  with_reducible rfl
                rotate_left
                · simp only [Act.put, List.setIfInBounds_toArray, List.set_cons_zero, List.set_cons_succ, i64_w, i32_w]
                  rfl
                refine pure_ (i := 9) (N := some 80) (v := ?_) (a' := ?_) #[false, true, true, true, true, false, true, true, true, true, false, false, false] rfl rfl (by kernel_rfl) (fun _ _ _ h => h) (Or.inl ⟨by rfl, ?_⟩) ?_ ?_
                rotate_left
                · intro w'
                  go_simp
                  with_reducible rfl
                rotate_left
                · simp only [Act.put, List.setIfInBounds_toArray, List.set_cons_zero, List.set_cons_succ, i64_w, i32_w]
                  rfl
                refine take_ (i := 0) (N := some 71) (v := ?_) (a' := ?_) #[true, true, true, true, true, false, true, true, true, true, false, false, false] rfl rfl (by kernel_rfl) (fun _ _ _ h => h) (Or.inl ⟨by rfl, ?_⟩) hHeld ?_ ?_
                rotate_left
                · rintro w' ⟨s0, s1, s2⟩
                  refine (load_mid_run 29 (.tmp 4) ?q5 g4 0 ?q6 [.slice B0 l.length d0, .slice B1 l.length d1] _ s0 Try.underlying29 rfl rfl); rfl; rfl
                rotate_left
                · simp only [Act.put, List.setIfInBounds_toArray, List.set_cons_zero, List.set_cons_succ, i64_w, i32_w]
                  rfl
                refine take_ (i := 5) (N := some 76) (v := ?_) (a' := ?_) #[true, true, true, true, true, true, true, true, true, true, false, false, false] rfl rfl (by kernel_rfl) (fun _ _ _ h => h) (Or.inl ⟨by rfl, ?_⟩) hHeld ?_ ?_
                rotate_left
                · rintro w' ⟨s0, s1, s2⟩
                  refine (load_mid_run 32 (.tmp 75) ?q7 gr (off + i * 8 + 1) ?q8 [.string s, .int .i64 d, .string o, .slice Ab b.length cb] _ s1 Try.underlying32 rfl rfl); rfl; rfl
                rotate_left
                · simp only [Act.put, List.setIfInBounds_toArray, List.set_cons_zero, List.set_cons_succ, i64_w, i32_w]
                  rfl
                refine take_ (i := 10) (N := some 81) (v := ?_) (a' := ?_) #[true, true, true, true, true, true, true, true, true, true, true, false, false] rfl rfl (by kernel_rfl) (fun _ _ _ h => h) (Or.inl ⟨by rfl, ?_⟩) hHeld ?_ ?_
                rotate_left
                · rintro w' ⟨s0, s1, s2⟩
                  refine (load_mid_run 34 (.tmp 80) ?q9 gr (off + i * 8 + 5) ?qa [.bool lost, .bool twice, .int .i64 t] _ s2 Try.underlying34 rfl rfl); rfl; rfl
                rotate_left
                · simp only [Act.put, List.setIfInBounds_toArray, List.set_cons_zero, List.set_cons_succ, i64_w, i32_w]
                  rfl
                refine one_ (i := 11) (N := some 82) #[true, true, true, true, true, true, true, true, true, true, true, true, false] rfl rfl (by kernel_rfl) (by decide) (fun K hK => ?_)
                refine goes_ Try.func14 (by kernel_rfl) rfl #[.agg #[.slice B0 l.length d0, .slice B1 l.length d1], .agg #[.string s, .int .i64 d, .string o, .slice Ab b.length cb], .agg #[.bool lost, .bool twice, .int .i64 t]] (by rfl) rfl rfl (by simp only [List.map_toArray, List.map_cons, List.map_nil]; rfl) ?_
                with_reducible refine (rthrow_calls _ ok _ _ l s d o Ab cb b lost twice t R7.out HMV.out LL.out).mono ?_
                rintro e w8 ⟨⟨u0, u1, rfl, hR⟩, hb⟩
                refine ⟨_, rfl, ?_⟩
                have R8 := Aside0.mk hR.old
                have A8 := Aside0.mk (A7.out.below hb)
                have K8 := Aside0.mk (blk_below K7.out hb)
                have B8 := Aside0.mk (below_step B7.out hb)
                have Z8 := Aside0.mk (Nat.le_trans Z7.out hb.size)
                have S8 := Aside0.mk (Nat.le_trans S7.out hb.size)
                have xr8 := range_keep (w := w6.drew) xr6 (Frame.of_below hb) (fun h => h)
                have xs8 := range_keep (w := w6.drew) xs6 (Frame.of_below hb) (fun h => h)
                have kr8 := row_range K8.out
                have OK2 := Aside0.mk (show ∀ k, (ok k ∨ w6.drew.heap.size ≤ k) ∧ k < w8.heap.size → ¬ AirFoot g v6 k ∧ k ≠ g4 ∧ k < w8.heap.size from fun k hk => by
                  rcases hk.1 with h | h
                  · refine ⟨fun hf => ?_, (OK.out k h).2.1, hk.2⟩
                    rcases foot_chain V6.out k hf with h1 | h1
                    · exact (OK.out k h).1 h1
                    · have h2 := (OK.out k h).2.2
                      have h3 : wr.heap.size ≤ k := h1
                      omega
                  · exact ⟨fun hf => by have := A7.out.foot_lt k hf; omega, fun e => by have := blk_lt K7.out; omega, hk.2⟩)
                clear hR hb R7 A7 K7 B7 Z7 S7 HMV
                obtain ⟨C0, p0, C1, p1, hu0, hu1⟩ := R8.out.slices
                subst hu0
                subst hu1
                refine hK.out _ _ ⟨kr8, xr8, xs8⟩ (fun hHeld => ?_)
                clear hK K
                refine norm_ (a' := ?_) ?_ ?_
                rotate_left
                · show Act.put _ (some 82) _ = _
                  simp only [Act.put, List.setIfInBounds_toArray, List.set_cons_zero, List.set_cons_succ, i64_w, i32_w]
                  rfl
                refine last_ (i := 12) (N := none) #[true, true, true, true, true, true, true, true, true, true, true, true, true] rfl rfl (by kernel_rfl) (by decide) (fun K hK => ?_)
                have f0 := blk_frozen K8.out 0
                have f1 := blk_frozen K8.out 1
                have c0 := (blk_cell K8.out 0).trans (show (⟨[.slice B0 l.length d0, .slice B1 l.length d1]⟩ : Array Value)[0]? = some _ from rfl)
                have c1 := (blk_cell K8.out 1).trans (show (⟨[.slice B0 l.length d0, .slice B1 l.length d1]⟩ : Array Value)[1]? = some _ from rfl)
                refine skip_ (w1 := ?_) (by rfl) rfl ?_ ?_
                rotate_left
                · go_simp
                  rfl
                refine hK.out _ _ ?_
                clear hK K
                refine done_ (by kernel_rfl) ?_
                obtain ⟨va, hva⟩ : ∃ va, Value.slice C0 (throwS l s d o b lost twice t).length p0 = va := ⟨_, rfl⟩
                obtain ⟨vb, hvb⟩ : ∃ vb, Value.slice C1 (throwS l s d o b lost twice t).length p1 = vb := ⟨_, rfl⟩
                rw [hva, hvb] at R8
                rw [hva, hvb]
                have FS : Frame w8 ((w8.setCell ⟨g4, 0, none⟩ va).setCell ⟨g4, 1, none⟩ vb) (fun k => k = g4) := (Frame.of_set w8 g4 0 va).trans (Frame.of_set _ g4 1 vb) (fun k e => .inl e)
                have DA : Aside0 (Both w ((w8.setCell ⟨g4, 0, none⟩ va).setCell ⟨g4, 1, none⟩ vb) w2.heap.size g g4 v6 va vb (throwS l s d o b lost twice t)) := ⟨⟨A8.out.keepT FS (ty := 29) (by decide) (by decide) (by decide) (fun k e => by have e' : k = g4 := e; exact ⟨_, e' ▸ K8.out⟩), (blk_set (blk_set K8.out 0 va) 1 vb).trans rfl, ⟨_, R8.out.keep FS (fun k hk e => (OK2.out k hk).2.1 e), fun k hk => ⟨.inl (OK0.out k hk), by have h1 := (OK.out k (OK0.out k hk)).2.2; have h2 := S8.out; omega⟩, fun k hk => ⟨(OK2.out k hk).1, (OK2.out k hk).2.1, Nat.lt_of_lt_of_le (OK2.out k hk).2.2 FS.size⟩⟩, below_frame B8.out FS B8.out.size (fun k e => by rw [e]; exact LW.out), throw_sizes SZ.out s d o b lost twice t (by omega)⟩⟩
                have ZA := Aside0.mk (Nat.le_trans Z8.out FS.size)
                obtain ⟨wA, hwA⟩ : ∃ wA, (w8.setCell ⟨g4, 0, none⟩ va).setCell ⟨g4, 1, none⟩ vb = wA := ⟨_, rfl⟩
                rw [hwA] at DA ZA
                rw [hwA]
                clear hwA FS R8 A8 K8 B8 Z8 S8 hva hvb
                go_wp2
                go_meet
                exact ⟨rfl, v6, va, vb, _, DA, ZA⟩
            case rest =>
              clear D4 Z4 k0 k1 k2 k3 k4 k5 k6 k7
              obtain ⟨rfl, v', v0', v1', l', D4, Z4⟩ := hcut
              obtain ⟨ok, hR, _⟩ := D4.out.ref
              obtain ⟨B0, e0, B1, e1, hs0, hs1⟩ := hR.slices
              subst hs0
              subst hs1
              have c0 := (blk_cell D4.out.blk 0).trans (show (⟨[Value.slice B0 l'.length e0, .slice B1 l'.length e1]⟩ : Array Value)[0]? = some _ from rfl)
              have l200 : (l'.length : Int) ≤ 200 := by have := D4.out.air.len; omega
              have AR := Aside0.mk D4.out.air
              clear hR
              go_wp2
              go_quiet (((go_at_call 15; exact Calls.quiet_of_same (fly_is _ w2.heap.size g v' l' (AR.out.drewN _)))))
              have DQ := Aside0.mk (D4.out.mono_below (pw_below_drewN (Below.refl _ _) nq))
              have ZQ := Aside0.mk (show w2.heap.size ≤ (wc.drewN nq).heap.size from Z4.out)
              clear D4 Z4 c0 AR
              go_wp2
              go_roundg (acts.length - i - 1)
              case measure => have := HK.out; have := HLT.out; omega
              case rel => exact ⟨i + 1, v', _, _, l', by have := HLT.out; omega, by go_num, ⟨by omega⟩, DQ, ZQ⟩
      · have lt : ¬ (i : Int) < (acts.length : Int) := by omega
        go_wp2
        go_ret
        exact ⟨rfl, D4.out.below⟩
  · have l1 : 300 < (acts.length : Int) := by omega
    go_wp2_with (go_at_call 8; refine stop_here ?_)
    refine ⟨?_⟩
    refine (awake_calls w2).mono ?_
    rintro e w3 ⟨rfl, hb⟩
    go_wp2
    go_ret
    exact ⟨rfl, below_step B2.out hb⟩
end Go.Proofs.Ytaciokdgoogpiaa.NetT

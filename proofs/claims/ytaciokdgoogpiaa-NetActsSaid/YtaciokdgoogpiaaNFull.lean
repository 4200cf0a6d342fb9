/- Proved: the law NetFull; conditions: the theorems' own premises. -/
import Derived.Test.YtaciokdgoogpiaaNOrder
namespace Go.Proofs.Ytaciokdgoogpiaa.NetT
open Go.RowKit Go.Proofs.Ytaciokdgoogpiaa.YNet Go.Proofs.YtaciokdgoogpiaaW.PrintWords Go.Proofs.YtaciokdgoogpiaaW.PrintLast Go.Proofs.YtaciokdgoogpiaaW.PrintMore
set_option linter.unusedVariables false
set_option linter.unusedSimpArgs false
def fu (j : Nat) : Int × List Int := (0, [(j : Int) % 256])
theorem mkS_throw2 (f : Nat → Int × List Int) (i : Nat) (t : Int) (h0 : 0 ≤ t) (h1 : t ≤ 1000) : throwS (mkS f (min i 200) t) ⟨#[]⟩ (f i).1 ⟨#[]⟩ (f i).2 false false t = mkS f (min (i + 1) 200) t := by
  by_cases hi : i < 200
  · rw [Nat.min_eq_left (by omega), Nat.min_eq_left (by omega)]
    exact mkS_throw f i t h0 h1 hi
  · rw [Nat.min_eq_right (by omega), Nat.min_eq_right (by omega)]
    unfold throwS layS
    rw [if_neg (by decide), if_neg (by decide), if_neg (by rw [mkS_length]; omega)]
theorem raw_reads {w : World} {B : Nat} {A : Option Addr} {c : Nat} {gs : List Fl} (hq : QRow w B 32 4 (.slice A gs.length c) gs.length (mlCells gs)) : (Kd.raw 4).C w A gs.length (gs.map Fl.mail) := by
  refine ⟨List.length_map _, q_max hq, fun hn => ?_⟩
  obtain ⟨ad, rfl, hc⟩ := q_cells hq hn
  refine ⟨ad, rfl, fun j p hj => ?_⟩
  rw [List.getElem?_map] at hj
  have hjl : j < gs.length := by
    by_cases h : j < gs.length
    · exact h
    · rw [List.getElem?_eq_none (by omega)] at hj; cases hj
  rw [List.getElem?_eq_getElem hjl] at hj
  injection hj with hj
  subst hj
  refine ⟨Fl.mail gs[j], rfl, ⟨rfl, rfl, ml_one _⟩, fun i u hi => ?_⟩
  have hi4 : i < 4 := (List.getElem?_eq_some_iff.1 hi).1
  exact hc (j * 4 + i) u (by rw [mlCells_at gs j hjl i hi4]; exact hi)
theorem RawM.keep {w w1 : World} {B : Nat} {v : Value} {rows : List (List Value)} {S : Nat → Prop} (h : RawM w B v rows) (hf : Frame w w1 S) (hn : ∀ k, v.ownBlock = some k → ¬ S k) : RawM w1 B v rows :=
  Kd.R_mono (Kd.R_step (Kd.R_tight rfl h) (fun k hk hlt => hf.block k hlt (hn k hk.symm))) (fun _ _ => trivial)
/-- Datagrams that came, gathered. -/
structure Gath (w : World) (B : Nat) (v : Value) (gs : List Fl) : Prop where
  row : RawM w B v (gs.map Fl.mail)
  els : ∀ f ∈ gs, FlOk w B f
theorem Gath.below {w w1 : World} {B : Nat} {v : Value} {gs : List Fl} (h : Gath w B v gs) (hb : Below w.heap.size w w1) : Gath w1 B v gs := ⟨h.row.below hb, fun f hf => (h.els f hf).keep (Frame.of_below hb) (fun _ _ h => h)⟩
theorem Gath.air {w w1 : World} {B g : Nat} {v u : Value} {gs : List Fl} {l : List Say} (h : Gath w B v gs) (ha : AirIs w B g u l) (hf : Frame w w1 (AirFoot g u)) : Gath w1 B v gs :=
  ⟨h.row.keep hf (fun k hk => by
    obtain ⟨cells, hc⟩ := Kd.R_typed h.row k hk
    exact ha.typed hc (by decide) (by decide)), fun f hm => (h.els f hm).keep hf (fun ad e => by
    obtain ⟨_, cells, hc⟩ := (h.els f hm).own ad e
    exact ha.typed hc (by decide) (by decide))⟩
theorem AirIs.keepT {w w1 : World} {base g ty : Nat} {v : Value} {l : List Say} {S : Nat → Prop} (h : AirIs w base g v l) (hf : Frame w w1 S) (h1 : ty ≠ 52) (h2 : ty ≠ 56) (h3 : ty ≠ 5) (hS : ∀ k, S k → ∃ cells, w.heap[k]? = some (.cells cells ty (0, 0))) : AirIs w1 base g v l := by
  obtain ⟨fs, hI, hr⟩ := h
  refine ⟨fs, hI.keep hf (fun hs => ?_) (fun k hk hs => ?_) (fun f hm ad e hs => ?_), hr⟩
  · obtain ⟨cells, hc⟩ := hS g hs
    have := hc.symm.trans hI.blk
    simp at this
    exact h1 this.2
  · obtain ⟨cells, hc⟩ := hS k hs
    obtain ⟨_, cc, hk'⟩ := q_typed hI.row k hk
    have := hc.symm.trans hk'
    simp at this
    exact h2 this.2
  · obtain ⟨cells, hc⟩ := hS _ hs
    obtain ⟨_, cc, hk'⟩ := (hI.els f hm).own ad e
    have := hc.symm.trans hk'
    simp at this
    exact h3 this.2
theorem FlOk.keepT {w w1 : World} {base ty : Nat} {f : Fl} {S : Nat → Prop} (h : FlOk w base f) (hf : Frame w w1 S) (h3 : ty ≠ 5) (hS : ∀ k, S k → ∃ cells, w.heap[k]? = some (.cells cells ty (0, 0))) : FlOk w1 base f :=
  h.keep hf (fun ad e hs => by
    obtain ⟨cells, hc⟩ := hS _ hs
    obtain ⟨_, cc, hk'⟩ := h.own ad e
    have := hc.symm.trans hk'
    simp at this
    exact h3 this.2)
theorem Gath.reads {w : World} {B : Nat} {v : Value} {gs : List Fl} (h : Gath w B v gs) : ∃ A c, v = .slice A gs.length c ∧ (0 < gs.length → ∃ gr, A = some ⟨gr, 0, none⟩ ∧ Row1 w gr 0 (gs.map Fl.say)) := by
  obtain ⟨A, c, rfl⟩ := Kd.R_slice h.row
  have h1 := Kd.R_reads' h.row
  rw [List.length_map] at h1 ⊢
  refine ⟨A, c, rfl, fun hn => ?_⟩
  obtain ⟨ad, ea, hc⟩ := h1.2.2.2.2 (by simpa using hn)
  subst ea
  obtain ⟨gr, rfl⟩ := Kd.R_head (by have h2 := h.row; rw [List.length_map] at h2; exact h2)
  refine ⟨gr, rfl, fun i hi => ?_⟩
  have hig : i < gs.length := by rw [List.length_map] at hi; exact hi
  rw [List.getElem_map]
  have hk := h.els _ (List.getElem_mem hig)
  obtain ⟨cs, hl, ⟨rfl, _, _⟩, hcc⟩ := hc i (Fl.mail gs[i]) (by rw [List.getElem?_map, List.getElem?_eq_getElem hig]; rfl)
  refine ⟨gs[i].A, gs[i].c, ?_, ?_, hk.cap, fun u hu => ?_⟩
  · have := hcc 1 _ rfl
    rwa [add_at, ← Nat.add_assoc] at this
  · have := hcc 3 _ rfl
    rwa [add_at, ← Nat.add_assoc] at this
  · have hu' : gs[i].b[0]? = some u := hu
    have hp : 0 < gs[i].b.length := (List.getElem?_eq_some_iff.1 hu').1
    obtain ⟨ad, ea, hb⟩ := hk.bytes hp
    have h0 := hb 0 (.int .u8 u) (by unfold nums; rw [List.getElem?_map, hu']; rfl)
    have e0 : ad.add 0 = ad := by
      rcases ad with ⟨b, o, s⟩
      cases s <;> rfl
    rw [e0] at h0
    obtain ⟨ga, oa, rfl⟩ := spot_none h0
    exact ⟨ga, oa, ea, h0⟩
/-- What came and what is on its way, behind k ticks. -/
def fuAir (M : Nat) (D k : Nat) : List Say := if k ≤ D then mkS fu M ((D : Int) - (k : Int)) else []
def fuOut (M : Nat) (D k : Nat) : List Say := if k ≤ D then [] else mkS fu M 0
theorem fu_left (M D k : Nat) : leftS (fuAir M D k) = fuAir M D (k + 1) := by
  unfold fuAir
  by_cases h : k < D
  · rw [if_pos (by omega), if_pos (by omega), mkS_left fu M _ (by omega)]
    congr 1
    omega
  · by_cases e : k = D
    · subst e
      rw [if_pos (by omega), if_neg (by omega), Int.sub_self, mkS_left0]
    · rw [if_neg (by omega), if_neg (by omega)]
      rfl
theorem fu_gone (M D k : Nat) : fuOut M D k ++ goneS (fuAir M D k) = fuOut M D (k + 1) := by
  unfold fuAir fuOut
  by_cases h : k < D
  · rw [if_pos (by omega), if_pos (by omega), if_pos (by omega), mkS_gone fu M _ (by omega)]
    rfl
  · by_cases e : k = D
    · subst e
      rw [if_pos (by omega), if_pos (by omega), if_neg (by omega), Int.sub_self, mkS_gone0]
      rfl
    · rw [if_neg (by omega), if_neg (by omega), if_neg (by omega)]
      exact List.append_nil _
theorem fu_outlen (M D k : Nat) : (fuOut M D k).length ≤ M := by
  unfold fuOut
  split
  · simp
  · rw [mkS_length]; exact Nat.le_refl _
set_option maxHeartbeats 4000000 in
set_option maxRecDepth 100000 in
theorem full_law (n delay : Int) (w : World) (hn : 0 ≤ n ∧ n ≤ 65535) (hd : 0 ≤ delay ∧ delay ≤ 255) :
    Calls Try.prog 5 #[.int .u16 n, .int .u8 delay] w fun e w' => e = .returned (.bool true) ∧ Below w.heap.size w w' := by
  obtain ⟨n0, n1⟩ := hn
  obtain ⟨d0, d1⟩ := hd
  go_enter Try.func5, Try.ntmps5
  go_wp2_with (go_at_call 8; refine stop_here ?_)
  refine ⟨?_⟩
  refine (awake_calls w).mono ?_
  rintro e w2 ⟨rfl, hb⟩
  have B2 := Aside0.mk hb
  clear hb
  go_wp2_with (go_at_call 9; refine stop_here ?_)
  refine ⟨?_⟩
  refine (new_is w2).mono ?_
  rintro e w3 ⟨g, rfl, hg, hA, hb⟩
  have A3 := Aside0.mk hA
  have G3 := Aside0.mk hg
  have W2 := Aside0.mk (show w.heap.size ≤ w2.heap.size from B2.out.size)
  have B3 := Aside0.mk (below_step B2.out hb)
  have Z3 := Aside0.mk hb.size
  clear hA hg hb B2
  go_upto_region 8 with (fail)
  obtain ⟨N, hN⟩ : ∃ N : Nat, n % 400 = (N : Int) := ⟨(n % 400).toNat, by omega⟩
  obtain ⟨D, hD⟩ : ∃ D : Nat, delay % 4 = (D : Int) := ⟨(delay % 4).toNat, by omega⟩
  have hN1 : (N : Int) ≤ 399 := by omega
  have hD1 : (D : Int) ≤ 3 := by omega
  rw [hN]
  have HD := Aside0.mk hD
  clear hN hD
  go_loopg [7] N (fun kq v7 w' => ∃ (i : Nat) (v : Value), i ≤ N ∧ v7 = .int .i64 (i : Int) ∧ Aside0 (kq = N - i) ∧ Aside0 (AirIs w' w2.heap.size g v (mkS fu (min i 200) D)) ∧ Aside0 (Below w.heap.size w w') ∧ Aside0 (w2.heap.size ≤ w'.heap.size))
  case atStart => exact ⟨0, .slice none 0 0, by omega, rfl, ⟨rfl⟩, A3, B3, Z3⟩
  case round =>
    clear A3 B3 Z3
    obtain ⟨i, v, hi, rfl, HK, A4, B4, Z4⟩ := hrel
    have zi : 0 ≤ (i : Int) := by omega
    by_cases hlt : i < N
    · have lt : (i : Int) < (N : Int) := by omega
      have i99 : (i : Int) ≤ 398 := by omega
      go_wp2_with ((with_reducible refine gate_dst (N := 28) rfl ?_); refine stop_here ?_)
      refine ⟨?_⟩
      refine made_event rfl ⟨nums .u8 [(i : Int) % 256]⟩ 5 1 ?hr28 ?_
      case hr28 => first | (go_simp; done) | (go_simp; rfl)
      intro gb hgb w5 hbx hb
      have X5 := Aside0.mk hbx
      have A5 := Aside0.mk (A4.out.below hb)
      have B5 := Aside0.mk (below_step B4.out hb)
      have Z5 := Aside0.mk (Nat.le_trans Z4.out hb.size)
      clear hgb hbx hb A4 B4 Z4
      go_wp2_with (go_at_call 13; refine stop_here ?_)
      refine ⟨?_⟩
      refine (throw_is w5 w2.heap.size g v _ ⟨#[]⟩ 0 ⟨#[]⟩ (some ⟨gb, 0, none⟩) 1 [(i : Int) % 256] false false (delay % 4) A5.out (lit_bytes X5.out) (fun _ ad e => by
        injection e with e
        subst e
        exact A5.out.typed X5.out (by decide) (by decide)) (by simp) (by simp) Z5.out).mono ?_
      rintro e w6 ⟨rfl, v6, hA, hV, hF⟩
      rw [HD.out] at hA
      have A6 : Aside0 (AirIs w6 w2.heap.size g v6 (mkS fu (min (i + 1) 200) D)) := ⟨by
        rw [← mkS_throw2 fu i D (by omega) (by omega)]
        exact hA⟩
      have B6 := Aside0.mk (below_air B5.out hF A5.out G3.out W2.out B5.out.size)
      have Z6 := Aside0.mk (Nat.le_trans Z5.out hF.size)
      clear hA hV hF A5 B5 X5 Z5
      go_wp2
      go_roundg (N - i - 1)
      case measure => have := HK.out; omega
      case rel => exact ⟨i + 1, v6, by omega, by go_num, ⟨by omega⟩, A6, B6, Z6⟩
    · have HI : Aside0 (i = N) := ⟨by omega⟩
      have lt : ¬ (i : Int) < (N : Int) := by omega
      obtain ⟨M, hM⟩ : ∃ M, min N 200 = M := ⟨_, rfl⟩
      have HM := Aside0.mk hM
      have m2 : (M : Int) ≤ 200 := by omega
      rw [HI.out, hM] at A4
      clear HI hM HK
      obtain ⟨wa, hwa⟩ : ∃ wa, wr = wa := ⟨_, rfl⟩
      rw [hwa] at A4 B4 Z4
      rw [hwa]
      clear hwa
      go_upto_if 37 with (fail)
      go_cut [8] (fun v8 w' => v8 = .int .i64 (M : Int) ∧ w' = wa)
      case first =>
        by_cases h2 : 200 < N
        · have lt2 : 200 < (N : Int) := by omega
          have HM2 := Aside0.mk (show (M : Int) = 200 by have := HM.out; omega)
          go_wp2
          go_meet
          exact ⟨by rw [HM2.out], rfl⟩
        · have lt2 : ¬ 200 < (N : Int) := by omega
          have HM2 := Aside0.mk (show (M : Int) = (N : Int) by have := HM.out; omega)
          go_wp2
          go_meet
          exact ⟨by rw [HM2.out], rfl⟩
      case rest =>
        obtain ⟨rfl, hw⟩ := hcut
        have hw' := hw.symm
        subst hw'
        clear hw
        go_wp2_with (go_at_call 15; refine stop_here ?_)
        refine ⟨?_⟩
        refine (fly_n M _ _ g v _ A4.out (mkS_length _ _ _)).mono ?_
        rintro e wb ⟨rfl, rfl⟩
        go_upto_region 18 with (fail)
        go_loopg [9, 10] 5 (fun kq v9 v10 w' => ∃ (k : Nat) (v : Value) (gs : List Fl), k ≤ 5 ∧ v10 = .int .i64 (k : Int) ∧ Aside0 (kq = 5 - k) ∧ Aside0 (AirIs w' w2.heap.size g v (fuAir M D k)) ∧ Aside0 (Gath w' w2.heap.size v9 gs) ∧ Aside0 (gs.map Fl.say = fuOut M D k) ∧ Aside0 (Below w.heap.size w w') ∧ Aside0 (w2.heap.size ≤ w'.heap.size))
        case atStart => exact ⟨0, v, [], by omega, rfl, ⟨rfl⟩, ⟨by unfold fuAir; rw [if_pos (by omega)]; simpa using A4.out⟩, ⟨⟨Kd.R_nil _ _ _ _ _, fun f hf => by simp at hf⟩⟩, ⟨by unfold fuOut; rw [if_pos (by omega)]; rfl⟩, B4, Z4⟩
        case round =>
          clear A4 B4 Z4
          obtain ⟨k, v', gs, hk, rfl, HK, A4, GA, GS, B4, Z4⟩ := hrel
          have zk : 0 ≤ (k : Int) := by omega
          by_cases hlt2 : k < 5
          · have lt2 : (k : Int) < 5 := by omega
            go_wp2_with (go_at_call 12; refine stop_here ?_)
            refine ⟨?_⟩
            refine (tick_is _ w2.heap.size g v' _ A4.out).mono ?_
            rintro e w5 ⟨hC, v5, hA, hV, hF⟩
            rw [fu_left] at hA
            obtain ⟨vo, gs2, rfl, hs, hq, hf⟩ := hC
            have A5 := Aside0.mk hA
            have B5 := Aside0.mk (below_air B4.out hF A4.out G3.out W2.out B4.out.size)
            have GA5 := Aside0.mk (GA.out.air A4.out hF)
            have GS5 : Aside0 ((gs ++ gs2).map Fl.say = fuOut M D (k + 1)) := ⟨by rw [List.map_append, GS.out, hs, fu_gone]⟩
            have Z5 := Aside0.mk (Nat.le_trans Z4.out hF.size)
            obtain ⟨Aq, cq, rfl, _⟩ := q_slice hq
            have Q5 := Aside0.mk hq
            have F5 := Aside0.mk hf
            have HLen := Aside0.mk (show gs.length + gs2.length ≤ 200 by
              have h1 := congrArg List.length GS5.out
              rw [List.length_map, List.length_append] at h1
              have h2 := fu_outlen M D (k + 1)
              omega)
            clear hA hV hF A4 B4 GA GS Z4 hs hq hf
            go_wp2_with (at_builtin; refine stop_here ?_)
            refine ⟨?_⟩
            refine Kd.R_append_rows (Kd.raw 4) (w0 := w5) w2.heap.size rfl (.tmp 46) (.tmp 48) 26 32 (.agg #[.string ⟨#[]⟩, .int .i64 0, .string ⟨#[]⟩, .slice none 0 0]) 64 rfl Try.underlying26 infoMl rfl (by decide) (by omega) _ (gs.map Fl.mail) (gs2.map Fl.mail) Aq gs2.length cq (fun _ => True) (fun _ => False) rfl rfl GA5.out.row (raw_reads Q5.out) (fun _ _ h => h) (fun _ h => h.elim) (fun _ _ => trivial) (Below.refl _ _) Z5.out ?hl ?_
            case hl => rw [List.length_map]; have := HLen.out; omega
            intro v6 w6 hr hb hg hat
            have hS : ∀ k', some k' = (Value.ownBlock _) → ∃ cells, w5.heap[k']? = some (.cells cells 32 (0, 0)) := fun k' e => Kd.R_typed GA5.out.row k' e.symm
            have hFr := Frame.of_grown hg
            have A6 := Aside0.mk (A5.out.keepT hFr (ty := 32) (by decide) (by decide) (by decide) hS)
            have GA6 : Aside0 (Gath w6 w2.heap.size v6 (gs ++ gs2)) := ⟨⟨by rw [List.map_append]; exact hr, fun f hm => by
              rcases List.mem_append.1 hm with h | h
              · exact (GA5.out.els f h).keepT hFr (ty := 32) (by decide) hS
              · exact (F5.out f h).keepT hFr (ty := 32) (by decide) hS⟩⟩
            have B6 := Aside0.mk (below_frame B5.out hFr B5.out.size (fun k' e => Nat.le_trans W2.out (Kd.R_base GA5.out.row k' e.symm)))
            have Z6 := Aside0.mk (Nat.le_trans Z5.out hFr.size)
            clear hr hb hg hat hS hFr A5 B5 GA5 Z5 Q5 F5 HLen
            go_wp2
            go_roundg (5 - k - 1)
            case measure => have := HK.out; omega
            case rel => exact ⟨k + 1, v5, gs ++ gs2, by omega, by go_num, ⟨by omega⟩, A6, GA6, GS5, B6, Z6⟩
          · have HK5 : Aside0 (k = 5) := ⟨by omega⟩
            have lt2 : ¬ (k : Int) < 5 := by omega
            have hgl : gs.map Fl.say = mkS fu M 0 := by
              rw [GS.out, HK5.out]
              unfold fuOut
              rw [if_neg (by omega)]
            obtain ⟨Ar, cr, hr9, hrow⟩ := GA.out.reads
            have hlen : gs.length = M := by
              have h1 := congrArg List.length hgl
              rw [List.length_map, mkS_length] at h1
              exact h1
            rw [hlen] at hr9 hrow
            subst hr9
            rw [hgl] at hrow
            have HR := Aside0.mk hrow
            clear hrow hgl hlen
            obtain ⟨wc, hwc⟩ : ∃ wc, wr = wc := ⟨_, rfl⟩
            rw [hwc] at HR B4
            rw [hwc]
            clear A4 GA GS Z4
            go_upto_region 24 with (fail)
            go_loopg [11] M (fun kq v11 w' => ∃ (j : Nat), j ≤ M ∧ v11 = .int .i64 (j : Int) ∧ Aside0 (kq = M - j) ∧ w' = wc)
            case atStart => exact ⟨0, by omega, rfl, ⟨rfl⟩, rfl⟩
            case round =>
              clear hwc
              obtain ⟨j, hj, rfl, HK, hw⟩ := hrel
              subst hw
              have zj : 0 ≤ (j : Int) := by omega
              by_cases hlt3 : j < M
              · have lt3 : (j : Int) < (M : Int) := by omega
                obtain ⟨gr, hAr, hrow⟩ := HR.out (by omega)
                subst hAr
                obtain ⟨Ai, ki, c1, c3, hki, hby⟩ := hrow j (by rw [mkS_length]; omega)
                rw [mkS_at] at c1 c3 hki hby
                obtain ⟨ga, oa, hAi, cb⟩ := hby ((j : Int) % 256) rfl
                subst hAi
                rw [Nat.zero_add] at c3
                replace c3 : wr.cell? ⟨gr, j * 4 + 3, none⟩ = some (.slice (some ⟨ga, oa, none⟩) 1 ki) := c3
                have j99 : (j : Int) ≤ 199 := by omega
                have HROW := Aside0.mk hrow
                clear hrow hby hki c1
                go_wp2
                go_roundg (M - j - 1)
                case measure => have := HK.out; omega
                case rel => exact ⟨j + 1, by omega, by go_num, ⟨by omega⟩, rfl⟩
              · have lt3 : ¬ (j : Int) < (M : Int) := by omega
                go_wp2
                go_ret
                exact ⟨rfl, B4.out⟩
end Go.Proofs.Ytaciokdgoogpiaa.NetT

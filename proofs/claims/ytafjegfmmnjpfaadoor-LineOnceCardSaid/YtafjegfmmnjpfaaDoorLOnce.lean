/- Proved: the law LineOnce answers true; conditions: the theorem's own premises. -/
import Derived.Test.YtafjegfmmnjpfaaDoorLSafe
import Derived.Test.YtafjegfmmnjpfaaDoorLWays
namespace Go.Proofs.YtafjegfmmnjpfaaDoor.LineT
open Go.RowKit Go.Proofs.YtafjegfmmnjpfaaDoor.YLine Go.Proofs.YtafjegfmmnjpfaaDoorW.PrintWords Go.Proofs.YtafjegfmmnjpfaaDoorW.PrintLast Go.Proofs.YtafjegfmmnjpfaaDoorW.PrintMore
set_option linter.unusedVariables false
set_option linter.unusedSimpArgs false
theorem way_all (x : WayD) : (⟨x.cells⟩ : Array Value).all (·.oneCell') = true := by
  rw [List.all_toArray, List.all_eq_true]
  intro u hu
  simp only [WayD.cells, List.mem_cons, List.not_mem_nil, or_false] at hu
  rcases hu with rfl | rfl | rfl | rfl <;> rfl
theorem tick_len (L : LS) : (tickOutS L).length ≤ 8 := by
  unfold tickOutS outS
  split
  · exact (by decide : 1 ≤ 8)
  · exact first_len _
theorem WaysAt.below {w w1 : World} {A : Option Addr} {l : List WayD} (h : WaysAt w A l) (hb : Below w.heap.size w w1) : WaysAt w1 A l := by
  refine ⟨h.1, fun hp => ?_⟩
  obtain ⟨gr, off, e, hx⟩ := h.2 hp
  exact ⟨gr, off, e, fun i hi j u hu => (Frame.of_below hb).cell (hx i hi j u hu) (fun h => h)⟩
set_option maxHeartbeats 16000000 in
set_option maxRecDepth 100000 in
theorem once_law (A1 A2 A3 : Option Addr) (n1 n2 n3 c1 c2 c3 : Nat) (l1 l2 : List (List Int)) (l3 : List WayD) (w : World) (hG : Code.Gl w) (hn1 : l1.length = n1) (hn2 : l2.length = n2) (hn3 : l3.length = n3) (hT1 : TextsAt w A1 l1) (hT2 : TextsAt w A2 l2) (hT3 : WaysAt w A3 l3) (hl1 : ∀ q ∈ l1, q.length ≤ 9223372036854775807) (hl2 : ∀ q ∈ l2, q.length ≤ 9223372036854775807) (hlen1 : n1 ≤ 9223372036854775807) (hlen2 : n2 ≤ 9223372036854775807) (hlen3 : n3 ≤ 9223372036854775807) (hr1 : n1 ≤ c1) (hr2 : n2 ≤ c2) :
    Calls Tryd.prog 3 #[.slice A1 n1 c1, .slice A2 n2 c2, .slice A3 n3 c3] w fun e w' => e = .returned (.bool true) ∧ Below w.heap.size w w' := by
  have GL := Aside0.mk hG
  have T1 := Aside0.mk hT1
  have T2 := Aside0.mk hT2
  have T3 := Aside0.mk hT3
  have N1 := Aside0.mk hn1
  have N2 := Aside0.mk hn2
  have N3 := Aside0.mk hn3
  have LL1 := Aside0.mk hl1
  have LL2 := Aside0.mk hl2
  have R1 := Aside0.mk hr1
  have R2 := Aside0.mk hr2
  clear hG hT1 hT2 hT3 hn1 hn2 hn3 hl1 hl2 hr1 hr2
  go_enter Tryd.func3, Tryd.ntmps3
  go_wp2_with (go_at_call 8; refine stop_here ?_)
  refine ⟨?_⟩
  refine (awake_calls w GL.out).mono ?_
  rintro e w1 ⟨rfl, hb⟩
  have B1 := Aside0.mk hb
  have G1 := Aside0.mk (GL.out.below hb GL.out.lt)
  clear hb
  by_cases g1 : 10 < n1
  · have g1' : 10 < (n1 : Int) := by omega
    go_wp2_with (go_at_call 8; refine stop_here ?_)
    refine ⟨?_⟩
    refine (awake_calls w1 G1.out).mono ?_
    rintro e w2 ⟨rfl, hb⟩
    go_wp2
    go_ret
    exact ⟨rfl, below_step B1.out hb⟩
  have g1' : ¬ 10 < (n1 : Int) := by omega
  by_cases g2 : 10 < n2
  · have g2' : 10 < (n2 : Int) := by omega
    go_wp2_with (go_at_call 8; refine stop_here ?_)
    refine ⟨?_⟩
    refine (awake_calls w1 G1.out).mono ?_
    rintro e w2 ⟨rfl, hb⟩
    go_wp2
    go_ret
    exact ⟨rfl, below_step B1.out hb⟩
  have g2' : ¬ 10 < (n2 : Int) := by omega
  by_cases g3 : 60 < n3
  · have g3' : 60 < (n3 : Int) := by omega
    go_wp2_with (go_at_call 8; refine stop_here ?_)
    refine ⟨?_⟩
    refine (awake_calls w1 G1.out).mono ?_
    rintro e w2 ⟨rfl, hb⟩
    go_wp2
    go_ret
    exact ⟨rfl, below_step B1.out hb⟩
  have g3' : ¬ 60 < (n3 : Int) := by omega
  go_wp2_with (go_at_call 9; refine stop_here ?_)
  refine ⟨?_⟩
  refine (short_calls w1 n1 A1 c1 l1 (T1.out.below B1.out) N1.out (by omega) LL1.out).mono ?_
  rintro e w1' ⟨rfl, hw⟩
  have hw' := hw.symm
  subst hw'
  clear hw
  cases hs1 : shortB l1 with
  | false =>
    go_wp2_with (go_at_call 8; refine stop_here ?_)
    refine ⟨?_⟩
    refine (awake_calls w1 G1.out).mono ?_
    rintro e w2 ⟨rfl, hb⟩
    go_wp2
    go_ret
    exact ⟨rfl, below_step B1.out hb⟩
  | true =>
  go_wp2_with (go_at_call 9; refine stop_here ?_)
  refine ⟨?_⟩
  refine (short_calls w1 n2 A2 c2 l2 (T2.out.below B1.out) N2.out (by omega) LL2.out).mono ?_
  rintro e w1' ⟨rfl, hw⟩
  have hw' := hw.symm
  subst hw'
  clear hw
  cases hs2 : shortB l2 with
  | false =>
    go_wp2_with (go_at_call 8; refine stop_here ?_)
    refine ⟨?_⟩
    refine (awake_calls w1 G1.out).mono ?_
    rintro e w2 ⟨rfl, hb⟩
    go_wp2
    go_ret
    exact ⟨rfl, below_step B1.out hb⟩
  | true =>
  have S1 := Aside0.mk (short_all hs1)
  have S2 := Aside0.mk (short_all hs2)
  clear hs1 hs2 LL1 LL2
  go_wp2_with (go_at_call 10; refine stop_here ?_)
  refine ⟨?_⟩
  refine (newl_calls w1).mono ?_
  rintro e w2 ⟨ga, Da, rfl, hLa, hb⟩
  obtain ⟨base, hbase⟩ : ∃ base, w1.heap.size = base := ⟨_, rfl⟩
  have BW := Aside0.mk (show w.heap.size ≤ base by rw [← hbase]; exact B1.out.size)
  rw [hbase] at hLa
  have A2' := Aside0.mk hLa
  have B2 := Aside0.mk (below_step B1.out hb)
  have Z2 := Aside0.mk (show base ≤ w2.heap.size by rw [← hbase]; exact hb.size)
  clear hLa hb hbase
  go_wp2_with (go_at_call 10; refine stop_here ?_)
  refine ⟨?_⟩
  refine (newl_calls w2).mono ?_
  rintro e w3 ⟨gb, Db, rfl, hLb, hb⟩
  have TW := Aside0.mk (show Two w3 base ga gb Da Db ls0 ls0 from ⟨A2'.out.below hb, hLb.lower Z2.out, fun k h1 h2 => by have h3 := (A2'.out.ge k h1).2; have h4 := (hLb.ge k h2).1; omega⟩)
  have B3 := Aside0.mk (below_step B2.out hb)
  have MEM : Aside0 (Mem w3 base ga gb Da Db [] [] ls0 ls0 [] [] 0 0 (.slice none 0 0) (.slice none 0 0) (.slice none 0 0) [] [] []) := ⟨⟨TW.out, Safe.zero, Txt.nil _ _ _ _, Txt.nil _ _ _ _, fun k hk => (by cases hk), ⟨⟨⟨rfl, .inl ⟨rfl, none, rfl, fun a ha => by cases ha⟩⟩, fun p hp => by simp at hp⟩, no_off _, no_off _⟩, fun p hp => by simp at hp⟩⟩
  clear hLb hb A2' B2 TW
  go_wp2
  go_loopg [9, 10, 11, 12] n3 (fun kq v9 v10 v11 v12 w' => ∃ (i : Nat) (Da Db : Nat → Prop) (P P' : List P4) (a b : LS) (here there : List (List Int)) (r r' : Nat) (mh mt pl : List Pk), i ≤ n3 ∧ v12 = .int .i64 (i : Int) ∧ Aside0 (kq = n3 - i) ∧ Aside0 (Mem w' base ga gb Da Db P P' a b here there r r' v9 v10 v11 mh mt pl) ∧ Aside0 (Sent P l1 i) ∧ Aside0 (Sent P' l2 i) ∧ Aside0 (pl.length ≤ 10 * i) ∧ Aside0 (Below w.heap.size w w'))
  case atStart => exact ⟨0, Da, Db, [], [], ls0, ls0, [], [], 0, 0, [], [], [], by omega, rfl, ⟨rfl⟩, MEM, ⟨rfl, Nat.zero_le _⟩, ⟨rfl, Nat.zero_le _⟩, ⟨Nat.zero_le _⟩, B3⟩
  case round => as_aux_lemma =>
    clear MEM B3 B1
    obtain ⟨i, Da, Db, P, P', a, b, here, there, r, r', mh, mt, pl, hi, rfl, HK, MEM, SN1, SN2, PLN, B3⟩ := hrel
    have zi : 0 ≤ (i : Int) := by omega
    by_cases hlt : i < n3
    · have lt : (i : Int) < (n3 : Int) := by omega
      have i60 : i < 60 := by omega
      go_upto_region 13 with (fail)
      go_cut [96] from 63 to 226 (fun v96 w' => v96 = .bool false ∧ Aside0 (∃ (Da Db : Nat → Prop) (Q Q' : List P4) (a b : LS), Mem w' base ga gb Da Db (P ++ Q) (P' ++ Q') a b here there r r' u9 u10 u11 mh mt pl ∧ Sent (P ++ Q) l1 (i + 1) ∧ Sent (P' ++ Q') l2 (i + 1)) ∧ Aside0 (Below w.heap.size w w'))
      case first => as_aux_lemma =>
        by_cases hi_l1 : i < n1
        · have li1 : (i : Int) < (n1 : Int) := by omega
          obtain ⟨bo, oo, hA, hx⟩ := (T1.out.below B3.out) (by rw [N1.out]; omega)
          subst hA
          obtain ⟨Ai, ci, hc, hci, hby⟩ := hx i (by rw [N1.out]; exact hi_l1)
          obtain ⟨msg, hmsg⟩ : ∃ msg, l1[i]'(by rw [N1.out]; exact hi_l1) = msg := ⟨_, rfl⟩
          have hms := S1.out msg (by rw [← hmsg]; exact List.getElem_mem _)
          have hmg : l1[i]? = some msg := by rw [List.getElem?_eq_getElem (by rw [N1.out]; exact hi_l1), hmsg]
          obtain ⟨hE, QQ, hSF, hSE⟩ := MEM.out.safe.senda SN1.out hmg hms (by rw [N1.out]; omega)
          rw [hmsg] at hc hci hby
          have BY := Aside0.mk hby
          have CI := Aside0.mk hci
          have HE := Aside0.mk hE
          have HSF := Aside0.mk hSF
          have HSE := Aside0.mk hSE
          have QL := Aside0.mk (show a.queue.length ≤ 200 from MEM.out.safe.swap.boundb.2)
          have GV := Aside0.mk (show 0 ≤ a.given ∧ a.given ≤ 2305843009213693952 by
            obtain ⟨d, hd⟩ := MEM.out.safe.sa
            rw [hd.given]
            have := MEM.out.safe.hp.cnt
            omega)
          clear hx hmsg hby hci hmg hSF hSE hE
          go_wp2_with (go_at_call 11; refine stop_here ?_)
          refine ⟨?_⟩
          refine (send_calls _ base ga Da a Ai ci msg MEM.out.two.la QL.out GV.out.1 GV.out.2 BY.out CI.out (by omega)).mono ?_
          rw [HE.out]
          rintro e w6 ⟨rfl, ⟨D6, hL, hD⟩, hF⟩
          have MEM6 := Aside0.mk (MEM.out.senda HSF.out hL hD hF)
          have B6 := Aside0.mk (MEM.out.below0 B3.out BW.out hF (fun k hk => (MEM.out.two.la.ge k hk).1))
          clear hL hD hF hc MEM B3 QL GV
          rw [show errW none = .nilIface from rfl]
          have MEM := MEM6
          have B3 := B6
          have SN1' := HSE
          clear MEM6 B6 HSF
          clear SN1
          by_cases hi_l2 : i < n2
          · have li2 : (i : Int) < (n2 : Int) := by omega
            obtain ⟨bo, oo, hA, hx⟩ := (T2.out.below B3.out) (by rw [N2.out]; omega)
            subst hA
            obtain ⟨Ai, ci, hc, hci, hby⟩ := hx i (by rw [N2.out]; exact hi_l2)
            obtain ⟨msg, hmsg⟩ : ∃ msg, l2[i]'(by rw [N2.out]; exact hi_l2) = msg := ⟨_, rfl⟩
            have hms := S2.out msg (by rw [← hmsg]; exact List.getElem_mem _)
            have hmg : l2[i]? = some msg := by rw [List.getElem?_eq_getElem (by rw [N2.out]; exact hi_l2), hmsg]
            obtain ⟨hE, QQ, hSF, hSE⟩ := MEM.out.safe.swap.senda SN2.out hmg hms (by rw [N2.out]; omega)
            rw [hmsg] at hc hci hby
            have BY := Aside0.mk hby
            have CI := Aside0.mk hci
            have HE := Aside0.mk hE
            have HSF := Aside0.mk hSF
            have HSE := Aside0.mk hSE
            have QL := Aside0.mk (show b.queue.length ≤ 200 from MEM.out.safe.boundb.2)
            have GV := Aside0.mk (show 0 ≤ b.given ∧ b.given ≤ 2305843009213693952 by
              obtain ⟨d, hd⟩ := MEM.out.safe.sb
              rw [hd.given]
              have := MEM.out.safe.hp'.cnt
              omega)
            clear hx hmsg hby hci hmg hSF hSE hE
            go_wp2_with (go_at_call 11; refine stop_here ?_)
            refine ⟨?_⟩
            refine (send_calls _ base gb Db b Ai ci msg MEM.out.two.lb QL.out GV.out.1 GV.out.2 BY.out CI.out (by omega)).mono ?_
            rw [HE.out]
            rintro e w6 ⟨rfl, ⟨D6, hL, hD⟩, hF⟩
            have MEM6 := Aside0.mk (MEM.out.sendb HSF.out.swap hL hD hF)
            have B6 := Aside0.mk (MEM.out.below0 B3.out BW.out hF (fun k hk => (MEM.out.two.lb.ge k hk).1))
            clear hL hD hF hc MEM B3 QL GV
            rw [show errW none = .nilIface from rfl]
            have MEM := MEM6
            have B3 := B6
            have SN2' := HSE
            clear MEM6 B6 HSF
            go_wp2
            go_meet
            exact ⟨rfl, ⟨_, _, _, _, _, _, MEM.out, SN1'.out, SN2'.out⟩, B3⟩
          · have li2 : ¬ (i : Int) < (n2 : Int) := by omega
            go_wp2
            go_meet
            exact ⟨rfl, ⟨_, _, _, [], _, _, by rw [List.append_nil]; exact MEM.out, SN1'.out, by rw [List.append_nil]; exact SN2.out.idle (by rw [N2.out]; omega)⟩, B3⟩
        · have li1 : ¬ (i : Int) < (n1 : Int) := by omega
          by_cases hi_l2 : i < n2
          · have li2 : (i : Int) < (n2 : Int) := by omega
            obtain ⟨bo, oo, hA, hx⟩ := (T2.out.below B3.out) (by rw [N2.out]; omega)
            subst hA
            obtain ⟨Ai, ci, hc, hci, hby⟩ := hx i (by rw [N2.out]; exact hi_l2)
            obtain ⟨msg, hmsg⟩ : ∃ msg, l2[i]'(by rw [N2.out]; exact hi_l2) = msg := ⟨_, rfl⟩
            have hms := S2.out msg (by rw [← hmsg]; exact List.getElem_mem _)
            have hmg : l2[i]? = some msg := by rw [List.getElem?_eq_getElem (by rw [N2.out]; exact hi_l2), hmsg]
            obtain ⟨hE, QQ, hSF, hSE⟩ := MEM.out.safe.swap.senda SN2.out hmg hms (by rw [N2.out]; omega)
            rw [hmsg] at hc hci hby
            have BY := Aside0.mk hby
            have CI := Aside0.mk hci
            have HE := Aside0.mk hE
            have HSF := Aside0.mk hSF
            have HSE := Aside0.mk hSE
            have QL := Aside0.mk (show b.queue.length ≤ 200 from MEM.out.safe.boundb.2)
            have GV := Aside0.mk (show 0 ≤ b.given ∧ b.given ≤ 2305843009213693952 by
              obtain ⟨d, hd⟩ := MEM.out.safe.sb
              rw [hd.given]
              have := MEM.out.safe.hp'.cnt
              omega)
            clear hx hmsg hby hci hmg hSF hSE hE
            go_wp2_with (go_at_call 11; refine stop_here ?_)
            refine ⟨?_⟩
            refine (send_calls _ base gb Db b Ai ci msg MEM.out.two.lb QL.out GV.out.1 GV.out.2 BY.out CI.out (by omega)).mono ?_
            rw [HE.out]
            rintro e w6 ⟨rfl, ⟨D6, hL, hD⟩, hF⟩
            have MEM6 := Aside0.mk (MEM.out.sendb HSF.out.swap hL hD hF)
            have B6 := Aside0.mk (MEM.out.below0 B3.out BW.out hF (fun k hk => (MEM.out.two.lb.ge k hk).1))
            clear hL hD hF hc MEM B3 QL GV
            rw [show errW none = .nilIface from rfl]
            have MEM := MEM6
            have B3 := B6
            have SN2' := HSE
            clear MEM6 B6 HSF
            go_wp2
            go_meet
            exact ⟨rfl, ⟨_, _, [], _, _, _, by rw [List.append_nil]; exact MEM.out, by rw [List.append_nil]; exact SN1.out.idle (by rw [N1.out]; omega), SN2'.out⟩, B3⟩
          · have li2 : ¬ (i : Int) < (n2 : Int) := by omega
            go_wp2
            go_meet
            exact ⟨rfl, ⟨_, _, [], [], _, _, by rw [List.append_nil, List.append_nil]; exact MEM.out, by rw [List.append_nil]; exact SN1.out.idle (by rw [N1.out]; omega), by rw [List.append_nil]; exact SN2.out.idle (by rw [N2.out]; omega)⟩, B3⟩
      case rest =>
        clear MEM B3
        obtain ⟨rfl, hME, B3⟩ := hcut
        obtain ⟨Da, Db, Q, Q', a, b, hM, hs1, hs2⟩ := hME.out
        have MEM := Aside0.mk hM
        have SN1 := Aside0.mk hs1
        have SN2 := Aside0.mk hs2
        clear hM hs1 hs2 hME
        obtain ⟨P, hP⟩ : ∃ X, P ++ Q = X := ⟨_, rfl⟩
        obtain ⟨P', hP'⟩ : ∃ X, P' ++ Q' = X := ⟨_, rfl⟩
        rw [hP] at MEM SN1
        rw [hP'] at MEM SN2
        clear hP hP'
        obtain ⟨g3, o3, hA3, hx3⟩ := (T3.out.below B3.out).2 (by rw [N3.out]; omega)
        subst hA3
        obtain ⟨wy, hwy⟩ : ∃ wy, l3[i]'(by rw [N3.out]; exact hlt) = wy := ⟨_, rfl⟩
        have hwo := T3.out.1 wy (by rw [← hwy]; exact List.getElem_mem _)
        have xr : wc.rangeAt g3 (o3 + i * 4) wy.cells := fun j u hu => hx3 i (by rw [N3.out]; exact hlt) j u (by rw [hwy]; exact hu)
        have HWO := Aside0.mk hwo
        clear hx3 hwy hwo
        obtain ⟨lo, tw, bk, sy⟩ := wy
        have lo0 : 0 ≤ lo := HWO.out.l0
        have lo1 : lo ≤ 255 := HWO.out.l1
        have tw0 : 0 ≤ tw := HWO.out.t0
        have tw1 : tw ≤ 255 := HWO.out.t1
        go_wp2_with ((with_reducible refine gate_dst (N := 100) rfl ?_); refine stop_here ?_)
        refine ⟨?_⟩
        refine wpList_load_mid rfl 34 (.tmp 99) rfl g3 (o3 + i * 4) rfl (WayD.cells ⟨lo, tw, bk, sy⟩) _ xr Tryd.underlying34 rfl ?hi ?_
        case hi => rfl
        clear xr
        go_wp2_with ((with_reducible refine gate_dst (N := 13) rfl ?_); refine stop_here ?_)
        refine ⟨?_⟩
        refine box_event rfl (N := 13) rfl (cs := ⟨WayD.cells ⟨0, 0, false, false⟩⟩) (t := 34) ?hr13 ?_
        case hr13 => first | (go_simp; done) | (go_simp; rfl)
        intro qw hqw w4 hbox hb
        have X4 := Aside0.mk hbox
        have NQ := Aside0.mk (show wc.heap.size ≤ qw by rw [hqw]; exact Nat.le_refl _)
        have H4 := Aside0.mk hb
        clear hqw hbox hb
        go_wp2_with ((with_reducible refine gate_store (t := 34) (p := 13) rfl ?_); refine stop_here ?_)
        refine ⟨?_⟩
        refine wpList_store_mid rfl 34 (.tmp 13) (.tmp 100) rfl qw 0 ⟨WayD.cells ⟨lo, tw, bk, sy⟩⟩ rfl rfl (by have h := box_there X4.out; exact h) rfl (way_all _) ?_
        have FS := Aside0.mk (Frame.of_setCells w4 qw 0 (WayD.cells ⟨lo, tw, bk, sy⟩))
        have X5 := Aside0.mk (box_put (WayD.cells ⟨lo, tw, bk, sy⟩) X4.out rfl)
        have H5 := Aside0.mk (below_frame H4.out FS.out H4.out.size (fun k e => by rw [e]; exact NQ.out))
        obtain ⟨w5, hw5⟩ : ∃ w5, w4.setCells qw 0 (WayD.cells ⟨lo, tw, bk, sy⟩) = w5 := ⟨_, rfl⟩
        have e5 : w4.setCells qw 0 (⟨WayD.cells ⟨lo, tw, bk, sy⟩⟩ : Array Value).toList = w5 := hw5
        rw [e5]
        rw [hw5] at X5 H5
        have MEM5 := Aside0.mk (MEM.out.below H5.out)
        have BX5 : Aside0 (Box w5 Da Db qw ⟨WayD.cells ⟨lo, tw, bk, sy⟩⟩ 34) := ⟨⟨X5.out, fun h => by have h1 := MEM.out.two.lta qw h; have h2 := NQ.out; omega, fun h => by have h1 := MEM.out.two.ltb qw h; have h2 := NQ.out; omega⟩⟩
        have B5 := Aside0.mk (below_step B3.out H5.out)
        clear hw5 e5 FS X4 X5 H4 H5 MEM B3 NQ
        go_wp2_with (go_at_call 12; refine stop_here ?_)
        refine ⟨?_⟩
        refine (tickl_calls w5 base ga Da a MEM5.out.two.la MEM5.out.safe.loka.1).mono ?_
        rintro e w6 ⟨⟨vx, px, rfl, hPx, hsx⟩, hL, hF⟩
        have PX := Aside0.mk (Pks.new MEM5.out.two hPx)
        have AX := Aside0.mk (show ∀ k, vx.ownBlock = some k → some k ≠ u11.ownBlock from fun k hk e => by have h1 := (q_typed hPx.row k hk).1; have h2 := MEM5.out.late.packs.inn.1 k e.symm; omega)
        have MEM := Aside0.mk (MEM5.out.ticka hL hF)
        have BX := Aside0.mk (BX5.out.keep hF (fun e => by have e' : qw = ga := e; exact BX5.out.na (by rw [e']; exact MEM5.out.two.la.has)))
        have B3 := Aside0.mk (MEM5.out.below0 B5.out BW.out hF (fun k e => by have e' : k = ga := e; rw [e']; exact (MEM5.out.two.la.ge ga MEM5.out.two.la.has).1))
        have FX : Aside0 (∀ p ∈ px, Fine P r' p.say) := ⟨fun p hp => MEM5.out.safe.loka.2 p.say (by rw [← hsx]; exact List.mem_map_of_mem hp)⟩
        have LX := Aside0.mk (show px.length ≤ 8 by have h := tick_len a; rw [← hsx, List.length_map] at h; exact h)
        have BXX := Aside0.mk (show base ≤ w5.heap.size by have h1 := MEM5.out.two.la.ge ga MEM5.out.two.la.has; omega)
        obtain ⟨bx, hbx⟩ : ∃ bx, w5.heap.size = bx := ⟨_, rfl⟩
        rw [hbx] at PX BXX
        obtain ⟨a1, ha1⟩ : ∃ a1, tickS a = a1 := ⟨_, rfl⟩
        rw [ha1] at MEM
        clear hPx hsx hL hF MEM5 B5 BX5 hbx ha1
        obtain ⟨Ax, cx, hvx, hcx⟩ := q_slice PX.out.packs.row
        subst hvx
        have lx8 : px.length ≤ 8 := LX.out
        go_upto_region 18 with (fail)
        go_loopg [10, 11, 15] px.length (fun kq v10 v11 v15 w' => ∃ (k : Nat) (Db : Nat → Prop) (b : LS) (there : List (List Int)) (r : Nat) (mt pl : List Pk), k ≤ px.length ∧ v15 = .int .i64 (k : Int) ∧ Aside0 (kq = px.length - k) ∧ Aside0 (Mem w' base ga gb Da Db P P' a1 b here there r r' u9 v10 v11 mh mt pl) ∧ Aside0 (Pks w' bx Da Db (.slice Ax px.length cx) px) ∧ Aside0 (∀ k, (Value.slice Ax px.length cx).ownBlock = some k → some k ≠ v11.ownBlock) ∧ Aside0 (Box w' Da Db qw ⟨WayD.cells ⟨lo, tw, bk, sy⟩⟩ 34) ∧ Aside0 (pl.length ≤ 10 * i + k) ∧ Aside0 (Below w.heap.size w w'))
        case atStart => exact ⟨0, Db, b, there, r, mt, pl, by omega, rfl, ⟨rfl⟩, MEM, PX, AX, BX, PLN, B3⟩
        case round => as_aux_lemma =>
          clear MEM PX AX BX PLN B3
          obtain ⟨k, Db, b, there, r, mt, pl, hk, rfl, HK2, MEM, PX, AX, BX, PLN, B3⟩ := hrel
          have zk : 0 ≤ (k : Int) := by omega
          by_cases hlk : k < px.length
          · have ltk : (k : Int) < (px.length : Int) := by omega
            obtain ⟨gx, ox, hAx⟩ := row_at PX.out.packs.row (by omega)
            subst hAx
            have xr := PX.out.packs.at_ k hlk
            have XR := Aside0.mk (show ∀ j (hj : j < px.length), wr.rangeAt gx (ox + j * 4) (Pk.cells px[j]) from fun j hj => PX.out.packs.at_ j hj)
            obtain ⟨p0, hp0⟩ : ∃ p, px[k] = p := ⟨_, rfl⟩
            have hm0 : p0 ∈ px := by rw [← hp0]; exact List.getElem_mem _
            rw [hp0] at xr
            go_wp2_with ((with_reducible refine gate_dst (N := 112) rfl ?_); refine stop_here ?_)
            refine ⟨?_⟩
            refine wpList_load_mid rfl 37 (.tmp 111) rfl gx (ox + k * 4) rfl (Pk.cells p0) _ xr Tryd.underlying37 rfl ?hi ?_
            case hi => rfl
            clear xr hp0
            go_wp2_with ((with_reducible refine gate_dst (N := 16) rfl ?_); refine stop_here ?_)
            refine ⟨?_⟩
            refine box_event rfl (N := 16) rfl (cs := ⟨pk0.cells⟩) (t := 37) ?hr16 ?_
            case hr16 => first | (go_simp; done) | (go_simp; rfl)
            intro qp hqp w4 hbox hb
            have X4 := Aside0.mk hbox
            have NP := Aside0.mk (show wr.heap.size ≤ qp by rw [hqp]; exact Nat.le_refl _)
            have H4 := Aside0.mk hb
            clear hqp hbox hb
            go_wp2_with ((with_reducible refine gate_store (t := 37) (p := 16) rfl ?_); refine stop_here ?_)
            refine ⟨?_⟩
            refine wpList_store_mid rfl 37 (.tmp 16) (.tmp 112) rfl qp 0 ⟨p0.cells⟩ rfl rfl (by have h := box_there X4.out; exact h) rfl (pk_all _) ?_
            have FS := Aside0.mk (Frame.of_setCells w4 qp 0 p0.cells)
            have X5 := Aside0.mk (box_put p0.cells X4.out rfl)
            have H5 := Aside0.mk (below_frame H4.out FS.out H4.out.size (fun k e => by rw [e]; exact NP.out))
            obtain ⟨w5, hw5⟩ : ∃ w5, w4.setCells qp 0 p0.cells = w5 := ⟨_, rfl⟩
            have e5 : w4.setCells qp 0 (⟨p0.cells⟩ : Array Value).toList = w5 := hw5
            rw [e5]
            rw [hw5] at X5 H5
            have HM0 := Aside0.mk hm0
            have BW5 := Aside0.mk (BX.out.below H5.out)
            have c2 := (blk_cell BW5.out.blk 2).trans (show (⟨WayD.cells ⟨lo, tw, bk, sy⟩⟩ : Array Value)[2]? = some (.bool bk) from rfl)
            clear hw5 e5 FS X4 H4 hm0
            go_upto_if 114 with (fail)
            go_cut [16] from 103 to 159 (fun v16 w' => v16 = .pointer (some ⟨qp, 0, none⟩) ∧ Aside0 (∃ p, p ∈ px ∧ w'.heap[qp]? = some (.cells ⟨p.cells⟩ 37 (0, 0))) ∧ Aside0 (Below wr.heap.size wr w'))
            case first =>
              cases bk with
              | false =>
                go_wp2
                go_meet
                exact ⟨rfl, ⟨p0, HM0.out, X5.out⟩, H5⟩
              | true =>
                obtain ⟨j, hj⟩ : ∃ j : Nat, (px.length : Int) - 1 - (k : Int) = (j : Int) := ⟨px.length - 1 - k, by omega⟩
                have hjl : j < px.length := by omega
                obtain ⟨p1, hp1⟩ : ∃ p, px[j] = p := ⟨_, rfl⟩
                have xr : w5.rangeAt gx (ox + j * 4) p1.cells := by
                  have h := (PX.out.below H5.out).packs.at_ j hjl
                  rwa [hp1] at h
                have HM1 := Aside0.mk (show p1 ∈ px by rw [← hp1]; exact List.getElem_mem _)
                clear hp1
                go_wp2_with ((with_reducible refine gate_dst (N := 122) rfl ?_); refine stop_here ?_)
                refine ⟨?_⟩
                try rw [hj]
                try rw [Int.toNat_natCast]
                refine wpList_load_mid rfl 37 (.tmp 121) rfl gx (ox + j * 4) rfl (Pk.cells p1) _ xr Tryd.underlying37 rfl ?hi ?_
                case hi => rfl
                clear xr
                go_wp2_with ((with_reducible refine gate_store (t := 37) (p := 16) rfl ?_); refine stop_here ?_)
                refine ⟨?_⟩
                refine wpList_store_mid rfl 37 (.tmp 16) (.tmp 122) rfl qp 0 ⟨p1.cells⟩ rfl rfl (by have h := box_there X5.out; exact h) rfl (pk_all _) ?_
                have FS := Aside0.mk (Frame.of_setCells w5 qp 0 p1.cells)
                have X6 := Aside0.mk (box_put p1.cells X5.out rfl)
                have H6 := Aside0.mk (below_frame H5.out FS.out H5.out.size (fun k e => by rw [e]; exact NP.out))
                obtain ⟨w6, hw6⟩ : ∃ w6, w5.setCells qp 0 p1.cells = w6 := ⟨_, rfl⟩
                have e6 : w5.setCells qp 0 (⟨p1.cells⟩ : Array Value).toList = w6 := hw6
                rw [e6]
                rw [hw6] at X6 H6
                clear hw6 e6 FS X5 H5
                go_wp2
                go_meet
                exact ⟨rfl, ⟨p1, HM1.out, X6.out⟩, H6⟩
            case rest =>
              obtain ⟨rfl, hPP, H6⟩ := hcut
              obtain ⟨⟨ack, num, last, Ap, cp, bp⟩, hmp, hblk⟩ := hPP.out
              have MEM6 := Aside0.mk (MEM.out.below H6.out)
              have PX6 := Aside0.mk (PX.out.below H6.out)
              have BX6 := Aside0.mk (BX.out.below H6.out)
              have BP6 : Aside0 (Box wc Da Db qp ⟨Pk.cells (⟨ack, num, last, Ap, cp, bp⟩ : Pk)⟩ 37) := ⟨⟨hblk, fun h => by have h1 := MEM.out.two.lta qp h; have h2 := NP.out; omega, fun h => by have h1 := MEM.out.two.ltb qp h; have h2 := NP.out; omega⟩⟩
              have NL := Aside0.mk (show ¬ some qp = u11.ownBlock from fun e => by have h1 := MEM.out.late.packs.inn.1 qp e.symm; have h2 := NP.out; omega)
              have B6 := Aside0.mk (below_step B3.out H6.out)
              have HMP := Aside0.mk hmp
              clear hPP H6 hblk hmp MEM PX BX B3 X5 H5 BW5 c2 XR HM0 NP
              have MEM := MEM6
              have PX := PX6
              have BX := BX6
              have BP := BP6
              have B3 := B6
              clear MEM6 PX6 BX6 BP6 B6
              have c0 := (blk_cell BX.out.blk 0).trans (show (⟨WayD.cells ⟨lo, tw, bk, sy⟩⟩ : Array Value)[0]? = some (.int .u8 lo) from rfl)
              have c1' := (blk_cell BX.out.blk 1).trans (show (⟨WayD.cells ⟨lo, tw, bk, sy⟩⟩ : Array Value)[1]? = some (.int .u8 tw) from rfl)
              go_upto_region 23 with (fail)
              go_cut [130] from 103 to 159 (fun v130 w' => (∃ y : Bool, v130 = .bool y) ∧ w' = wc)
              case first =>
                go_wp2
                go_meet
                exact ⟨⟨_, rfl⟩, rfl⟩
              case rest =>
                obtain ⟨⟨y, rfl⟩, hw⟩ := hcut
                have hw' := hw.symm
                subst hw'
                clear hw c0
                cases y with
                | true =>
                  go_wp2_with ((with_reducible refine gate_dst (N := 132) rfl ?_); refine stop_here ?_)
                  refine ⟨?_⟩
                  refine wpList_load_row rfl 37 (.tmp 16) rfl qp rfl 37 ⟨Pk.cells (⟨ack, num, last, Ap, cp, bp⟩ : Pk)⟩ (0, 0) _ BP.out.blk Tryd.underlying37 rfl rfl ?_
                  go_wp2_with ((with_reducible refine gate_dst (N := 133) rfl ?_); refine stop_here ?_)
                  refine ⟨?_⟩
                  refine made_event rfl ⟨Pk.cells (⟨ack, num, last, Ap, cp, bp⟩ : Pk)⟩ 37 1 ?hr133 ?_
                  case hr133 => first | (go_simp; done) | (go_simp; rfl)
                  intro gl hgl w6 hbx hb
                  have MEM6 := Aside0.mk (MEM.out.below hb)
                  have PX6 := Aside0.mk (PX.out.below hb)
                  have BX6 := Aside0.mk (BX.out.below hb)
                  have B6 := Aside0.mk (below_step B3.out hb)
                  have E6 := Aside0.mk hbx
                  clear hgl hbx hb MEM PX BX BP B3 c1'
                  go_wp2_with (at_builtin; refine stop_here ?_)
                  refine ⟨?_⟩
                  refine pk_event (base := base) (v := u11) (fs := pl) (f := (⟨ack, num, last, Ap, cp, bp⟩ : Pk)) (gl := gl) rfl (.tmp 131) (.tmp 133) rfl rfl rfl MEM6.out.late.packs.row E6.out (by have := PLN.out; omega) (by have h1 := MEM6.out.two.la.ge ga MEM6.out.two.la.has; omega) ?_
                  intro v7 w7 hq hg hat
                  have MEM7 := Aside0.mk (MEM6.out.later (FX.out _ HMP.out) (Nat.le_refl _) ((PX6.out.packs.els _ HMP.out).lower BXX.out) (PX6.out.offa.2 _ HMP.out) (PX6.out.offb.2 _ HMP.out) hq hg hat)
                  have PX7 := Aside0.mk (PX6.out.keep (Frame.of_grown hg) (PX6.out.packs.off_pk MEM6.out.late.packs AX.out))
                  have AX7 := Aside0.mk (own_apart AX.out PX6.out.packs.inn.1 hat)
                  have BX7 := Aside0.mk (BX6.out.keep (Frame.of_grown hg) (fun e => by
                    obtain ⟨_, c2, e2⟩ := q_typed MEM6.out.late.packs.row qw e.symm
                    have := BX6.out.blk.symm.trans e2
                    simp at this))
                  have B7 := Aside0.mk (below_frame B6.out (Frame.of_grown hg) B6.out.size (fun k e => Nat.le_trans BW.out (q_typed MEM6.out.late.packs.row k e.symm).1))
                  have PL7 := Aside0.mk (show (pl ++ [(⟨ack, num, last, Ap, cp, bp⟩ : Pk)]).length ≤ 10 * i + (k + 1) by rw [List.length_append]; show pl.length + 1 ≤ _; have := PLN.out; omega)
                  clear hq hg hat MEM6 PX6 BX6 B6 E6 AX PLN
                  go_wp2
                  go_roundg (px.length - k - 1)
                  case measure => have := HK2.out; omega
                  case rel => exact ⟨k + 1, Db, b, there, r, mt, pl ++ [(⟨ack, num, last, Ap, cp, bp⟩ : Pk)], by omega, by go_num, ⟨by omega⟩, MEM7, PX7, AX7, BX7, PL7, B7⟩
                | false =>
                  go_upto_region 25 with (fail)
                  go_cut [17] from 103 to 159 (fun v17 w' => (∃ m : Nat, m ≤ 300 ∧ v17 = .int .i64 (m : Int)) ∧ w' = wc)
                  case first =>
                    go_wp2_with ((with_reducible refine gate_dst (N := 142) rfl ?_); refine stop_here ?_)
                    refine ⟨?_⟩
                    generalize hz : bits BinOp.and IntKind.u8 _ 1 = z
                    have z0 : 0 ≤ z := by rw [← hz]; exact bits_lo_u8 _ _ _
                    have z1 : z ≤ 255 := by rw [← hz]; exact bits_hi_u8 _ _ _
                    obtain ⟨m, hm⟩ : ∃ m : Nat, z = (m : Int) := ⟨z.toNat, by omega⟩
                    clear hz
                    subst hm
                    have hm2 : m ≤ 255 := by omega
                    go_wp2
                    go_meet
                    exact ⟨⟨m + 1, by omega, by go_num⟩, rfl⟩
                  case rest =>
                    obtain ⟨⟨m, hm, rfl⟩, hw⟩ := hcut
                    have hw' := hw.symm
                    subst hw'
                    clear hw c1'
                    go_upto_region 27 with (fail)
                    go_loopg [10, 18] m (fun kq v10 v18 w' => ∃ (t : Nat) (Db : Nat → Prop) (b : LS) (there : List (List Int)) (r : Nat) (mt : List Pk), t ≤ m ∧ v18 = .int .i64 (t : Int) ∧ Aside0 (kq = m - t) ∧ Aside0 (Mem w' base ga gb Da Db P P' a1 b here there r r' u9 v10 u11 mh mt pl) ∧ Aside0 (Pks w' bx Da Db (.slice (some ⟨gx, ox, none⟩) px.length cx) px) ∧ Aside0 (Box w' Da Db qw ⟨WayD.cells ⟨lo, tw, bk, sy⟩⟩ 34) ∧ Aside0 (Box w' Da Db qp ⟨Pk.cells (⟨ack, num, last, Ap, cp, bp⟩ : Pk)⟩ 37) ∧ Aside0 (Below w.heap.size w w'))
                    case atStart => exact ⟨0, Db, b, there, r, mt, by omega, rfl, ⟨rfl⟩, MEM, PX, BX, BP, B3⟩
                    case round => as_aux_lemma =>
                      clear MEM PX BX BP B3
                      obtain ⟨t, Db, b, there, r, mt, ht, rfl, HK3, MEM, PX, BX, BP, B3⟩ := hrel
                      have zt : 0 ≤ (t : Int) := by omega
                      by_cases hlt3 : t < m
                      · have lt3 : (t : Int) < (m : Int) := by omega
                        go_wp2_with ((with_reducible refine gate_dst (N := 151) rfl ?_); refine stop_here ?_)
                        refine ⟨?_⟩
                        refine wpList_load_row rfl 37 (.tmp 16) rfl qp rfl 37 ⟨Pk.cells (⟨ack, num, last, Ap, cp, bp⟩ : Pk)⟩ (0, 0) _ BP.out.blk Tryd.underlying37 rfl rfl ?_
                        have FP := Aside0.mk (FX.out _ HMP.out)
                        have HN := Aside0.mk (Nat.le_refl r')
                        have OKP := Aside0.mk (PX.out.packs.els _ HMP.out)
                        have OFP := Aside0.mk (PX.out.offb.2 _ HMP.out)
                        go_wp2_with (go_at_call 13; refine stop_here ?_)
                        refine ⟨?_⟩
                        have HB := Aside0.mk (MEM.out.safe.boundb)
                        have RN := Aside0.mk (MEM.out.safe.hearb FP.out HN.out)
                        refine (hear_calls wr base gb Db b (⟨ack, num, last, Ap, cp, bp⟩ : Pk) MEM.out.two.lb OKP.out.bytes OKP.out.cap (by have h := FP.out.short MEM.out.safe.hp; have h2 : (⟨ack, num, last, Ap, cp, bp⟩ : Pk).b.length ≤ 64 := h; omega) OFP.out HB.out.2 HB.out.1.1 HB.out.1.2.1 HB.out.1.2.2.1 HB.out.1.2.2.2.1 HB.out.1.2.2.2.2).mono ?_
                        rintro e w6 ⟨⟨v, ms, D6, he, hL, hD, hM, hmb, hO, hOn⟩, hF⟩
                        rw [RN.out.1, show errW none = .nilIface from rfl] at he
                        subst he
                        have HL6 := Aside0.mk hL
                        have HD6 := Aside0.mk hD
                        have HF6 := Aside0.mk hF
                        have HM6 := Aside0.mk hM
                        have HMB := Aside0.mk hmb
                        have HO6 := Aside0.mk hO
                        have HN6 := Aside0.mk hOn
                        have TT6 := Aside0.mk (MEM.out.tt.turn hF hD)
                        have LEN := Aside0.mk (show mt.length + ms.length ≤ 100 by
                          obtain ⟨_, r2, _, hs⟩ := RN.out
                          have h1 := (hs.rb.begins SN1.out).2
                          rw [← hmb, ← MEM.out.tt.map, List.length_append, List.length_map, List.length_map, N1.out] at h1
                          omega)
                        have BS := Aside0.mk (show base ≤ w6.heap.size from by have h1 := MEM.out.two.lb.ge gb MEM.out.two.lb.has; have h2 := hF.size; omega)
                        clear hL hD hM hmb hO hOn hF HB OKP OFP
                        go_wp2_with (at_builtin; refine stop_here ?_)
                        refine ⟨?_⟩
                        refine texts_event (base := base) (B2 := base) (v := u10) (v2 := v) (ms := mt) (ns := ms) rfl (.tmp 157) (.tmp 158) rfl rfl rfl TT6.out.msgs.row HM6.out.row (by have := LEN.out; omega) BS.out ?_
                        intro v7 w7 hq hg hat
                        obtain ⟨r7, hM7⟩ := MEM.out.hearb FP.out HN.out HL6.out HD6.out HF6.out HM6.out HMB.out HO6.out HN6.out hq hg hat
                        have MEM7 := Aside0.mk hM7
                        have PX7 := Aside0.mk (PX.out.step HF6.out HD6.out TT6.out.msgs hg)
                        have BX7 := Aside0.mk (BX.out.step HF6.out HD6.out TT6.out.msgs hg (by decide))
                        have BP7 := Aside0.mk (BP.out.step HF6.out HD6.out TT6.out.msgs hg (by decide))
                        have B7 := Aside0.mk (below_frame (MEM.out.below0 B3.out BW.out HF6.out (fun k hk => (MEM.out.two.lb.ge k hk).1)) (Frame.of_grown hg) (Nat.le_trans B3.out.size HF6.out.size) (fun k e => Nat.le_trans BW.out (q_typed TT6.out.msgs.row k e.symm).1))
                        clear hq hg hat hM7 HL6 HD6 HF6 HM6 HMB HO6 HN6 TT6 LEN BS RN MEM B3 FP HN
                        clear PX BX BP
                        go_wp2
                        go_roundg (m - t - 1)
                        case measure => have := HK3.out; omega
                        case rel => exact ⟨t + 1, D6, _, _, r7, _, by omega, by go_num, ⟨by omega⟩, MEM7, PX7, BX7, BP7, B7⟩
                      · have lt3 : ¬ (t : Int) < (m : Int) := by omega
                        have PL7 := Aside0.mk (show pl.length ≤ 10 * i + (k + 1) by have := PLN.out; omega)
                        go_wp2
                        go_roundg (px.length - k - 1)
                        case measure => have := HK2.out; omega
                        case rel => exact ⟨k + 1, Db, b, there, r, mt, pl, by omega, by go_num, ⟨by omega⟩, MEM, PX, AX, BX, PL7, B3⟩
          · have ltk : ¬ (k : Int) < (px.length : Int) := by omega
            have PL9 := Aside0.mk (show pl.length ≤ 10 * (i + 1) by have := PLN.out; omega)
            have c3 := (blk_cell BX.out.blk 3).trans (show (⟨WayD.cells ⟨lo, tw, bk, sy⟩⟩ : Array Value)[3]? = some (.bool sy) from rfl)
            obtain ⟨Al, cl, hvl, hcl⟩ := q_slice MEM.out.late.packs.row
            subst hvl
            clear PX AX PLN HK2
            go_upto_region 33 with (fail)
            go_cut [166] from 63 to 226 (fun v166 w' => (∃ y : Bool, v166 = .bool y ∧ (y = true → 0 < pl.length)) ∧ w' = wr)
            case first =>
              cases sy with
              | false =>
                go_wp2
                go_meet
                exact ⟨⟨false, rfl, fun h => by cases h⟩, rfl⟩
              | true =>
                by_cases hpl : 0 < pl.length
                · have hpl' : 0 < (pl.length : Int) := by omega
                  go_wp2
                  go_meet
                  exact ⟨⟨true, rfl, fun _ => hpl⟩, rfl⟩
                · have hpl' : ¬ 0 < (pl.length : Int) := by omega
                  go_wp2
                  go_meet
                  exact ⟨⟨false, rfl, fun h => by cases h⟩, rfl⟩
            case rest =>
              obtain ⟨⟨y, rfl, hy⟩, hw⟩ := hcut
              have hw' := hw.symm
              subst hw'
              clear hw c3
              go_upto_if 166 with (fail)
              go_cut [10] from 63 to 226 (fun v10 w' => ∃ (Db : Nat → Prop) (b : LS) (there : List (List Int)) (r : Nat) (mt : List Pk), Aside0 (Mem w' base ga gb Da Db P P' a1 b here there r r' u9 v10 (.slice Al pl.length cl) mh mt pl) ∧ Aside0 (Box w' Da Db qw ⟨WayD.cells ⟨lo, tw, bk, sy⟩⟩ 34) ∧ Aside0 (Below w.heap.size w w'))
              case first => as_aux_lemma =>
                cases y with
                | false =>
                  go_wp2
                  go_meet
                  exact ⟨Db, b, there, r, mt, MEM, BX, B3⟩
                | true =>
                  have hpl : 0 < pl.length := hy rfl
                  have hpl' : 0 < (pl.length : Int) := by omega
                  have hpz : ((pl.length : Int) == 0) = false := by
                    have : ¬ (pl.length : Int) = 0 := by omega
                    simpa using this
                  obtain ⟨j, hj⟩ : ∃ j : Nat, tw % (pl.length : Int) = (j : Int) := ⟨(tw % (pl.length : Int)).toNat, by rw [Int.toNat_of_nonneg (Int.emod_nonneg _ (by omega))]⟩
                  have hjt : tw.tmod (pl.length : Int) = (j : Int) := by rw [Int.tmod_eq_emod_of_nonneg tw0, hj]
                  have hjl : j < pl.length := by have := Int.emod_lt_of_pos tw hpl'; omega
                  have hjl' : (j : Int) < (pl.length : Int) := by omega
                  obtain ⟨gl, ol, hAl⟩ := row_at MEM.out.late.packs.row hpl
                  subst hAl
                  have xr := MEM.out.late.packs.at_ j hjl
                  obtain ⟨p, hp⟩ : ∃ p, pl[j] = p := ⟨_, rfl⟩
                  have hmp : p ∈ pl := by rw [← hp]; exact List.getElem_mem _
                  rw [hp] at xr
                  obtain ⟨n, hn, hf⟩ := MEM.out.lok p hmp
                  have FP := Aside0.mk hf
                  have HN := Aside0.mk hn
                  have OKP := Aside0.mk (MEM.out.late.packs.els _ hmp)
                  have OFP := Aside0.mk (MEM.out.late.offb.2 _ hmp)
                  have c1' := (blk_cell BX.out.blk 1).trans (show (⟨WayD.cells ⟨lo, tw, bk, sy⟩⟩ : Array Value)[1]? = some (.int .u8 tw) from rfl)
                  clear hp hmp hn hf hj
                  go_wp2_with ((with_reducible refine gate_dst (N := 177) rfl ?_); refine stop_here ?_)
                  refine ⟨?_⟩
                  refine wpList_load_mid rfl 37 (.tmp 176) rfl gl (ol + j * 4) rfl (Pk.cells p) _ xr Tryd.underlying37 rfl ?hi ?_
                  case hi => rfl
                  clear xr c1'
                  go_wp2_with (go_at_call 13; refine stop_here ?_)
                  refine ⟨?_⟩
                  have HB := Aside0.mk (MEM.out.safe.boundb)
                  have RN := Aside0.mk (MEM.out.safe.hearb FP.out HN.out)
                  refine (hear_calls _ base gb Db b p MEM.out.two.lb OKP.out.bytes OKP.out.cap (by have h := FP.out.short MEM.out.safe.hp; have h2 : p.b.length ≤ 64 := h; omega) OFP.out HB.out.2 HB.out.1.1 HB.out.1.2.1 HB.out.1.2.2.1 HB.out.1.2.2.2.1 HB.out.1.2.2.2.2).mono ?_
                  rintro e w6 ⟨⟨v, ms, D6, he, hL, hD, hM, hmb, hO, hOn⟩, hF⟩
                  rw [RN.out.1, show errW none = .nilIface from rfl] at he
                  subst he
                  have HL6 := Aside0.mk hL
                  have HD6 := Aside0.mk hD
                  have HF6 := Aside0.mk hF
                  have HM6 := Aside0.mk hM
                  have HMB := Aside0.mk hmb
                  have HO6 := Aside0.mk hO
                  have HN6 := Aside0.mk hOn
                  have TT6 := Aside0.mk (MEM.out.tt.turn hF hD)
                  have LEN := Aside0.mk (show mt.length + ms.length ≤ 100 by
                    obtain ⟨_, r2, _, hs⟩ := RN.out
                    have h1 := (hs.rb.begins SN1.out).2
                    rw [← hmb, ← MEM.out.tt.map, List.length_append, List.length_map, List.length_map, N1.out] at h1
                    omega)
                  have BS := Aside0.mk (show base ≤ w6.heap.size from by have h1 := MEM.out.two.lb.ge gb MEM.out.two.lb.has; have h2 := hF.size; omega)
                  clear hL hD hM hmb hO hOn hF HB OKP OFP
                  go_wp2_with (at_builtin; refine stop_here ?_)
                  refine ⟨?_⟩
                  refine texts_event (base := base) (B2 := base) (v := u10) (v2 := v) (ms := mt) (ns := ms) rfl (.tmp 183) (.tmp 184) rfl rfl rfl TT6.out.msgs.row HM6.out.row (by have := LEN.out; omega) BS.out ?_
                  intro v7 w7 hq hg hat
                  obtain ⟨r7, hM7⟩ := MEM.out.hearb FP.out HN.out HL6.out HD6.out HF6.out HM6.out HMB.out HO6.out HN6.out hq hg hat
                  have MEM7 := Aside0.mk hM7
                  have BX7 := Aside0.mk (BX.out.step HF6.out HD6.out TT6.out.msgs hg (by decide))
                  have B7 := Aside0.mk (below_frame (MEM.out.below0 B3.out BW.out HF6.out (fun k hk => (MEM.out.two.lb.ge k hk).1)) (Frame.of_grown hg) (Nat.le_trans B3.out.size HF6.out.size) (fun k e => Nat.le_trans BW.out (q_typed TT6.out.msgs.row k e.symm).1))
                  clear hq hg hat hM7 HL6 HD6 HF6 HM6 HMB HO6 HN6 TT6 LEN BS RN MEM B3 FP HN
                  go_wp2
                  go_meet
                  exact ⟨_, _, _, r7, _, MEM7, BX7, B7⟩
              case rest =>
                clear MEM BX B3
                obtain ⟨Db, b, there, r, mt, MEM, BX, B3⟩ := hcut
                go_wp2_with (go_at_call 12; refine stop_here ?_)
                refine ⟨?_⟩
                refine (tickl_calls wc base gb Db b MEM.out.two.lb MEM.out.safe.swap.loka.1).mono ?_
                rintro e w6 ⟨⟨vy, py, rfl, hPy, hsy⟩, hL, hF⟩
                have PY := Aside0.mk (Pks.new MEM.out.two hPy)
                have MEM6 := Aside0.mk (MEM.out.tickb hL hF)
                have BX6 := Aside0.mk (BX.out.keep hF (fun e => by have e' : qw = gb := e; exact BX.out.nb (by rw [e']; exact MEM.out.two.lb.has)))
                have B6 := Aside0.mk (MEM.out.below0 B3.out BW.out hF (fun k e => by have e' : k = gb := e; rw [e']; exact (MEM.out.two.lb.ge gb MEM.out.two.lb.has).1))
                have FY : Aside0 (∀ p ∈ py, Fine P' r p.say) := ⟨fun p hp => MEM.out.safe.swap.loka.2 p.say (by rw [← hsy]; exact List.mem_map_of_mem hp)⟩
                have LY := Aside0.mk (show py.length ≤ 8 by have h := tick_len b; rw [← hsy, List.length_map] at h; exact h)
                obtain ⟨bY, hbY⟩ : ∃ bY, wc.heap.size = bY := ⟨_, rfl⟩
                rw [hbY] at PY
                obtain ⟨b1, hb1⟩ : ∃ b1, tickS b = b1 := ⟨_, rfl⟩
                rw [hb1] at MEM6
                clear hPy hsy hL hF MEM B3 BX hbY hb1
                have MEM := MEM6
                have BX := BX6
                have B3 := B6
                clear MEM6 BX6 B6
                obtain ⟨Ay, cy, hvy, hcy⟩ := q_slice PY.out.packs.row
                subst hvy
                have ly8 : py.length ≤ 8 := LY.out
                go_upto_region 40 with (fail)
                go_loopg [9, 24] py.length (fun kq v9 v24 w' => ∃ (k : Nat) (Da : Nat → Prop) (a : LS) (here : List (List Int)) (r' : Nat) (mh : List Pk), k ≤ py.length ∧ v24 = .int .i64 (k : Int) ∧ Aside0 (kq = py.length - k) ∧ Aside0 (Mem w' base ga gb Da Db P P' a b1 here there r r' v9 u10 (.slice Al pl.length cl) mh mt pl) ∧ Aside0 (Pks w' bY Da Db (.slice Ay py.length cy) py) ∧ Aside0 (Box w' Da Db qw ⟨WayD.cells ⟨lo, tw, bk, sy⟩⟩ 34) ∧ Aside0 (Below w.heap.size w w'))
                case atStart => exact ⟨0, Da, a1, here, r', mh, by omega, rfl, ⟨rfl⟩, MEM, PY, BX, B3⟩
                case round => as_aux_lemma =>
                  clear MEM PY BX B3
                  obtain ⟨k, Da, a, here, r', mh, hk, rfl, HK4, MEM, PY, BX, B3⟩ := hrel
                  have zk : 0 ≤ (k : Int) := by omega
                  by_cases hlk : k < py.length
                  · have ltk : (k : Int) < (py.length : Int) := by omega
                    have c0 := (blk_cell BX.out.blk 0).trans (show (⟨WayD.cells ⟨lo, tw, bk, sy⟩⟩ : Array Value)[0]? = some (.int .u8 lo) from rfl)
                    go_upto_region 42 with (fail)
                    go_cut [202] from 188 to 216 (fun v202 w' => (∃ y : Bool, v202 = .bool y) ∧ w' = wr)
                    case first =>
                      go_wp2
                      go_meet
                      exact ⟨⟨_, rfl⟩, rfl⟩
                    case rest =>
                      obtain ⟨⟨y2, rfl⟩, hw⟩ := hcut
                      have hw' := hw.symm
                      subst hw'
                      clear hw c0
                      cases y2 with
                      | true =>
                        go_wp2
                        go_roundg (py.length - k - 1)
                        case measure => have := HK4.out; omega
                        case rel => exact ⟨k + 1, Da, a, here, r', mh, by omega, by go_num, ⟨by omega⟩, MEM, PY, BX, B3⟩
                      | false =>
                        obtain ⟨gy, oy, hAy⟩ := row_at PY.out.packs.row (by omega)
                        subst hAy
                        have xr := PY.out.packs.at_ k hlk
                        obtain ⟨p, hp⟩ : ∃ p, py[k] = p := ⟨_, rfl⟩
                        have hmp : p ∈ py := by rw [← hp]; exact List.getElem_mem _
                        rw [hp] at xr
                        have FP := Aside0.mk (FY.out p hmp)
                        have HN := Aside0.mk (Nat.le_refl r)
                        have OKP := Aside0.mk (PY.out.packs.els _ hmp)
                        have OFP := Aside0.mk (PY.out.offa.2 _ hmp)
                        clear hp hmp
                        go_wp2_with ((with_reducible refine gate_dst (N := 208) rfl ?_); refine stop_here ?_)
                        refine ⟨?_⟩
                        refine wpList_load_mid rfl 37 (.tmp 207) rfl gy (oy + k * 4) rfl (Pk.cells p) _ xr Tryd.underlying37 rfl ?hi ?_
                        case hi => rfl
                        clear xr
                        go_wp2_with (go_at_call 13; refine stop_here ?_)
                        refine ⟨?_⟩
                        have HB := Aside0.mk (MEM.out.safe.swap.boundb)
                        have RN := Aside0.mk (MEM.out.safe.swap.hearb FP.out HN.out)
                        refine (hear_calls _ base ga Da a p MEM.out.two.la OKP.out.bytes OKP.out.cap (by have h := FP.out.short MEM.out.safe.hp'; have h2 : p.b.length ≤ 64 := h; omega) OFP.out HB.out.2 HB.out.1.1 HB.out.1.2.1 HB.out.1.2.2.1 HB.out.1.2.2.2.1 HB.out.1.2.2.2.2).mono ?_
                        rintro e w6 ⟨⟨v, ms, D6, he, hL, hD, hM, hmb, hO, hOn⟩, hF⟩
                        rw [RN.out.1, show errW none = .nilIface from rfl] at he
                        subst he
                        have HL6 := Aside0.mk hL
                        have HD6 := Aside0.mk hD
                        have HF6 := Aside0.mk hF
                        have HM6 := Aside0.mk hM
                        have HMB := Aside0.mk hmb
                        have HO6 := Aside0.mk hO
                        have HN6 := Aside0.mk hOn
                        have TT6 := Aside0.mk (MEM.out.th.swap.turn hF hD)
                        have LEN := Aside0.mk (show mh.length + ms.length ≤ 100 by
                          obtain ⟨_, r2, _, hs⟩ := RN.out
                          have h1 := (hs.rb.begins SN2.out).2
                          rw [← hmb, ← MEM.out.th.map, List.length_append, List.length_map, List.length_map, N2.out] at h1
                          omega)
                        have BS := Aside0.mk (show base ≤ w6.heap.size from by have h1 := MEM.out.two.la.ge ga MEM.out.two.la.has; have h2 := hF.size; omega)
                        clear hL hD hM hmb hO hOn hF HB OKP OFP
                        go_wp2_with (at_builtin; refine stop_here ?_)
                        refine ⟨?_⟩
                        refine texts_event (base := base) (B2 := base) (v := u9) (v2 := v) (ms := mh) (ns := ms) rfl (.tmp 214) (.tmp 215) rfl rfl rfl TT6.out.msgs.row HM6.out.row (by have := LEN.out; omega) BS.out ?_
                        intro v7 w7 hq hg hat
                        obtain ⟨r7, hle, hM7⟩ := MEM.out.heara FP.out HN.out HL6.out HD6.out HF6.out HM6.out HMB.out HO6.out HN6.out hq hg hat
                        have MEM7 := Aside0.mk hM7
                        have PY7 := Aside0.mk (PY.out.swap.step HF6.out HD6.out TT6.out.msgs hg).swap
                        have BX7 := Aside0.mk (BX.out.swap.step HF6.out HD6.out TT6.out.msgs hg (by decide)).swap
                        have B7 := Aside0.mk (below_frame (MEM.out.below0 B3.out BW.out HF6.out (fun k hk => (MEM.out.two.la.ge k hk).1)) (Frame.of_grown hg) (Nat.le_trans B3.out.size HF6.out.size) (fun k e => Nat.le_trans BW.out (q_typed TT6.out.msgs.row k e.symm).1))
                        clear hq hg hat hM7 HL6 HD6 HF6 HM6 HMB HO6 HN6 TT6 LEN BS RN MEM B3 FP HN
                        clear PY BX
                        go_wp2
                        go_roundg (py.length - k - 1)
                        case measure => have := HK4.out; omega
                        case rel => exact ⟨k + 1, D6, _, _, r7, _, by omega, by go_num, ⟨by omega⟩, MEM7, PY7, BX7, B7⟩
                  · have ltk : ¬ (k : Int) < (py.length : Int) := by omega
                    obtain ⟨e1, e2⟩ := MEM.out.safe.rb.begins SN1.out
                    obtain ⟨e3, e4⟩ := MEM.out.safe.ra.begins SN2.out
                    obtain ⟨At, ct, hvt, hlt', hTt⟩ := MEM.out.tt.msgs.at_
                    obtain ⟨Ah, ch, hvh, hlh, hTh⟩ := MEM.out.th.msgs.at_
                    subst hvt
                    subst hvh
                    have EQt := Aside0.mk (show mt.length = there.length by rw [← MEM.out.tt.map, List.length_map])
                    have EQh := Aside0.mk (show mh.length = here.length by rw [← MEM.out.th.map, List.length_map])
                    have HTt : Aside0 (TextsAt wr At (l1.take mt.length)) := ⟨by rw [MEM.out.tt.map] at hTt; rw [EQt.out, ← e1]; exact hTt⟩
                    have HTh : Aside0 (TextsAt wr Ah (l2.take mh.length)) := ⟨by rw [MEM.out.th.map] at hTh; rw [EQh.out, ← e3]; exact hTh⟩
                    have LE1 := Aside0.mk (show mt.length ≤ n1 by rw [EQt.out, ← N1.out]; exact e2)
                    have LE2 := Aside0.mk (show mh.length ≤ n2 by rw [EQh.out, ← N2.out]; exact e4)
                    have SL1 := Aside0.mk (show ∀ q ∈ l1, q.length ≤ 9223372036854775807 from fun q hq => by have := (S1.out q hq).2; omega)
                    have SL2 := Aside0.mk (show ∀ q ∈ l2, q.length ≤ 9223372036854775807 from fun q hq => by have := (S2.out q hq).2; omega)
                    clear e1 e2 e3 e4 hTt hTh hlt' hlh PY BX
                    go_wp2_with (go_at_call 14; refine stop_here ?_)
                    refine ⟨?_⟩
                    refine (begins_true wr mt.length n1 At A1 ct c1 l1 HTt.out (T1.out.below B3.out) LE1.out N1.out R1.out (by omega) SL1.out).mono ?_
                    rintro e w8 ⟨rfl, hb⟩
                    have MEM8 := Aside0.mk (MEM.out.below hb)
                    have B8 := Aside0.mk (below_step B3.out hb)
                    have HTh8 := Aside0.mk (HTh.out.below hb)
                    clear hb MEM B3 HTt HTh
                    go_wp2_with (go_at_call 14; refine stop_here ?_)
                    refine ⟨?_⟩
                    refine (begins_true w8 mh.length n2 Ah A2 ch c2 l2 HTh8.out (T2.out.below B8.out) LE2.out N2.out R2.out (by omega) SL2.out).mono ?_
                    rintro e w9 ⟨rfl, hb⟩
                    have MEM9 := Aside0.mk (MEM8.out.below hb)
                    have B9 := Aside0.mk (below_step B8.out hb)
                    clear hb MEM8 B8 HTh8
                    go_wp2
                    go_roundg (n3 - i - 1)
                    case measure => have := HK.out; omega
                    case rel => exact ⟨i + 1, _, _, P, P', _, _, _, _, _, _, _, _, pl, by omega, by go_num, ⟨by omega⟩, MEM9, SN1, SN2, PL9, B9⟩
    · have lt : ¬ (i : Int) < (n3 : Int) := by omega
      go_wp2
      go_ret
      exact ⟨rfl, B3.out⟩
end Go.Proofs.YtafjegfmmnjpfaaDoor.LineT

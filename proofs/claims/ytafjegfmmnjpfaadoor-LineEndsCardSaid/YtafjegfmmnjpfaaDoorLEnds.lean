/- Proved: the law LineEnds answers true; conditions: the theorem's own premises. -/
import Derived.Test.YtafjegfmmnjpfaaDoorLAwake
import Derived.Test.YtafjegfmmnjpfaaDoorLRound
import Derived.Test.YtafjegfmmnjpfaaDoorLMem
namespace Go.Proofs.YtafjegfmmnjpfaaDoor.LineT
open Go.RowKit Go.Proofs.YtafjegfmmnjpfaaDoor.YLine Go.Proofs.YtafjegfmmnjpfaaDoorW.PrintWords Go.Proofs.YtafjegfmmnjpfaaDoorW.PrintLast Go.Proofs.YtafjegfmmnjpfaaDoorW.PrintMore
set_option linter.unusedVariables false
set_option linter.unusedSimpArgs false
/-- A line that sent the first i of these messages. -/
structure SendIs (P : List P4) (l : List (List Int)) (i : Nat) (L : LS) : Prop where
  pcs : Pieces P
  send : Sendr P 0 L
  told : dec P = (l.take i, [])
  few : P.length ≤ 10 * i
  recv : SameRecv ls0 L
  tm : Tm L
theorem send_zero (l : List (List Int)) : SendIs [] l 0 ls0 :=
  ⟨⟨fun i q h => by simp at h, fun i q h => by simp at h, fun i => by rw [List.take_nil]; show 0 ≤ 700; omega, by show 0 ≤ 100; omega⟩, ⟨rfl, rfl, Nat.le_refl _⟩, rfl, Nat.le_refl _, ⟨rfl, rfl, rfl⟩, ⟨by decide, by decide, by decide, by decide⟩⟩
theorem send_is {P : List P4} {l : List (List Int)} {i : Nat} {L : LS} {msg : List Int} (h : SendIs P l i L) (hm : l[i]? = some msg) (h1 : 1 ≤ msg.length ∧ msg.length ≤ 600) (hi : i < 10) : sendE L msg = none ∧ ∃ P2, SendIs P2 l (i + 1) (sendS L msg) := by
  obtain ⟨e, P2, p1, p2, p3, p4, _, p6, p7, _⟩ := send_ok h.pcs h.send h.told h1.1 h1.2 (by have := h.few; omega) h.tm
  have hlt := (List.getElem?_eq_some_iff.1 hm).1
  refine ⟨e, P2, p1, p2, by rw [p3, List.take_succ_eq_append_getElem hlt, (List.getElem?_eq_some_iff.1 hm).2], by have := h.few; omega, ⟨p6.1.trans h.recv.1, p6.2.trans h.recv.2, p6.3.trans h.recv.3⟩, p7⟩
theorem St.start {P P' : List P4} {l l' : List (List Int)} {i i' : Nat} {a b : LS} (h : SendIs P l i a) (h' : SendIs P' l' i' b) : St P P' a b [] [] 0 0 0 0 := by
  have key : ∀ {Q : List P4} {L : LS}, SameRecv ls0 L → Recv Q 0 1 L [] := fun {Q L} h => ⟨by rw [h.1]; rfl, Nat.zero_le _, by rw [h.2, List.take_zero]; rfl, fun p hp => (by rw [h.3] at hp; cases hp), by rw [h.3]; exact List.nodup_nil⟩
  exact ⟨h.send, key h.recv, h'.send, key h'.recv, Nat.le_refl _, Nat.le_refl _, h.tm, h'.tm, .inl rfl, .inl rfl⟩
theorem St.tick {P P' : List P4} {a b : LS} (h : St P P' a b [] [] 0 0 0 0) : St P P' (tickS a) (tickS b) [] [] 0 0 0 0 := by
  obtain ⟨⟨a1, a2, a3⟩, a4, a5, _⟩ := tick_same a
  obtain ⟨⟨b1, b2, b3⟩, b4, b5, _⟩ := tick_same b
  exact ⟨h.sa.of a5 a4, h.ra.of a1 a2 a3, h.sb.of b5 b4, h.rb.of b1 b2 b3, Nat.le_refl _, Nat.le_refl _, tick_tm h.ta, tick_tm h.tb, .inl rfl, .inl rfl⟩
set_option maxHeartbeats 8000000 in
set_option maxRecDepth 100000 in
theorem ends_law (A1 A2 : Option Addr) (n1 n2 c1 c2 : Nat) (l1 l2 : List (List Int)) (lost : Int) (w : World) (hG : Code.Gl w) (hn1 : l1.length = n1) (hn2 : l2.length = n2) (hT1 : TextsAt w A1 l1) (hT2 : TextsAt w A2 l2) (hl1 : ∀ q ∈ l1, q.length ≤ 9223372036854775807) (hl2 : ∀ q ∈ l2, q.length ≤ 9223372036854775807) (h0 : 0 ≤ lost) (h255 : lost ≤ 255) (hlen1 : n1 ≤ 9223372036854775807) (hlen2 : n2 ≤ 9223372036854775807) :
    Calls Tryd.prog 7 #[.slice A1 n1 c1, .slice A2 n2 c2, .int .u8 lost] w fun e w' => e = .returned (.bool true) ∧ Below w.heap.size w w' := by
  have GL := Aside0.mk hG
  have T1 := Aside0.mk hT1
  have T2 := Aside0.mk hT2
  have N1 := Aside0.mk hn1
  have N2 := Aside0.mk hn2
  have LL1 := Aside0.mk hl1
  have LL2 := Aside0.mk hl2
  clear hG hT1 hT2 hn1 hn2 hl1 hl2
  go_enter Tryd.func7, Tryd.ntmps7
  go_wp2_with (go_at_call 8; refine stop_here ?_)
  refine ⟨?_⟩
  refine (awake_calls w GL.out).mono ?_
  rintro e w1 ⟨rfl, hb⟩
  have B1 := Aside0.mk hb
  have G1 := Aside0.mk (GL.out.below hb GL.out.lt)
  clear hb
  by_cases g1 : 10 < n1
  · have g1' : 10 < (n1 : Int) := by omega
    go_wp2_with (go_at_call 8; refine stop_here ?_)
    refine ⟨?_⟩
    refine (awake_calls w1 G1.out).mono ?_
    rintro e w2 ⟨rfl, hb⟩
    go_wp2
    go_ret
    exact ⟨rfl, below_step B1.out hb⟩
  · have g1' : ¬ 10 < (n1 : Int) := by omega
    by_cases g2 : 10 < n2
    · have g2' : 10 < (n2 : Int) := by omega
      go_wp2_with (go_at_call 8; refine stop_here ?_)
      refine ⟨?_⟩
      refine (awake_calls w1 G1.out).mono ?_
      rintro e w2 ⟨rfl, hb⟩
      go_wp2
      go_ret
      exact ⟨rfl, below_step B1.out hb⟩
    · have g2' : ¬ 10 < (n2 : Int) := by omega
      go_wp2_with (go_at_call 9; refine stop_here ?_)
      refine ⟨?_⟩
      refine (short_calls w1 n1 A1 c1 l1 (T1.out.below B1.out) N1.out (by omega) LL1.out).mono ?_
      rintro e w1' ⟨rfl, hw⟩
      have hw' := hw.symm
      subst hw'
      clear hw
      cases hs1 : shortB l1 with
      | false =>
        go_wp2_with (go_at_call 8; refine stop_here ?_)
        refine ⟨?_⟩
        refine (awake_calls w1 G1.out).mono ?_
        rintro e w2 ⟨rfl, hb⟩
        go_wp2
        go_ret
        exact ⟨rfl, below_step B1.out hb⟩
      | true =>
        go_wp2_with (go_at_call 9; refine stop_here ?_)
        refine ⟨?_⟩
        refine (short_calls w1 n2 A2 c2 l2 (T2.out.below B1.out) N2.out (by omega) LL2.out).mono ?_
        rintro e w1' ⟨rfl, hw⟩
        have hw' := hw.symm
        subst hw'
        clear hw
        cases hs2 : shortB l2 with
        | false =>
          go_wp2_with (go_at_call 8; refine stop_here ?_)
          refine ⟨?_⟩
          refine (awake_calls w1 G1.out).mono ?_
          rintro e w2 ⟨rfl, hb⟩
          go_wp2
          go_ret
          exact ⟨rfl, below_step B1.out hb⟩
        | true =>
          have S1 := Aside0.mk (short_all hs1)
          have S2 := Aside0.mk (short_all hs2)
          clear hs1 hs2 LL1 LL2
          go_wp2_with (go_at_call 10; refine stop_here ?_)
          refine ⟨?_⟩
          refine (newl_calls w1).mono ?_
          rintro e w2 ⟨ga, Da, rfl, hLa, hb⟩
          obtain ⟨base, hbase⟩ : ∃ base, w1.heap.size = base := ⟨_, rfl⟩
          have BW := Aside0.mk (show w.heap.size ≤ base by rw [← hbase]; exact B1.out.size)
          rw [hbase] at hLa
          have A2' := Aside0.mk hLa
          have B2 := Aside0.mk (below_step B1.out hb)
          have Z2 := Aside0.mk (show base ≤ w2.heap.size by rw [← hbase]; exact hb.size)
          clear hLa hb hbase
          go_wp2_with (go_at_call 10; refine stop_here ?_)
          refine ⟨?_⟩
          refine (newl_calls w2).mono ?_
          rintro e w3 ⟨gb, Db, rfl, hLb, hb⟩
          have TW := Aside0.mk (show Two w3 base ga gb Da Db ls0 ls0 from ⟨A2'.out.below hb, hLb.lower Z2.out, fun k h1 h2 => by have h3 := (A2'.out.ge k h1).2; have h4 := (hLb.ge k h2).1; omega⟩)
          have B3 := Aside0.mk (below_step B2.out hb)
          clear hLb hb A2' B2
          go_wp2
          go_loopg [9] n1 (fun kq v9 w' => ∃ (i : Nat) (Da : Nat → Prop) (La : LS) (P : List P4), i ≤ n1 ∧ v9 = .int .i64 (i : Int) ∧ Aside0 (kq = n1 - i) ∧ Aside0 (Two w' base ga gb Da Db La ls0) ∧ Aside0 (SendIs P l1 i La) ∧ Aside0 (Below w.heap.size w w'))
          case atStart => exact ⟨0, Da, ls0, [], by omega, rfl, ⟨rfl⟩, TW, ⟨send_zero l1⟩, B3⟩
          case round =>
            clear TW B3 B1
            obtain ⟨i, Da, La, P, hi, rfl, HK, TW, SI, B3⟩ := hrel
            have zi : 0 ≤ (i : Int) := by omega
            by_cases hlt : i < n1
            · have lt : (i : Int) < (n1 : Int) := by omega
              obtain ⟨b, o, hA, hx⟩ := (T1.out.below B3.out) (by rw [N1.out]; omega)
              subst hA
              obtain ⟨Ai, ci, hc, hci, hby⟩ := hx i (by rw [N1.out]; exact hlt)
              obtain ⟨msg, hmsg⟩ : ∃ msg, l1[i]'(by rw [N1.out]; exact hlt) = msg := ⟨_, rfl⟩
              have hms := S1.out msg (by rw [← hmsg]; exact List.getElem_mem _)
              have hmg : l1[i]? = some msg := by rw [List.getElem?_eq_getElem (by rw [N1.out]; exact hlt), hmsg]
              obtain ⟨hE, P2, hS2⟩ := send_is SI.out hmg hms (by omega)
              rw [hmsg] at hc hci hby
              have BY := Aside0.mk hby
              have CI := Aside0.mk hci
              have HS2 := Aside0.mk hS2
              have HE := Aside0.mk hE
              have QL := Aside0.mk (show La.queue.length ≤ 200 by rw [SI.out.send.queue, List.length_drop]; have := SI.out.pcs.cnt; omega)
              have GV := Aside0.mk (show 0 ≤ La.given ∧ La.given ≤ 2305843009213693952 by rw [SI.out.send.given]; have := SI.out.pcs.cnt; omega)
              clear hx hmsg hby hci hmg hS2 hE
              go_wp2_with (go_at_call 11; refine stop_here ?_)
              refine ⟨?_⟩
              refine (send_calls wr base ga Da La Ai ci msg TW.out.la QL.out GV.out.1 GV.out.2 BY.out CI.out (by omega)).mono ?_
              rw [HE.out]
              rintro e w6 ⟨rfl, ⟨D6, hL, hD⟩, hF⟩
              have TW6 := Aside0.mk (TW.out.swap.turn hL hD hF).swap
              have B6 := Aside0.mk (below_line B3.out hF TW.out.la BW.out B3.out.size)
              clear hL hD hF hc TW B3
              rw [show errW none = .nilIface from rfl]
              go_wp2
              go_roundg (n1 - i - 1)
              case measure => have := HK.out; omega
              case rel => exact ⟨i + 1, D6, _, P2, by omega, by go_num, ⟨by omega⟩, TW6, HS2, B6⟩
            · have lt : ¬ (i : Int) < (n1 : Int) := by omega
              have SI1 : Aside0 (SendIs P l1 n1 La) := ⟨by have h := SI.out; rwa [show i = n1 by omega] at h⟩
              clear SI
              go_wp2
              go_loopg [10] n2 (fun kq v10 w' => ∃ (i : Nat) (Db : Nat → Prop) (Lb : LS) (P' : List P4), i ≤ n2 ∧ v10 = .int .i64 (i : Int) ∧ Aside0 (kq = n2 - i) ∧ Aside0 (Two w' base ga gb Da Db La Lb) ∧ Aside0 (SendIs P' l2 i Lb) ∧ Aside0 (Below w.heap.size w w'))
              case atStart => exact ⟨0, Db, ls0, [], by omega, rfl, ⟨rfl⟩, TW, ⟨send_zero l2⟩, B3⟩
              case round =>
                clear TW B3
                obtain ⟨i2, Db, Lb, P', hi2, rfl, HK2, TW, SI, B3⟩ := hrel
                have zi2 : 0 ≤ (i2 : Int) := by omega
                by_cases hlt2 : i2 < n2
                · have lt2 : (i2 : Int) < (n2 : Int) := by omega
                  obtain ⟨b, o, hA, hx⟩ := (T2.out.below B3.out) (by rw [N2.out]; omega)
                  subst hA
                  obtain ⟨Ai, ci, hc, hci, hby⟩ := hx i2 (by rw [N2.out]; exact hlt2)
                  obtain ⟨msg, hmsg⟩ : ∃ msg, l2[i2]'(by rw [N2.out]; exact hlt2) = msg := ⟨_, rfl⟩
                  have hms := S2.out msg (by rw [← hmsg]; exact List.getElem_mem _)
                  have hmg : l2[i2]? = some msg := by rw [List.getElem?_eq_getElem (by rw [N2.out]; exact hlt2), hmsg]
                  obtain ⟨hE, P2, hS2⟩ := send_is SI.out hmg hms (by omega)
                  rw [hmsg] at hc hci hby
                  have BY := Aside0.mk hby
                  have CI := Aside0.mk hci
                  have HS2 := Aside0.mk hS2
                  have HE := Aside0.mk hE
                  have QL := Aside0.mk (show Lb.queue.length ≤ 200 by rw [SI.out.send.queue, List.length_drop]; have := SI.out.pcs.cnt; omega)
                  have GV := Aside0.mk (show 0 ≤ Lb.given ∧ Lb.given ≤ 2305843009213693952 by rw [SI.out.send.given]; have := SI.out.pcs.cnt; omega)
                  clear hx hmsg hby hci hmg hS2 hE
                  go_wp2_with (go_at_call 11; refine stop_here ?_)
                  refine ⟨?_⟩
                  refine (send_calls wr base gb Db Lb Ai ci msg TW.out.lb QL.out GV.out.1 GV.out.2 BY.out CI.out (by omega)).mono ?_
                  rw [HE.out]
                  rintro e w6 ⟨rfl, ⟨D6, hL, hD⟩, hF⟩
                  have TW6 := Aside0.mk (TW.out.turn hL hD hF)
                  have B6 := Aside0.mk (below_line B3.out hF TW.out.lb BW.out B3.out.size)
                  clear hL hD hF hc TW B3
                  rw [show errW none = .nilIface from rfl]
                  go_wp2
                  go_roundg (n2 - i2 - 1)
                  case measure => have := HK2.out; omega
                  case rel => exact ⟨i2 + 1, D6, _, P2, by omega, by go_num, ⟨by omega⟩, TW6, HS2, B6⟩
                · have lt2 : ¬ (i2 : Int) < (n2 : Int) := by omega
                  have SI2 : Aside0 (SendIs P' l2 n2 Lb) := ⟨by have h := SI.out; rwa [show i2 = n2 by omega] at h⟩
                  have HP := Aside0.mk SI1.out.pcs
                  have HP' := Aside0.mk SI2.out.pcs
                  have W1 : Aside0 (dec P = (l1, [])) := ⟨by have h := SI1.out.told; rwa [List.take_of_length_le (by rw [N1.out]; omega)] at h⟩
                  have W2 : Aside0 (dec P' = (l2, [])) := ⟨by have h := SI2.out.told; rwa [List.take_of_length_le (by rw [N2.out]; omega)] at h⟩
                  have ST := Aside0.mk (St.start SI1.out SI2.out)
                  clear SI SI1 SI2
                  obtain ⟨K, hK⟩ : ∃ K : Nat, lost % 100 = (K : Int) := ⟨(lost % 100).toNat, by omega⟩
                  have hKt : lost.tmod 100 = (K : Int) := by rw [Int.tmod_eq_emod_of_nonneg h0, hK]
                  have hK1 : K < 100 := by omega
                  go_wp2
                  go_loopg [11] K (fun kq v11 w' => ∃ (i : Nat) (La Lb : LS), i ≤ K ∧ v11 = .int .i64 (i : Int) ∧ Aside0 (kq = K - i) ∧ Aside0 (Two w' base ga gb Da Db La Lb) ∧ Aside0 (St P P' La Lb [] [] 0 0 0 0) ∧ Aside0 (Below w.heap.size w w'))
                  case atStart => exact ⟨0, La, Lb, by omega, rfl, ⟨rfl⟩, TW, ST, B3⟩
                  case round =>
                    clear TW B3 ST
                    obtain ⟨i3, La, Lb, hi3, rfl, HK3, TW, ST, B3⟩ := hrel
                    have zi3 : 0 ≤ (i3 : Int) := by omega
                    by_cases hlt3 : i3 < K
                    · have lt3 : (i3 : Int) < (K : Int) := by omega
                      go_wp2_with (go_at_call 12; refine stop_here ?_)
                      refine ⟨?_⟩
                      refine (tickl_calls wr base ga Da La TW.out.la (tick_lok HP.out ST.out.sa ST.out.ra HP'.out ST.out.ta)).mono ?_
                      rintro e w4 ⟨⟨vx, px, rfl, hPx, hsx⟩, hL, hF⟩
                      have TW4 := Aside0.mk (TW.out.ticka hL hF)
                      have B4 := Aside0.mk (below_frame B3.out hF B3.out.size (fun k e => by have e' : k = ga := e; rw [e']; exact Nat.le_trans BW.out (TW.out.la.ge ga TW.out.la.has).1))
                      clear hPx hsx hL hF TW B3
                      go_wp2_with (go_at_call 12; refine stop_here ?_)
                      refine ⟨?_⟩
                      refine (tickl_calls w4 base gb Db Lb TW4.out.lb (tick_lok HP'.out ST.out.sb ST.out.rb HP.out ST.out.tb)).mono ?_
                      rintro e w5 ⟨⟨vy, py, rfl, hPy, hsy⟩, hL, hF⟩
                      have TW5 := Aside0.mk (TW4.out.swap.ticka hL hF).swap
                      have B5 := Aside0.mk (below_frame B4.out hF B4.out.size (fun k e => by have e' : k = gb := e; rw [e']; exact Nat.le_trans BW.out (TW4.out.lb.ge gb TW4.out.lb.has).1))
                      have ST5 := Aside0.mk ST.out.tick
                      clear hPy hsy hL hF TW4 B4 ST
                      go_wp2
                      go_roundg (K - i3 - 1)
                      case measure => have := HK3.out; omega
                      case rel => exact ⟨i3 + 1, _, _, by omega, by go_num, ⟨by omega⟩, TW5, ST5, B5⟩
                    · have lt3 : ¬ (i3 : Int) < (K : Int) := by omega
                      have QA := Aside0.mk (show La.queue.length = P.length by rw [ST.out.sa.queue, List.drop_zero])
                      have QB := Aside0.mk (show Lb.queue.length = P'.length by rw [ST.out.sb.queue, List.drop_zero])
                      go_wp2_with (go_at_call 16; refine stop_here ?_)
                      refine ⟨?_⟩
                      refine (waits_calls wr base ga Da La TW.out.la).mono ?_
                      rintro e w4 ⟨rfl, hw⟩
                      have hw' := hw.symm
                      subst hw'
                      clear hw
                      go_wp2_with (go_at_call 16; refine stop_here ?_)
                      refine ⟨?_⟩
                      refine (waits_calls _ base gb Db Lb TW.out.lb).mono ?_
                      rintro e w4 ⟨rfl, hw⟩
                      have hw' := hw.symm
                      subst hw'
                      clear hw
                      obtain ⟨qa, hqa⟩ : ∃ qa, La.queue.length = qa := ⟨_, rfl⟩
                      obtain ⟨qb, hqb⟩ : ∃ qb, Lb.queue.length = qb := ⟨_, rfl⟩
                      rw [hqa, hqb]
                      have QA' := Aside0.mk (show P.length = qa by rw [← QA.out, hqa])
                      have QB' := Aside0.mk (show P'.length = qb by rw [← QB.out, hqb])
                      have qa1 : qa ≤ 100 := by rw [← QA'.out]; exact HP.out.cnt
                      have qb1 : qb ≤ 100 := by rw [← QB'.out]; exact HP'.out.cnt
                      obtain ⟨MM, hMM⟩ : ∃ MM : Nat, 20 + 3 * ((qa : Int) + (qb : Int) + 1) = (MM : Int) := ⟨20 + 3 * (qa + qb + 1), by omega⟩
                      have HM := Aside0.mk (show MM = 23 + 3 * qa + 3 * qb by omega)
                      have MMB : MM ≤ 1000 := by have := HM.out; omega
                      have PH : Aside0 (phi P.length 0 0 La.left ≤ 2 * qa + 15 ∧ phi P'.length 0 0 Lb.left ≤ 2 * qb + 15) := ⟨by
                        obtain ⟨_, _, x1, x2⟩ := ST.out.ta
                        obtain ⟨_, _, y1, y2⟩ := ST.out.tb
                        rw [QA'.out, QB'.out]
                        unfold phi
                        constructor <;> split <;> (try split) <;> omega⟩
                      have HMM := Aside0.mk hMM
                      clear hqa hqb QA QB hMM hK hKt hK1
                      go_upto_region 26 with (fail)
                      rw [HMM.out]
                      have X12 := Aside0.mk (Txt.nil wr base Da Db)
                      go_loopg [12, 13, 15] MM (fun kq v12 v13 v15 w' => ∃ (i : Nat) (Da Db : Nat → Prop) (La Lb : LS) (here there : List (List Int)) (d r d' r' : Nat) (mh mt : List Pk), i ≤ MM ∧ v15 = .int .i64 (i : Int) ∧ Aside0 (kq = MM - i) ∧ Aside0 (Two w' base ga gb Da Db La Lb) ∧ Aside0 (St P P' La Lb here there d r d' r') ∧ Aside0 ((phi P.length d r La.left + i ≤ 2 * qa + 15 ∨ phi P.length d r La.left = 0) ∧ (phi P'.length d' r' Lb.left + i ≤ 2 * qb + 15 ∨ phi P'.length d' r' Lb.left = 0)) ∧ Aside0 (Txt w' base Da Db v12 mh here) ∧ Aside0 (Txt w' base Da Db v13 mt there) ∧ Aside0 (∀ k, v12.ownBlock = some k → some k ≠ v13.ownBlock) ∧ Aside0 (Below w.heap.size w w'))
                      case atStart => exact ⟨0, Da, Db, La, Lb, [], [], 0, 0, 0, 0, [], [], by omega, rfl, ⟨rfl⟩, TW, ST, ⟨.inl PH.out.1, .inl PH.out.2⟩, X12, X12, ⟨fun k hk => (by cases hk)⟩, B3⟩
                      case round =>
                        clear TW ST B3 PH X12
                        obtain ⟨i, Da, Db, La, Lb, here, there, d, r, d', r', mh, mt, hi, rfl, HK, TW, ST, PH, TH, TT, AP, B3⟩ := hrel
                        have zi : 0 ≤ (i : Int) := by omega
                        by_cases hlt : i < MM
                        · have lt : (i : Int) < (MM : Int) := by omega
                          go_wp2_with (go_at_call 12; refine stop_here ?_)
                          refine ⟨?_⟩
                          refine (tickl_calls wr base ga Da La TW.out.la (tick_lok HP.out ST.out.sa ST.out.ra HP'.out ST.out.ta)).mono ?_
                          rintro e w4 ⟨⟨vx, px, rfl, hPx, hsx⟩, hL, hF⟩
                          have PX4 := Aside0.mk (Pks.new TW.out hPx)
                          have TW4 := Aside0.mk (TW.out.ticka hL hF)
                          have TH4 := Aside0.mk (TH.out.keep hF (TH.out.offa.one TW.out.la.has))
                          have TT4 := Aside0.mk (TT.out.keep hF (TT.out.offa.one TW.out.la.has))
                          have B4 := Aside0.mk (below_frame B3.out hF B3.out.size (fun k e => by have e' : k = ga := e; rw [e']; exact Nat.le_trans BW.out (TW.out.la.ge ga TW.out.la.has).1))
                          have SX := Aside0.mk hsx
                          have BX := Aside0.mk (show base ≤ wr.heap.size from by have h1 := TW.out.la.ge ga TW.out.la.has; omega)
                          obtain ⟨bx, hbx⟩ : ∃ bx, wr.heap.size = bx := ⟨_, rfl⟩
                          rw [hbx] at PX4 BX
                          clear hPx hsx hL hF TW TH TT B3 hbx
                          go_wp2_with (go_at_call 12; refine stop_here ?_)
                          refine ⟨?_⟩
                          refine (tickl_calls w4 base gb Db Lb TW4.out.lb (tick_lok HP'.out ST.out.sb ST.out.rb HP.out ST.out.tb)).mono ?_
                          rintro e w5 ⟨⟨vy, py, rfl, hPy, hsy⟩, hL, hF⟩
                          have PY5 := Aside0.mk (Pks.new TW4.out hPy)
                          have TW5 := Aside0.mk (TW4.out.swap.ticka hL hF).swap
                          have TH5 := Aside0.mk (TH4.out.keep hF (TH4.out.offb.one TW4.out.lb.has))
                          have TT5 := Aside0.mk (TT4.out.keep hF (TT4.out.offb.one TW4.out.lb.has))
                          have PX5 := Aside0.mk (PX4.out.keep hF (PX4.out.offb.one TW4.out.lb.has))
                          have B5 := Aside0.mk (below_frame B4.out hF B4.out.size (fun k e => by have e' : k = gb := e; rw [e']; exact Nat.le_trans BW.out (TW4.out.lb.ge gb TW4.out.lb.has).1))
                          have SY := Aside0.mk hsy
                          obtain ⟨bY, hbY⟩ : ∃ bY, w4.heap.size = bY := ⟨_, rfl⟩
                          rw [hbY] at PY5
                          clear hPy hsy hL hF TW4 TH4 TT4 PX4 B4 hbY
                          obtain ⟨X, hX⟩ : ∃ X, tickOutS La = X := ⟨_, rfl⟩
                          obtain ⟨Y, hY⟩ : ∃ Y, tickOutS Lb = Y := ⟨_, rfl⟩
                          rw [hX] at SX
                          rw [hY] at SY
                          have FX : Aside0 (∀ p ∈ X, Fine P r' p) := ⟨by rw [← hX]; exact tick_fine HP.out ST.out.sa ST.out.ra⟩
                          have FY : Aside0 (∀ p ∈ Y, Fine P' r p) := ⟨by rw [← hY]; exact tick_fine HP'.out ST.out.sb ST.out.rb⟩
                          have EX := Aside0.mk hX
                          have EY := Aside0.mk hY
                          clear hX hY
                          have RB := Aside0.mk (show Recv P r (r + 1) (tickS Lb) there from (fun h => ST.out.rb.of h.1.1 h.1.2 h.1.3) (tick_same Lb))
                          have SB := Aside0.mk (show Sendr P' d' (tickS Lb) from (fun h => ST.out.sb.of h.2.2.1 h.2.1) (tick_same Lb))
                          have RA := Aside0.mk (show Recv P' r' (r' + 1) (tickS La) here from (fun h => ST.out.ra.of h.1.1 h.1.2 h.1.3) (tick_same La))
                          have SA := Aside0.mk (show Sendr P d (tickS La) from (fun h => ST.out.sa.of h.2.2.1 h.2.1) (tick_same La))
                          have RUN1 := Aside0.mk (hears_run HP.out HP'.out ST.out.ra.le RB.out SB.out FX.out (tick_tm ST.out.tb))
                          have RUN2 := Aside0.mk (hears_run HP'.out HP.out ST.out.rb.le RA.out SA.out FY.out (tick_tm ST.out.ta))
                          have FEW1 := Aside0.mk (hears_few HP.out HP'.out ST.out.ra.le RB.out SB.out FX.out (tick_tm ST.out.tb))
                          have FEW2 := Aside0.mk (hears_few HP'.out HP.out ST.out.rb.le RA.out SA.out FY.out (tick_tm ST.out.ta))
                          obtain ⟨Ax, cx, hvx, hcx⟩ := q_slice PX5.out.packs.row
                          subst hvx
                          obtain ⟨Ay, cy, hvy, hcy⟩ := q_slice PY5.out.packs.row
                          subst hvy
                          have LX := Aside0.mk (show X.length = px.length by rw [← SX.out, List.length_map])
                          have LY := Aside0.mk (show Y.length = py.length by rw [← SY.out, List.length_map])
                          obtain ⟨Sb, hSSb⟩ : ∃ Sb : Nat → LS × List (List Int), (fun k => hearsS (tickS Lb, there) (X.take k)) = Sb := ⟨_, rfl⟩
                          have ESb : Aside0 (∀ k, Sb k = hearsS (tickS Lb, there) (X.take k)) := ⟨fun k => by rw [← hSSb]⟩
                          have ZB0 : Aside0 ((Sb 0).1 = tickS Lb ∧ (Sb 0).2 = there) := ⟨by rw [ESb.out, List.take_zero]; exact ⟨rfl, rfl⟩⟩
                          have FEWb : Aside0 (∀ k, (Sb k).2.length ≤ 100) := ⟨fun k => by rw [ESb.out]; exact FEW1.out k⟩
                          clear hSSb
                          obtain ⟨Sa, hSSa⟩ : ∃ Sa : Nat → LS × List (List Int), (fun k => hearsS (tickS La, here) (Y.take k)) = Sa := ⟨_, rfl⟩
                          have ESa : Aside0 (∀ k, Sa k = hearsS (tickS La, here) (Y.take k)) := ⟨fun k => by rw [← hSSa]⟩
                          have ZA0 : Aside0 ((Sa 0).1 = tickS La ∧ (Sa 0).2 = here) := ⟨by rw [ESa.out, List.take_zero]; exact ⟨rfl, rfl⟩⟩
                          have FEWa : Aside0 (∀ k, (Sa k).2.length ≤ 100) := ⟨fun k => by rw [ESa.out]; exact FEW2.out k⟩
                          clear hSSa
                          go_upto_region 31 with (fail)
                          go_loopg [13, 18] px.length (fun kq v13 v18 w' => ∃ (k : Nat) (Db : Nat → Prop) (mt : List Pk), k ≤ px.length ∧ v18 = .int .i64 (k : Int) ∧ Aside0 (kq = px.length - k) ∧ Aside0 (Two w' base ga gb Da Db (tickS La) (Sb k).1) ∧ Aside0 (Txt w' base Da Db u12 mh here) ∧ Aside0 (Txt w' base Da Db v13 mt (Sb k).2) ∧ Aside0 (∀ k, u12.ownBlock = some k → some k ≠ v13.ownBlock) ∧ Aside0 (Pks w' bx Da Db (.slice Ax px.length cx) px) ∧ Aside0 (Pks w' bY Da Db (.slice Ay py.length cy) py) ∧ Aside0 (Below w.heap.size w w'))
                          case atStart => exact ⟨0, Db, mt, by omega, rfl, ⟨rfl⟩, ⟨by rw [ZB0.out.1]; exact TW5.out⟩, TH5, ⟨by rw [ZB0.out.2]; exact TT5.out⟩, AP, PX5, PY5, B5⟩
                          case round =>
                            clear TW5 TH5 TT5 PX5 PY5 B5 ZB0 AP
                            obtain ⟨k, Db, mt2, hk, rfl, HK2, TW5, TH5, TT5, AP, PX5, PY5, B5⟩ := hrel
                            have zk : 0 ≤ (k : Int) := by omega
                            have pxm : px.length ≤ 9223372036854775807 := q_max PX5.out.packs.row
                            by_cases hlk : k < px.length
                            · have ltk : (k : Int) < (px.length : Int) := by omega
                              obtain ⟨gx, ox, hAx⟩ := row_at PX5.out.packs.row (by omega)
                              subst hAx
                              have xr := PX5.out.packs.at_ k hlk
                              obtain ⟨p, hp⟩ : ∃ p, px[k] = p := ⟨_, rfl⟩
                              have hmem : p ∈ px := by rw [← hp]; exact List.getElem_mem _
                              rw [hp] at xr
                              have HX := Aside0.mk (show X[k]? = some p.say by rw [← SX.out, List.getElem?_map, List.getElem?_eq_getElem hlk, hp]; rfl)
                              have OKP := Aside0.mk (PX5.out.packs.els p hmem)
                              have OFP := Aside0.mk (PX5.out.offb.2 p hmem)
                              have RN := Aside0.mk (RUN1.out k p.say HX.out)
                              have ST1 := Aside0.mk (hearsS_succ (tickS Lb, there) X k p.say HX.out)
                              rw [← ESb.out k] at RN ST1
                              rw [← ESb.out (k + 1)] at ST1
                              have FP := Aside0.mk (FX.out p.say (List.mem_of_getElem? HX.out))
                              clear hmem hp
                              go_wp2_with ((with_reducible refine gate_dst (N := 120) rfl ?_); refine stop_here ?_)
                              refine ⟨?_⟩
                              refine wpList_load_mid rfl 37 (.tmp 119) rfl gx (ox + k * 4) rfl (Pk.cells p) _ xr Tryd.underlying37 rfl ?hi ?_
                              case hi => rfl
                              clear xr
                              go_wp2_with (go_at_call 13; refine stop_here ?_)
                              refine ⟨?_⟩
                              have HB : Aside0 (((Sb k).1.coming.length ≤ 1000000 ∧ (∀ p ∈ (Sb k).1.kept, p.f3.length ≤ 1000000) ∧ 0 ≤ (Sb k).1.await ∧ (Sb k).1.kept.length ≤ 90000 ∧ (Sb k).1.await ≤ 2305843009213693952) ∧ (Sb k).1.queue.length ≤ 200) := ⟨by
                                obtain ⟨_, r5, d5, hR5, hS5⟩ := RN.out
                                exact ⟨hear_bounds HP.out hR5, by rw [hS5.queue, List.length_drop]; have := HP'.out.cnt; omega⟩⟩
                              have PL := Aside0.mk (show p.b.length ≤ 1000000 by
                                rcases FP.out.body with ⟨_, _, h3⟩ | ⟨i, hl⟩
                                · have h4 : p.b = [] := h3
                                  rw [h4]
                                  show 0 ≤ _
                                  omega
                                · have h4 : p.b.length ≤ 64 := (hl.fit HP.out).2.1
                                  omega)
                              refine (hear_calls wr base gb Db (Sb k).1 p TW5.out.lb OKP.out.bytes OKP.out.cap PL.out OFP.out HB.out.2 HB.out.1.1 HB.out.1.2.1 HB.out.1.2.2.1 HB.out.1.2.2.2.1 HB.out.1.2.2.2.2).mono ?_
                              rintro e w6 ⟨⟨v, ms, D6, he, hL, hD, hM, hmb, hO, hOn⟩, hF⟩
                              rw [RN.out.1, show errW none = .nilIface from rfl] at he
                              subst he
                              have TW6 := Aside0.mk (TW5.out.turn hL hD hF)
                              have TH6 := Aside0.mk (TH5.out.turn hF hD)
                              have TT6 := Aside0.mk (TT5.out.turn hF hD)
                              have PX6 := Aside0.mk (PX5.out.turn hF hD)
                              have PY6 := Aside0.mk (PY5.out.turn hF hD)
                              have OA := Aside0.mk (Off.on hOn TW5.out.dis TW5.out.lta)
                              have OB := Aside0.mk hO
                              have M6 := Aside0.mk hM
                              have MB := Aside0.mk hmb
                              have B6 := Aside0.mk (below_frame B5.out hF B5.out.size (fun k hk => Nat.le_trans BW.out (TW5.out.lb.ge k hk).1))
                              clear hL hD hM hmb hO hOn hF TW5 TH5 TT5 PX5 PY5 B5 HB PL OKP OFP
                              have ER := Aside0.mk (show (Sb (k + 1)).1 = (hearS (Sb k).1 p.say).1 ∧ (Sb (k + 1)).2 = (Sb k).2 ++ ms.map Pk.b from by rw [ST1.out, MB.out]; exact ⟨rfl, rfl⟩)
                              have LEN := Aside0.mk (show mt2.length + ms.length ≤ 100 by
                                have h1 := FEWb.out (k + 1)
                                rw [ER.out.2, ← TT6.out.map, List.length_append, List.length_map, List.length_map] at h1
                                exact h1)
                              go_wp2_with (at_builtin; refine stop_here ?_)
                              refine ⟨?_⟩
                              refine texts_event (base := base) (B2 := base) (v := u13) (v2 := v) (ms := mt2) (ns := ms) rfl (.tmp 126) (.tmp 127) rfl rfl rfl TT6.out.msgs.row M6.out.row (by have := LEN.out; omega) (by have h1 := TW6.out.la.ge ga TW6.out.la.has; omega) ?_
                              intro v7 w7 hq hg hat
                              have TW7 : Aside0 (Two w7 base ga gb Da D6 (tickS La) (Sb (k + 1)).1) := ⟨by rw [ER.out.1]; exact TW6.out.app TT6.out hg⟩
                              have TT7 : Aside0 (Txt w7 base Da D6 v7 (mt2 ++ ms) (Sb (k + 1)).2) := ⟨by rw [ER.out.2]; exact Txt.app TW6.out TT6.out M6.out OA.out OB.out hq hg hat⟩
                              have TH7 := Aside0.mk (TH6.out.keep (Frame.of_grown hg) (TH6.out.msgs.off_row TT6.out.msgs AP.out))
                              have AP7 := Aside0.mk (own_apart AP.out TH6.out.msgs.inn.1 hat)
                              have PX7 := Aside0.mk (PX6.out.keep (Frame.of_grown hg) (PX6.out.packs.off_row TT6.out.msgs))
                              have PY7 := Aside0.mk (PY6.out.keep (Frame.of_grown hg) (PY6.out.packs.off_row TT6.out.msgs))
                              have B7 := Aside0.mk (below_frame B6.out (Frame.of_grown hg) B6.out.size (fun k e => Nat.le_trans BW.out (q_typed TT6.out.msgs.row k e.symm).1))
                              clear hq hg hat TW6 TT6 TH6 PX6 PY6 B6 OA OB M6 MB AP ER LEN RN ST1 FP HX
                              go_wp2
                              go_roundg (px.length - k - 1)
                              case measure => have := HK2.out; omega
                              case rel => exact ⟨k + 1, D6, mt2 ++ ms, by omega, by go_num, ⟨by omega⟩, TW7, TH7, TT7, AP7, PX7, PY7, B7⟩
                            · have ltk : ¬ (k : Int) < (px.length : Int) := by omega
                              have EK : Aside0 (Sb k = hearsS (tickS Lb, there) X) := ⟨by rw [ESb.out, List.take_of_length_le (by rw [LX.out]; omega)]⟩
                              rw [EK.out] at TW5 TT5
                              clear EK HK2
                              have TW5' := Aside0.mk TW5.out.swap
                              have TH5' := Aside0.mk TH5.out.swap
                              have TT5' := Aside0.mk TT5.out.swap
                              have PX5' := Aside0.mk PX5.out.swap
                              have PY5' := Aside0.mk PY5.out.swap
                              have AP' := Aside0.mk (own_swap AP.out)
                              clear TW5 TH5 TT5 PX5 PY5 AP
                              have TW5 := TW5'
                              have TH5 := TT5'
                              have TT5 := TH5'
                              have PX5 := PY5'
                              have PY5 := PX5'
                              have AP := AP'
                              clear TW5' TH5' TT5' PX5' PY5' AP'
                              go_upto_region 38 with (fail)
                              go_loopg [12, 21] py.length (fun kq v12 v21 w' => ∃ (k : Nat) (Da : Nat → Prop) (mt : List Pk), k ≤ py.length ∧ v21 = .int .i64 (k : Int) ∧ Aside0 (kq = py.length - k) ∧ Aside0 (Two w' base gb ga Db Da (hearsS (tickS Lb, there) X).1 (Sa k).1) ∧ Aside0 (Txt w' base Db Da u13 mt2 (hearsS (tickS Lb, there) X).2) ∧ Aside0 (Txt w' base Db Da v12 mt (Sa k).2) ∧ Aside0 (∀ k, u13.ownBlock = some k → some k ≠ v12.ownBlock) ∧ Aside0 (Pks w' bY Db Da (.slice Ay py.length cy) py) ∧ Aside0 (Pks w' bx Db Da (.slice Ax px.length cx) px) ∧ Aside0 (Below w.heap.size w w'))
                              case atStart => exact ⟨0, Da, mh, by omega, rfl, ⟨rfl⟩, ⟨by rw [ZA0.out.1]; exact TW5.out⟩, TH5, ⟨by rw [ZA0.out.2]; exact TT5.out⟩, AP, PX5, PY5, B5⟩
                              case round =>
                                clear TW5 TH5 TT5 PX5 PY5 B5 ZA0 AP
                                obtain ⟨k, Da, mt2, hk, rfl, HK2, TW5, TH5, TT5, AP, PX5, PY5, B5⟩ := hrel
                                have zk : 0 ≤ (k : Int) := by omega
                                have pxm : py.length ≤ 9223372036854775807 := q_max PX5.out.packs.row
                                by_cases hlk : k < py.length
                                · have ltk : (k : Int) < (py.length : Int) := by omega
                                  obtain ⟨gx, ox, hAx⟩ := row_at PX5.out.packs.row (by omega)
                                  subst hAx
                                  have xr := PX5.out.packs.at_ k hlk
                                  obtain ⟨p, hp⟩ : ∃ p, py[k] = p := ⟨_, rfl⟩
                                  have hmem : p ∈ py := by rw [← hp]; exact List.getElem_mem _
                                  rw [hp] at xr
                                  have HX := Aside0.mk (show Y[k]? = some p.say by rw [← SY.out, List.getElem?_map, List.getElem?_eq_getElem hlk, hp]; rfl)
                                  have OKP := Aside0.mk (PX5.out.packs.els p hmem)
                                  have OFP := Aside0.mk (PX5.out.offb.2 p hmem)
                                  have RN := Aside0.mk (RUN2.out k p.say HX.out)
                                  have ST1 := Aside0.mk (hearsS_succ (tickS La, here) Y k p.say HX.out)
                                  rw [← ESa.out k] at RN ST1
                                  rw [← ESa.out (k + 1)] at ST1
                                  have FP := Aside0.mk (FY.out p.say (List.mem_of_getElem? HX.out))
                                  clear hmem hp
                                  go_wp2_with ((with_reducible refine gate_dst (N := 140) rfl ?_); refine stop_here ?_)
                                  refine ⟨?_⟩
                                  refine wpList_load_mid rfl 37 (.tmp 139) rfl gx (ox + k * 4) rfl (Pk.cells p) _ xr Tryd.underlying37 rfl ?hi ?_
                                  case hi => rfl
                                  clear xr
                                  go_wp2_with (go_at_call 13; refine stop_here ?_)
                                  refine ⟨?_⟩
                                  have HB : Aside0 (((Sa k).1.coming.length ≤ 1000000 ∧ (∀ p ∈ (Sa k).1.kept, p.f3.length ≤ 1000000) ∧ 0 ≤ (Sa k).1.await ∧ (Sa k).1.kept.length ≤ 90000 ∧ (Sa k).1.await ≤ 2305843009213693952) ∧ (Sa k).1.queue.length ≤ 200) := ⟨by
                                    obtain ⟨_, r5, d5, hR5, hS5⟩ := RN.out
                                    exact ⟨hear_bounds HP'.out hR5, by rw [hS5.queue, List.length_drop]; have := HP.out.cnt; omega⟩⟩
                                  have PL := Aside0.mk (show p.b.length ≤ 1000000 by
                                    rcases FP.out.body with ⟨_, _, h3⟩ | ⟨i, hl⟩
                                    · have h4 : p.b = [] := h3
                                      rw [h4]
                                      show 0 ≤ _
                                      omega
                                    · have h4 : p.b.length ≤ 64 := (hl.fit HP'.out).2.1
                                      omega)
                                  refine (hear_calls wr base ga Da (Sa k).1 p TW5.out.lb OKP.out.bytes OKP.out.cap PL.out OFP.out HB.out.2 HB.out.1.1 HB.out.1.2.1 HB.out.1.2.2.1 HB.out.1.2.2.2.1 HB.out.1.2.2.2.2).mono ?_
                                  rintro e w6 ⟨⟨v, ms, D6, he, hL, hD, hM, hmb, hO, hOn⟩, hF⟩
                                  rw [RN.out.1, show errW none = .nilIface from rfl] at he
                                  subst he
                                  have TW6 := Aside0.mk (TW5.out.turn hL hD hF)
                                  have TH6 := Aside0.mk (TH5.out.turn hF hD)
                                  have TT6 := Aside0.mk (TT5.out.turn hF hD)
                                  have PX6 := Aside0.mk (PX5.out.turn hF hD)
                                  have PY6 := Aside0.mk (PY5.out.turn hF hD)
                                  have OA := Aside0.mk (Off.on hOn TW5.out.dis TW5.out.lta)
                                  have OB := Aside0.mk hO
                                  have M6 := Aside0.mk hM
                                  have MB := Aside0.mk hmb
                                  have B6 := Aside0.mk (below_frame B5.out hF B5.out.size (fun k hk => Nat.le_trans BW.out (TW5.out.lb.ge k hk).1))
                                  clear hL hD hM hmb hO hOn hF TW5 TH5 TT5 PX5 PY5 B5 HB PL OKP OFP
                                  have ER := Aside0.mk (show (Sa (k + 1)).1 = (hearS (Sa k).1 p.say).1 ∧ (Sa (k + 1)).2 = (Sa k).2 ++ ms.map Pk.b from by rw [ST1.out, MB.out]; exact ⟨rfl, rfl⟩)
                                  have LEN := Aside0.mk (show mt2.length + ms.length ≤ 100 by
                                    have h1 := FEWa.out (k + 1)
                                    rw [ER.out.2, ← TT6.out.map, List.length_append, List.length_map, List.length_map] at h1
                                    exact h1)
                                  go_wp2_with (at_builtin; refine stop_here ?_)
                                  refine ⟨?_⟩
                                  refine texts_event (base := base) (B2 := base) (v := u12) (v2 := v) (ms := mt2) (ns := ms) rfl (.tmp 146) (.tmp 147) rfl rfl rfl TT6.out.msgs.row M6.out.row (by have := LEN.out; omega) (by have h1 := TW6.out.la.ge gb TW6.out.la.has; omega) ?_
                                  intro v7 w7 hq hg hat
                                  have TW7 : Aside0 (Two w7 base gb ga Db D6 (hearsS (tickS Lb, there) X).1 (Sa (k + 1)).1) := ⟨by rw [ER.out.1]; exact TW6.out.app TT6.out hg⟩
                                  have TT7 : Aside0 (Txt w7 base Db D6 v7 (mt2 ++ ms) (Sa (k + 1)).2) := ⟨by rw [ER.out.2]; exact Txt.app TW6.out TT6.out M6.out OA.out OB.out hq hg hat⟩
                                  have TH7 := Aside0.mk (TH6.out.keep (Frame.of_grown hg) (TH6.out.msgs.off_row TT6.out.msgs AP.out))
                                  have AP7 := Aside0.mk (own_apart AP.out TH6.out.msgs.inn.1 hat)
                                  have PX7 := Aside0.mk (PX6.out.keep (Frame.of_grown hg) (PX6.out.packs.off_row TT6.out.msgs))
                                  have PY7 := Aside0.mk (PY6.out.keep (Frame.of_grown hg) (PY6.out.packs.off_row TT6.out.msgs))
                                  have B7 := Aside0.mk (below_frame B6.out (Frame.of_grown hg) B6.out.size (fun k e => Nat.le_trans BW.out (q_typed TT6.out.msgs.row k e.symm).1))
                                  clear hq hg hat TW6 TT6 TH6 PX6 PY6 B6 OA OB M6 MB AP ER LEN RN ST1 FP HX
                                  go_wp2
                                  go_roundg (py.length - k - 1)
                                  case measure => have := HK2.out; omega
                                  case rel => exact ⟨k + 1, D6, mt2 ++ ms, by omega, by go_num, ⟨by omega⟩, TW7, TH7, TT7, AP7, PX7, PY7, B7⟩
                                · have ltk : ¬ (k : Int) < (py.length : Int) := by omega
                                  have EK : Aside0 (Sa k = hearsS (tickS La, here) Y) := ⟨by rw [ESa.out, List.take_of_length_le (by rw [LY.out]; omega)]⟩
                                  rw [EK.out] at TW5 TT5
                                  clear EK HK2
                                  obtain ⟨r2, r2', hST, hp1, hp2⟩ := round_ok HP.out HP'.out ST.out
                                  have EA : Aside0 (hearsS (tickS La, here) Y = roundA La Lb here) := ⟨by rw [← EY.out]; rfl⟩
                                  have EB : Aside0 (hearsS (tickS Lb, there) X = roundA Lb La there) := ⟨by rw [← EX.out]; rfl⟩
                                  rw [EA.out, EB.out] at TW5
                                  rw [EB.out] at TH5
                                  rw [EA.out] at TT5
                                  have STn := Aside0.mk hST
                                  have PHn : Aside0 ((phi P.length r r2 (roundA La Lb here).1.left + (i + 1) ≤ 2 * qa + 15 ∨ phi P.length r r2 (roundA La Lb here).1.left = 0) ∧ (phi P'.length r' r2' (roundA Lb La there).1.left + (i + 1) ≤ 2 * qb + 15 ∨ phi P'.length r' r2' (roundA Lb La there).1.left = 0)) := ⟨by
                                    have h := PH.out
                                    constructor
                                    · rcases hp1 with h1 | h1
                                      · rcases h.1 with h2 | h2 <;> omega
                                      · exact .inr h1
                                    · rcases hp2 with h1 | h1
                                      · rcases h.2 with h2 | h2 <;> omega
                                      · exact .inr h1⟩
                                  have TWn := Aside0.mk TW5.out.swap
                                  have TTn := Aside0.mk TH5.out.swap
                                  have THn := Aside0.mk TT5.out.swap
                                  have APn := Aside0.mk (own_swap AP.out)
                                  clear hST hp1 hp2 EA EB TW5 TH5 TT5 AP PX5 PY5 RUN1 RUN2 FEW1 FEW2 FEWa FEWb ESa ESb SX SY FX FY EX EY ST PH
                                  go_wp2
                                  go_roundg (MM - i - 1)
                                  case measure => have := HK.out; omega
                                  case rel => exact ⟨i + 1, _, _, _, _, _, _, _, _, _, _, _, _, by omega, by go_num, ⟨by omega⟩, TWn, STn, PHn, THn, TTn, APn, B5⟩
                        · have lt : ¬ (i : Int) < (MM : Int) := by omega
                          have ZA : Aside0 (there = l1 ∧ La.queue = [] ∧ Lb.kept = []) := ⟨end_ok ST.out W1.out (by have h := PH.out.1; have h2 := HM.out; rcases h with h | h <;> omega)⟩
                          have ZB : Aside0 (here = l2 ∧ Lb.queue = [] ∧ La.kept = []) := ⟨end_ok ST.out.swap W2.out (by have h := PH.out.2; have h2 := HM.out; rcases h with h | h <;> omega)⟩
                          obtain ⟨At, ct, hvt, hlt', hTt⟩ := TT.out.msgs.at_
                          obtain ⟨Ah, ch, hvh, hlh, hTh⟩ := TH.out.msgs.at_
                          subst hvt
                          subst hvh
                          have HTt := Aside0.mk hTt
                          have HTh := Aside0.mk hTh
                          have EQt := Aside0.mk (show mt.length = n1 by rw [← N1.out, ← ZA.out.1, ← TT.out.map, List.length_map])
                          have EQh := Aside0.mk (show mh.length = n2 by rw [← N2.out, ← ZB.out.1, ← TH.out.map, List.length_map])
                          rw [EQt.out, EQh.out]
                          have WT1 := Aside0.mk (T1.out.below B3.out)
                          have WT2 := Aside0.mk (T2.out.below B3.out)
                          have SL1 := Aside0.mk (show ∀ q ∈ l1, q.length ≤ 9223372036854775807 from fun q hq => by have := (S1.out q hq).2; omega)
                          have SL2 := Aside0.mk (show ∀ q ∈ l2, q.length ≤ 9223372036854775807 from fun q hq => by have := (S2.out q hq).2; omega)
                          clear hTt hTh hlt' hlh
                          go_wp2_with (go_at_call 19; refine stop_here ?_)
                          refine ⟨?_⟩
                          refine (same_true wr n1 At A1 ct c1 l1 (by have h := HTt.out; rwa [TT.out.map, ZA.out.1] at h) WT1.out N1.out (by omega) SL1.out).mono ?_
                          rintro e w4 ⟨rfl, hb⟩
                          have TW4 := Aside0.mk (TW.out.keep (Frame.of_below hb) (fun _ _ h => h) (fun _ _ h => h))
                          have B4 := Aside0.mk (below_step B3.out hb)
                          have H4 : Aside0 (TextsAt w4 Ah l2) := ⟨by have h := HTh.out.below hb; rwa [TH.out.map, ZB.out.1] at h⟩
                          have W4 := Aside0.mk (WT2.out.below hb)
                          clear hb TW B3 HTt HTh WT1 WT2 TT TH
                          go_wp2_with (go_at_call 19; refine stop_here ?_)
                          refine ⟨?_⟩
                          refine (same_true w4 n2 Ah A2 ch c2 l2 H4.out W4.out N2.out (by omega) SL2.out).mono ?_
                          rintro e w5 ⟨rfl, hb⟩
                          have TW5 := Aside0.mk (TW4.out.keep (Frame.of_below hb) (fun _ _ h => h) (fun _ _ h => h))
                          have B5 := Aside0.mk (below_step B4.out hb)
                          clear hb TW4 B4
                          go_wp2_with (go_at_call 16; refine stop_here ?_)
                          refine ⟨?_⟩
                          refine (waits_calls w5 base ga _ La TW5.out.la).mono ?_
                          rintro e w6 ⟨rfl, hw⟩
                          have hw' := hw.symm
                          subst hw'
                          clear hw
                          rw [show (La.queue.length : Int) = 0 by rw [ZA.out.2.1]; rfl]
                          go_wp2_with (go_at_call 16; refine stop_here ?_)
                          refine ⟨?_⟩
                          refine (waits_calls w5 base gb _ Lb TW5.out.lb).mono ?_
                          rintro e w6 ⟨rfl, hw⟩
                          have hw' := hw.symm
                          subst hw'
                          clear hw
                          rw [show (Lb.queue.length : Int) = 0 by rw [ZB.out.2.1]; rfl]
                          go_wp2_with (go_at_call 24; refine stop_here ?_)
                          refine ⟨?_⟩
                          refine (kept_calls w5 base ga _ La TW5.out.la).mono ?_
                          rintro e w6 ⟨rfl, hw⟩
                          have hw' := hw.symm
                          subst hw'
                          clear hw
                          rw [show (La.kept.length : Int) = 0 by rw [ZB.out.2.2]; rfl]
                          go_wp2_with (go_at_call 24; refine stop_here ?_)
                          refine ⟨?_⟩
                          refine (kept_calls w5 base gb _ Lb TW5.out.lb).mono ?_
                          rintro e w6 ⟨rfl, hw⟩
                          have hw' := hw.symm
                          subst hw'
                          clear hw
                          rw [show (Lb.kept.length : Int) = 0 by rw [ZA.out.2.2]; rfl]
                          go_wp2
                          go_ret
                          exact ⟨rfl, B5.out⟩
end Go.Proofs.YtafjegfmmnjpfaaDoor.LineT

/- Proved: the law LineRoom answers true; conditions: the theorem's own premises. -/
import Derived.Test.YtafjegfmmnjpfaaDoorLAwake
import Derived.Test.YtafjegfmmnjpfaaDoorLOpen
namespace Go.Proofs.YtafjegfmmnjpfaaDoor.LineT
open Go.RowKit Go.Proofs.YtafjegfmmnjpfaaDoor.YLine Go.Proofs.YtafjegfmmnjpfaaDoorW.PrintWords Go.Proofs.YtafjegfmmnjpfaaDoorW.PrintLast Go.Proofs.YtafjegfmmnjpfaaDoorW.PrintMore
set_option linter.unusedVariables false
set_option linter.unusedSimpArgs false
theorem sendE_none {L : LS} {msg : List Int} (h : sendE L msg = none) : 1 ≤ msg.length ∧ msg.length ≤ 8192 ∧ L.queue.length + (msg.length + 63) / 64 ≤ 200 ∧ cutS msg = (Chunk.cutL msg, none) := by
  unfold sendE cutS at h
  by_cases h0 : msg.length = 0
  · rw [if_pos h0] at h; cases h
  · rw [if_neg h0] at h
    by_cases h1 : msg.length ≤ 8192
    · rw [if_pos h1] at h
      simp only at h
      split at h
      · rename_i h2
        rw [cutL_length] at h2
        refine ⟨by omega, h1, by omega, by unfold cutS; rw [if_neg h0, if_pos h1]⟩
      · cases h
    · rw [if_neg h1] at h; cases h
theorem sendE_of {L : LS} {msg : List Int} (h0 : 1 ≤ msg.length) (h1 : msg.length ≤ 8192) (h2 : L.queue.length + (msg.length + 63) / 64 ≤ 200) : sendE L msg = none := by
  unfold sendE cutS
  rw [if_neg (by omega), if_pos h1]
  simp only
  rw [if_pos (by rw [cutL_length]; omega)]
theorem room_iff (L : LS) (msg : List Int) : roomS L msg.length = (sendE L msg).isNone := by
  cases h : sendE L msg with
  | none =>
    obtain ⟨h0, h1, h2, _⟩ := sendE_none h
    unfold roomS
    rw [decide_eq_true (by omega : (1 : Int) ≤ (msg.length : Int)), decide_eq_true (by omega : (msg.length : Int) ≤ 8192), decide_eq_true (by omega)]
    rfl
  | some e =>
    cases hr : roomS L msg.length with
    | false => rfl
    | true =>
      unfold roomS at hr
      simp only [Bool.and_eq_true, decide_eq_true_eq] at hr
      rw [sendE_of (by omega) (by omega) (by omega)] at h
      cases h
theorem sendS_some {L : LS} {msg : List Int} {e : Int} (h : sendE L msg = some e) : sendS L msg = L := by unfold sendS; rw [if_neg (by rw [h]; simp)]
theorem sendS_none {L : LS} {msg : List Int} (h : sendE L msg = none) : sendS L msg = putS L (Chunk.cutL msg) := by
  unfold sendS
  rw [if_pos h, (sendE_none h).2.2.2]
theorem put_queue (L : LS) (ps : List P4) : (putS L ps).queue.length = L.queue.length + ps.length := by
  show (L.queue ++ numFrom L.given ps).length = _
  rw [List.length_append, numFrom_length]
set_option maxHeartbeats 4000000 in
set_option maxRecDepth 100000 in
theorem room_law (A : Option Addr) (n c : Nat) (l : List (List Int)) (w : World) (hG : Code.Gl w) (hn : l.length = n) (hle : n ≤ 9223372036854775807) (hT : TextsAt w A l) (hl : ∀ q ∈ l, q.length ≤ 9223372036854775807) :
    Calls Tryd.prog 5 #[.slice A n c] w fun e w' => e = .returned (.bool true) ∧ Below w.heap.size w w' := by
  have GL := Aside0.mk hG
  have HT := Aside0.mk hT
  have HN := Aside0.mk hn
  have HLL := Aside0.mk hl
  clear hG hT hn hl
  go_enter Tryd.func5, Tryd.ntmps5
  go_wp2_with (go_at_call 8; refine stop_here ?_)
  refine ⟨?_⟩
  refine (awake_calls w GL.out).mono ?_
  rintro e w1 ⟨rfl, hb⟩
  have B1 := Aside0.mk hb
  clear hb
  by_cases h30 : 30 < n
  · have h30' : 30 < (n : Int) := by omega
    go_wp2_with (go_at_call 8; refine stop_here ?_)
    refine ⟨?_⟩
    refine (awake_calls w1 (GL.out.below B1.out GL.out.lt)).mono ?_
    rintro e w2 ⟨rfl, hb⟩
    have B2 := Aside0.mk (below_step B1.out hb)
    go_wp2
    go_ret
    exact ⟨rfl, B2.out⟩
  · have h30' : ¬ 30 < (n : Int) := by omega
    go_wp2_with (go_at_call 10; refine stop_here ?_)
    refine ⟨?_⟩
    refine (newl_calls w1).mono ?_
    rintro e w2 ⟨g, D, rfl, hL, hb⟩
    have A2 := Aside0.mk hL
    have B2 := Aside0.mk (below_step B1.out hb)
    have S1 := Aside0.mk B1.out.size
    clear hL hb
    go_wp2
    go_loopg [4] n (fun kq v4 w' => ∃ (i : Nat) (D : Nat → Prop) (L : LS), i ≤ n ∧ v4 = .int .i64 (i : Int) ∧ Aside0 (kq = n - i) ∧ Aside0 (LineAt w' w1.heap.size g D L) ∧ Aside0 (L.queue.length ≤ 200 ∧ 0 ≤ L.given ∧ L.given ≤ 128 * i) ∧ Aside0 (Below w.heap.size w w'))
    case atStart => exact ⟨0, D, ls0, by omega, rfl, ⟨rfl⟩, A2, ⟨by decide, by decide, by decide⟩, B2⟩
    case round =>
      clear A2 B2 B1
      obtain ⟨i, D, L, hi, rfl, HK, A3, O3, B3⟩ := hrel
      have zi : 0 ≤ (i : Int) := by omega
      by_cases hlt : i < n
      · have lt : (i : Int) < (n : Int) := by omega
        obtain ⟨b, o, hA, hx⟩ := (HT.out.below B3.out) (by rw [HN.out]; omega)
        subst hA
        obtain ⟨Ai, ci, hc, hci, hby⟩ := hx i (by rw [HN.out]; exact hlt)
        obtain ⟨msg, hmsg⟩ : ∃ msg, l[i]'(by rw [HN.out]; exact hlt) = msg := ⟨_, rfl⟩
        have hml : msg.length ≤ 9223372036854775807 := HLL.out msg (by rw [← hmsg]; exact List.getElem_mem _)
        rw [hmsg] at hc hci hby
        have BY := Aside0.mk hby
        have CI := Aside0.mk hci
        have HC := Aside0.mk hc
        clear hx hmsg hby hci
        by_cases hbig : 9000 < msg.length
        · have hb' : 9000 < (msg.length : Int) := by omega
          go_wp2
          go_ret
          exact ⟨rfl, B3.out⟩
        · have hb' : ¬ 9000 < (msg.length : Int) := by omega
          go_wp2_with (go_at_call 15; refine stop_here ?_)
          refine ⟨?_⟩
          refine (Room_calls wr w1.heap.size g D L _ A3.out (by have := O3.out.1; omega)).mono ?_
          rintro e w4 ⟨rfl, rfl⟩
          go_wp2_with (go_at_call 16; refine stop_here ?_)
          refine ⟨?_⟩
          refine (waits_calls w4 w1.heap.size g D L A3.out).mono ?_
          rintro e w5 ⟨rfl, rfl⟩
          rw [room_iff]
          go_wp2_with (go_at_call 11; refine stop_here ?_)
          refine ⟨?_⟩
          refine (send_calls w5 w1.heap.size g D L Ai ci msg A3.out O3.out.1 O3.out.2.1 (by have := O3.out.2.2; omega) BY.out CI.out hml).mono ?_
          rintro e w6 ⟨rfl, ⟨D6, hL, hD⟩, hF⟩
          have A6 := Aside0.mk hL
          have B6 := Aside0.mk (below_line B3.out hF A3.out S1.out B3.out.size)
          have c6 := hF.cell HC.out (fun h => by
            have h1 := (A3.out.ge _ h).1
            obtain ⟨_, _, _, h2⟩ : True ∧ True ∧ True ∧ b < w.heap.size := by
              obtain ⟨b', o', hA', hx'⟩ := HT.out (by rw [HN.out]; omega)
              obtain ⟨Ai', ci', hc', _⟩ := hx' i (by rw [HN.out]; exact hlt)
              injection hA' with hA'
              injection hA' with e1 e2
              rw [← e1] at hc'
              exact ⟨trivial, trivial, trivial, World.block_lt_of_cell? w _ hc'⟩
            have h3 := S1.out
            have h4 : (⟨b, o + i, none⟩ : Addr).block = b := rfl
            omega)
          clear hL hD hF HC hc A3 B3
          obtain ⟨q, hq⟩ : ∃ q, L.queue.length = q := ⟨_, rfl⟩
          have HQ := Aside0.mk hq
          rw [hq]
          clear hq
          cases he : sendE L msg with
          | none =>
            obtain ⟨h0, h1, h2, h3⟩ := sendE_none he
            rw [HQ.out] at h2
            rw [sendS_none he] at A6
            have E6 := Aside0.mk (show (putS L (Chunk.cutL msg)).queue.length = q + (msg.length + 63) / 64 by rw [put_queue, HQ.out, cutL_length])
            have GV := Aside0.mk (show (putS L (Chunk.cutL msg)).given = L.given + ((msg.length + 63) / 64 : Nat) by show L.given + ((Chunk.cutL msg).length : Int) = _; rw [cutL_length])
            obtain ⟨L6, hL6⟩ : ∃ L6, putS L (Chunk.cutL msg) = L6 := ⟨_, rfl⟩
            rw [hL6] at A6 E6 GV
            clear hL6 he
            obtain ⟨m, hm⟩ : ∃ m, (msg.length + 63) / 64 = m := ⟨_, rfl⟩
            rw [hm] at E6 GV h2
            have hm' : ((msg.length : Int) + 63) / 64 = (m : Int) := by omega
            have hm3 : m ≤ 128 := by omega
            rw [show (none : Option Int).isNone = true from rfl, show errW none = .nilIface from rfl]
            go_wp2_with (go_at_call 16; refine stop_here ?_)
            refine ⟨?_⟩
            refine (waits_calls w6 w1.heap.size g D6 L6 A6.out).mono ?_
            rintro e w7 ⟨rfl, rfl⟩
            rw [E6.out]
            have hq2 : ((q + m : Nat) : Int) = (q : Int) + (m : Int) := by omega
            rw [hq2]
            rw [hm']
            go_wp2_with (go_at_call 16; refine stop_here ?_)
            refine ⟨?_⟩
            refine (waits_calls w7 w1.heap.size g D6 L6 A6.out).mono ?_
            rintro e w8 ⟨rfl, rfl⟩
            rw [E6.out]
            rw [hq2]
            have h200 : ¬ 200 < (q : Int) + (m : Int) := by omega
            go_wp2
            go_roundg (n - i - 1)
            case measure => have := HK.out; omega
            case rel => exact ⟨i + 1, D6, L6, by omega, by go_num, ⟨by omega⟩, A6, ⟨by rw [E6.out]; omega, by rw [GV.out]; have := O3.out; omega, by rw [GV.out]; have := O3.out; omega⟩, B6⟩
          | some e =>
            rw [sendS_some he] at A6
            clear he
            rw [show (some e : Option Int).isNone = false from rfl, show errW (some e) = .iface 67 (.int .i64 e) from rfl]
            go_wp2_with (go_at_call 16; refine stop_here ?_)
            refine ⟨?_⟩
            refine (waits_calls w6 w1.heap.size g D6 L A6.out).mono ?_
            rintro e w7 ⟨rfl, rfl⟩
            rw [HQ.out]
            go_wp2_with (go_at_call 16; refine stop_here ?_)
            refine ⟨?_⟩
            refine (waits_calls w7 w1.heap.size g D6 L A6.out).mono ?_
            rintro e w8 ⟨rfl, rfl⟩
            rw [HQ.out]
            have h200 : ¬ 200 < (q : Int) := by have := O3.out.1; have := HQ.out; omega
            go_wp2
            go_roundg (n - i - 1)
            case measure => have := HK.out; omega
            case rel => exact ⟨i + 1, D6, L, by omega, by go_num, ⟨by omega⟩, A6, ⟨O3.out.1, O3.out.2.1, by have := O3.out; omega⟩, B6⟩
      · have HI : Aside0 (i = n) := ⟨by omega⟩
        have lt : ¬ (i : Int) < (n : Int) := by omega
        go_wp2
        go_ret
        exact ⟨rfl, B3.out⟩
end Go.Proofs.YtafjegfmmnjpfaaDoor.LineT

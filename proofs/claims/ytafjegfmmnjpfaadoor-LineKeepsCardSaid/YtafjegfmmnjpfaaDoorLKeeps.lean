/- Proved: the law LineKeeps answers true; conditions: the theorem's own premises. -/
import Derived.Test.YtafjegfmmnjpfaaDoorLAwake
namespace Go.Proofs.YtafjegfmmnjpfaaDoor.LineT
open Go.RowKit Go.Proofs.YtafjegfmmnjpfaaDoor.YLine Go.Proofs.YtafjegfmmnjpfaaDoorW.PrintWords Go.Proofs.YtafjegfmmnjpfaaDoorW.PrintLast Go.Proofs.YtafjegfmmnjpfaaDoorW.PrintMore
set_option linter.unusedVariables false
set_option linter.unusedSimpArgs false
theorem cut_one {msg : List Int} (h1 : 1 ≤ msg.length) (h2 : msg.length ≤ 60) : Chunk.cutL msg = [⟨0, 1, true, msg⟩] := by
  unfold Chunk.cutL
  rw [show (msg.length + 63) / 64 = 1 by omega]
  simp only [List.range_one, List.map_cons, List.map_nil, List.cons.injEq, and_true]
  have e : Chunk.chunk msg 0 = msg := by
    unfold Chunk.chunk
    rw [Nat.mul_zero, List.drop_zero, List.take_of_length_le (by omega)]
  rw [e]
  rfl
def keL (msg : List Int) (wait left : Int) : LS := ⟨[⟨0, 1, true, msg⟩], 1, 1, [], [], wait, left, false⟩
theorem ke_send {msg : List Int} (h1 : 1 ≤ msg.length) (h2 : msg.length ≤ 60) : sendE ls0 msg = none ∧ sendS ls0 msg = keL msg 1 0 := by
  have e : cutS msg = ([⟨0, 1, true, msg⟩], none) := by unfold cutS; rw [if_neg (by omega), if_pos (by omega), cut_one h1 h2]
  have e1 : sendE ls0 msg = none := by unfold sendE; rw [e]; rfl
  refine ⟨e1, ?_⟩
  unfold sendS
  rw [if_pos e1, e]
  rfl
theorem ke_out (msg : List Int) : tickOutS (keL msg 1 0) = [⟨0, 1, true, msg⟩] ∧ tickS (keL msg 1 0) = keL msg 2 1 := ⟨rfl, rfl⟩
theorem ke_out2 (msg : List Int) : tickOutS (keL msg 2 1) = [⟨0, 1, true, msg⟩] := rfl
theorem keL_ok (msg : List Int) (h : msg.length ≤ 60) (a b : Int) (h1 : 1 ≤ a) (h2 : a ≤ 16) (h3 : 0 ≤ b) (h4 : b ≤ 16) : LOk (keL msg a b) := ⟨by show (1 : Int) ≤ 1; omega, by show (1 : Int) ≤ _; omega, h1, h2, h3, h4, by show 1 ≤ 200; omega, fun p hp => by
  obtain rfl := List.mem_singleton.1 hp
  show msg.length ≤ _
  omega⟩
def keH (zs : List Int) : LS := ⟨[], 0, 1, [⟨0, 2, true, zs⟩], [], 1, 0, true⟩
theorem ke_hear {zs : List Int} (h1 : 1 ≤ zs.length) (h2 : zs.length ≤ 60) : hearS ls0 ⟨0, 2, true, zs⟩ = (keH zs, [], none) := by
  rw [hear_of]
  have hm : mayB 0 2 true zs = true := by
    unfold mayB
    rw [if_neg (by decide), decide_eq_true h1, decide_eq_true (show zs.length ≤ 64 by omega)]
    simp
  rw [hm, if_neg (by decide), if_neg (by decide), if_neg (by decide)]
  rfl
theorem ke_hear2 {zs : List Int} (h1 : 1 ≤ zs.length) (h2 : zs.length ≤ 60) : ∃ L, hearS (keH zs) ⟨0, 1, true, [1]⟩ = (L, [[1], zs], none) := by
  refine ⟨⟨[], 0, 3, [], [], 1, 0, true⟩, ?_⟩
  rw [hear_of]
  rw [show mayB 0 1 true [1] = true by decide, if_neg (by decide), if_neg (by show ¬ (0 : Int) < 0; decide), if_neg (by decide)]
  show drainF 2 ⟨[], 0, 1, [⟨0, 2, true, zs⟩, ⟨0, 1, true, [1]⟩], [], 1, 0, true⟩ [] = _
  rw [drainF_step (j := 1) (p := ⟨0, 1, true, [1]⟩) rfl rfl, if_neg (by show ¬ 8192 < 0 + 1; decide), if_pos rfl]
  show drainF 1 ⟨[], 0, 2, [⟨0, 2, true, zs⟩], [], 1, 0, true⟩ [[1]] = _
  rw [drainF_step (j := 0) (p := ⟨0, 2, true, zs⟩) rfl rfl, if_neg (by show ¬ 8192 < 0 + zs.length; omega), if_pos rfl]
  rfl
theorem msgs_two {w : World} {B : Nat} {v : Value} {ms : List Pk} {x y : List Int} (h : Msgs w B v ms) (e : ms.map Pk.b = [x, y]) (hy : 0 < y.length) :
    ∃ gr off c a2 o2 k, v = .slice (some ⟨gr, off, none⟩) 2 c ∧ w.cell? ⟨gr, off + 1, none⟩ = some (.slice (some ⟨a2, o2, none⟩) y.length k) ∧ w.cell? ⟨a2, o2, none⟩ = some (.int .u8 y[0]) ∧ y.length ≤ k ∧ 2 ≤ c := by
  obtain ⟨hq, hk⟩ := h
  obtain ⟨f1, f, rfl⟩ : ∃ f1 f, ms = [f1, f] := by
    have hl := congrArg List.length e
    rw [List.length_map] at hl
    rcases ms with _ | ⟨f, _ | ⟨f2, _ | ⟨f3, gs⟩⟩⟩
    · simp at hl
    · simp at hl
    · exact ⟨f, f2, rfl⟩
    · simp at hl
  simp only [List.map_cons, List.map_nil, List.cons.injEq, and_true] at e
  obtain ⟨rfl, rfl⟩ := e
  obtain ⟨Av, cv, rfl, hle⟩ := q_slice hq
  obtain ⟨gr, off, rfl⟩ := row_at hq (by simp)
  obtain ⟨ad, ea, hc⟩ := q_cells hq (by simp)
  injection ea with ea
  subst ea
  have hf := hk f (List.mem_cons_of_mem _ (List.mem_singleton.2 rfl))
  obtain ⟨a, hA, hcell⟩ := hf.bytes hy
  have h0 := hcell 0 (.int .u8 f.b[0]) (by unfold nums; rw [List.getElem?_map, List.getElem?_eq_getElem hy]; rfl)
  have e0 : a.add 0 = a := by
    rcases a with ⟨p, o, s⟩
    cases s <;> rfl
  rw [e0] at h0
  obtain ⟨a2, o2, rfl⟩ := spot_none h0
  have := hc 1 f.val rfl
  rw [add_at] at this
  unfold Pk.val at this
  rw [hA] at this
  exact ⟨gr, off, cv, a2, o2, f.c, rfl, this, h0, hf.cap, hle⟩
def x255 (x : Int) : Int := bits BinOp.xor IntKind.u8 x 255
theorem nums_at {l : List Int} {i : Nat} (h : i < l.length) : (nums .u8 l)[i]? = some (.int .u8 l[i]) := by
  unfold nums
  rw [List.getElem?_map, List.getElem?_eq_getElem h]
  rfl
theorem nums_set (l : List Int) (i : Nat) (x : Int) : (nums .u8 l).set i (.int .u8 x) = nums .u8 (l.set i x) := by
  unfold nums
  rw [List.map_set]
set_option maxHeartbeats 4000000 in
set_option maxRecDepth 100000 in
theorem keeps_law (A : Option Addr) (c : Nat) (b : List Int) (w : World) (hG : Code.Gl w) (hb : Bytes w A b) (hc : b.length ≤ c) (hbl : b.length ≤ 9223372036854775807) (hr : ∀ x ∈ b, 0 ≤ x ∧ x ≤ 255) :
    Calls Tryd.prog 4 #[.slice A b.length c] w fun e w' => e = .returned (.bool true) ∧ Below w.heap.size w w' := by
  have HBy := Aside0.mk hb
  have HR8 := Aside0.mk hr
  have GL := Aside0.mk hG
  clear hb hr hG
  go_enter Tryd.func4, Tryd.ntmps4
  go_wp2_with (go_at_call 8; refine stop_here ?_)
  refine ⟨?_⟩
  refine (awake_calls w GL.out).mono ?_
  rintro e w2 ⟨rfl, hb⟩
  have B2 := Aside0.mk hb
  have G2 := Aside0.mk (GL.out.below hb GL.out.lt)
  clear hb
  have over : ∀ W : World, True := fun _ => trivial
  by_cases hl0 : 1 ≤ b.length
  · have l0 : ¬ (b.length : Int) < 1 := by omega
    by_cases hl : b.length ≤ 60
    · have l1 : ¬ 60 < (b.length : Int) := by omega
      go_wp2_with (go_at_call 10; refine stop_here ?_)
      refine ⟨?_⟩
      refine (newl_calls w2).mono ?_
      rintro e w3 ⟨g, D, rfl, hL, hb⟩
      have A3 := Aside0.mk hL
      have W2 := Aside0.mk (show w.heap.size ≤ w2.heap.size from B2.out.size)
      have B3 := Aside0.mk (below_step B2.out hb)
      have Z3 := Aside0.mk hb.size
      clear hL hb B2
      go_wp2_with ((with_reducible refine gate_dst (N := 30) rfl ?_); refine stop_here ?_)
      refine ⟨?_⟩
      refine Kd.R_lit (Kd.int .u8) (w0 := w3) w3.heap.size 5 rfl (N := 30) rfl (xs := ([] : List Int)) (inner := []) (ok := fun _ => True) (okp := fun _ => True) ?hr30 ⟨rfl, fun j p h => by simp at h⟩ (fun _ _ => trivial) trivial (Below.refl _ _) (Nat.le_refl _) (by decide) ?_
      case hr30 => first | (go_simp; done) | (go_simp; rfl)
      intro v30 w4 hR hb hg _
      have B4 := Aside0.mk (below_step B3.out hb)
      have A4 := Aside0.mk (A3.out.below hb)
      have D4 := Aside0.mk (show ∀ k, D k → k < w3.heap.size from fun k hk => (A3.out.ge k hk).2)
      have R4 := Aside0.mk hR
      have Z4 := Aside0.mk hb.size
      clear hR hb hg A3 B3
      go_wp2_with (at_builtin; refine stop_here ?_)
      refine ⟨?_⟩
      refine Kd.R_append_rows (Kd.int .u8) (w0 := w4) w3.heap.size rfl (.tmp 30) (.tmp 31) 32 5 (.int .u8 0) 1 rfl Tryd.underlying32 info5 rfl (by decide) (by omega) v30 [] b A b.length c (fun _ => True) (fun _ => False) rfl rfl R4.out (reads_bytes (HBy.out.below B4.out) (by omega)) (fun _ _ h => h) (fun _ h => h.elim) (fun _ _ => trivial) (Below.refl _ _) Z4.out (by simp; omega) ?_
      intro v4 w5 hR hb hg _
      rw [List.nil_append] at hR
      have A5 := Aside0.mk (A4.out.keep (Frame.of_grown hg) (fun k hk e => by have h1 := Kd.R_base R4.out k e.symm; have h2 := D4.out k hk; omega))
      have B5 := Aside0.mk (below_frame B4.out (Frame.of_grown hg) B4.out.size (fun k e => Nat.le_trans (Nat.le_trans W2.out Z3.out) (Kd.R_base R4.out k e.symm)))
      obtain ⟨Ao, co, rfl, hco, hby, hty⟩ := bytes_of_row hR
      have Q5 := Aside0.mk (own_bytes hR)
      have BY5 := Aside0.mk hby
      have Z5 := Aside0.mk (Nat.le_trans Z4.out hg.size)
      have HO := Aside0.mk (show ∀ ad, Ao = some ad → w3.heap.size ≤ ad.block ∧ ad.block < w5.heap.size from fun ad e => by
        obtain ⟨h1, cells, h2⟩ := hty ad e
        exact ⟨h1, blk_lt h2⟩)
      have CO := Aside0.mk hco
      clear hR hb hg hby hty hco A4 B4 R4
      go_wp2_with (go_at_call 11; refine stop_here ?_)
      refine ⟨?_⟩
      refine (send_calls w5 w2.heap.size g D ls0 Ao co b A5.out (by decide) (by decide) (by decide) BY5.out CO.out (by omega)).mono ?_
      rw [(ke_send hl0 hl).1, (ke_send hl0 hl).2]
      rintro e w6 ⟨rfl, ⟨D6, hL, hD⟩, hF⟩
      have A6 := Aside0.mk hL
      have B6 := Aside0.mk (below_line B5.out hF A5.out W2.out B5.out.size)
      have DO := Aside0.mk (show ∀ ad, Ao = some ad → ¬ D6 ad.block from fun ad e h => (hD _ h).elim (fun h => by have h1 := D4.out _ h; have h2 := (HO.out ad e).1; omega) (fun h => by have h2 := (HO.out ad e).2; omega))
      have Q6 := Aside0.mk (qi_keep Q5.out hF (fun k hk h => by
        obtain ⟨gr, off, e⟩ := row_at Q5.out (by omega)
        subst e
        have e2 : gr = k := Option.some.inj hk
        have h1 := D4.out k h
        have h2 := (HO.out _ rfl).1
        have h3 : (⟨gr, off, none⟩ : Addr).block = gr := rfl
        omega))
      have Z6 := Aside0.mk (show w5.heap.size ≤ w6.heap.size from hF.size)
      clear hL hD hF A5 B5 Q5 BY5
      rw [show errW none = .nilIface from rfl]
      go_upto_region 9 with (fail)
      go_loopg [6] b.length (fun kq v6 w' => ∃ (i : Nat) (zs : List Int), i ≤ b.length ∧ v6 = .int .i64 (i : Int) ∧ Aside0 (kq = b.length - i) ∧ Aside0 (LineAt w' w2.heap.size g D6 (keL b 1 0)) ∧ Aside0 (QRow w' w3.heap.size 5 1 (.slice Ao b.length co) b.length (nums .u8 zs)) ∧ Aside0 (zs.length = b.length ∧ zs[0]? = some (if i = 0 then b[0]'(by omega) else x255 (b[0]'(by omega))) ∧ ∀ j, i ≤ j → zs[j]? = b[j]?) ∧ Aside0 (Below w.heap.size w w') ∧ Aside0 (w5.heap.size ≤ w'.heap.size))
      case atStart => exact ⟨0, b, by omega, rfl, ⟨rfl⟩, A6, Q6, ⟨rfl, List.getElem?_eq_getElem (by omega), fun _ _ => rfl⟩, B6, Z6⟩
      case round =>
        clear A6 Q6 B6 Z6
        obtain ⟨i, zs, hi, rfl, HK, A6, Q6, U6, B6, Z6⟩ := hrel
        have zi : 0 ≤ (i : Int) := by omega
        by_cases hlt : i < b.length
        · have lt : (i : Int) < (b.length : Int) := by omega
          obtain ⟨go, oo, hAo⟩ := row_at Q6.out (by omega)
          subst hAo
          obtain ⟨x, hx⟩ : ∃ x, zs[i]'(by have := U6.out.1; omega) = x := ⟨_, rfl⟩
          have hxn := nums_at (l := zs) (i := i) (by have := U6.out.1; omega)
          rw [hx] at hxn
          obtain ⟨ad, ea, hcell⟩ := q_cells Q6.out (by omega)
          injection ea with ea
          subst ea
          have c0 := hcell i _ hxn
          rw [add_at] at c0
          obtain ⟨_, cells, hblk⟩ := q_typed Q6.out go rfl
          have f0 := blk_frozen hblk (oo + i)
          have HX := Aside0.mk (show x = b[i] by
            have h1 := U6.out.2.2 i (Nat.le_refl _)
            rw [List.getElem?_eq_getElem (by have := U6.out.1; omega), List.getElem?_eq_getElem hlt, hx] at h1
            exact Option.some.inj h1)
          clear hx hcell hblk hxn
          go_upto_region 10 with (fail)
          have HGO := Aside0.mk (HO.out _ rfl)
          have Q7 := Aside0.mk (row_cell1 Q6.out i hlt (.int .u8 (bits BinOp.xor IntKind.u8 x 255)))
          rw [nums_set] at Q7
          have FS := Aside0.mk (Frame.of_set wr go (oo + i) (.int .u8 (bits BinOp.xor IntKind.u8 x 255)))
          have A7 := Aside0.mk (A6.out.keep FS.out (fun k hk e => DO.out _ rfl (by have e' : k = go := e; rw [← e']; exact hk)))
          have B7 := Aside0.mk (below_frame B6.out FS.out B6.out.size (fun k e => by
            have e' : k = go := e
            have h1 := HGO.out.1
            have h2 := W2.out
            have h3 := Z3.out
            have h4 : (⟨go, oo, none⟩ : Addr).block = go := rfl
            omega))
          have U7 : Aside0 ((zs.set i (bits BinOp.xor IntKind.u8 x 255)).length = b.length ∧ (zs.set i (bits BinOp.xor IntKind.u8 x 255))[0]? = some (if i + 1 = 0 then b[0]'(by omega) else x255 (b[0]'(by omega))) ∧ ∀ j, i + 1 ≤ j → (zs.set i (bits BinOp.xor IntKind.u8 x 255))[j]? = b[j]?) := ⟨by
            refine ⟨by rw [List.length_set]; exact U6.out.1, ?_, fun j hj => by rw [List.getElem?_set_ne (by omega)]; exact U6.out.2.2 j (by omega)⟩
            rw [if_neg (by omega)]
            by_cases e0 : i = 0
            · subst e0
              rw [List.getElem?_set_self (by have := U6.out.1; omega), HX.out]
              rfl
            · rw [List.getElem?_set_ne (by omega), U6.out.2.1, if_neg e0]⟩
          have Z7 := Aside0.mk (Nat.le_trans Z6.out FS.out.size)
          obtain ⟨w7, hw7⟩ : ∃ w7, wr.setCell ⟨go, oo + i, none⟩ (.int .u8 (bits BinOp.xor IntKind.u8 x 255)) = w7 := ⟨_, rfl⟩
          rw [hw7] at Q7 A7 B7 Z7
          rw [hw7]
          clear hw7 FS Q6 A6 B6 U6 Z6 HX c0 f0
          go_wp2
          go_roundg (b.length - i - 1)
          case measure => have := HK.out; omega
          case rel => exact ⟨i + 1, _, by omega, by go_num, ⟨by omega⟩, A7, Q7, U7, B7, Z7⟩
        · have lt : ¬ (i : Int) < (b.length : Int) := by omega
          have U6' : Aside0 (zs.length = b.length ∧ zs[0]? = some (x255 (b[0]'(by omega)))) := ⟨U6.out.1, by have h := U6.out.2.1; rwa [if_neg (by omega)] at h⟩
          clear U6
          go_wp2_with (go_at_call 12; refine stop_here ?_)
          refine ⟨?_⟩
          refine (tickl_calls _ w2.heap.size g D6 (keL b 1 0) A6.out (keL_ok b hl 1 0 (by decide) (by decide) (by decide) (by decide))).mono ?_
          rw [(ke_out b).1, (ke_out b).2]
          rintro e w8 ⟨⟨v8, ps, rfl, hP, hs⟩, hL, hF⟩
          obtain ⟨gr, off, cr, A1, c1, rfl, hgr, hgt, h0, h1, h2, h3, hok, hcr⟩ := packs_one hP hs
          have A8 := Aside0.mk hL
          obtain ⟨n8, hn8⟩ : ∃ n8, wr.heap.size = n8 := ⟨_, rfl⟩
          have NG := Aside0.mk (show ∀ k, D6 k → k < n8 from fun k hk => by rw [← hn8]; exact (A6.out.ge k hk).2)
          have B8 := Aside0.mk (below_frame B6.out hF B6.out.size (fun k e => by have e' : k = g := e; rw [e']; exact Nat.le_trans W2.out (A6.out.ge g A6.out.mem).1))
          have Q8 := Aside0.mk (qi_keep Q6.out hF (fun k hk e => by
            obtain ⟨go, oo, e2⟩ := row_at Q6.out (by omega)
            subst e2
            have e3 : go = k := Option.some.inj hk
            have e' : k = g := e
            exact DO.out _ rfl (by show D6 go; rw [e3, e']; exact A6.out.mem)))
          have C3 := Aside0.mk h3
          have GT := Aside0.mk hgt
          have GR := Aside0.mk (show n8 ≤ gr from by rw [← hn8]; exact hgr)
          have WN := Aside0.mk (show w.heap.size ≤ n8 from by rw [← hn8]; exact B6.out.size)
          have NW := Aside0.mk (show n8 ≤ w8.heap.size from by rw [← hn8]; exact hF.size)
          have K8 : Aside0 (PkOk w8 n8 ⟨0, 1, true, A1, c1, b⟩) := ⟨by rw [← hn8]; exact hok⟩
          have OL := Aside0.mk (show ∀ ad, Ao = some ad → ad.block < n8 from fun ad e => by rw [← hn8]; have h1 := (HO.out ad e).2; have h2 := Z6.out; omega)
          clear hP hs hL hF hgr hgt h0 h1 h2 h3 hok A6 Q6 B6 hn8 Z6
          have c3 := C3.out
          have cc := reads_bytes K8.out.bytes (by show b.length ≤ _; omega)
          have cb := reads_bytes (HBy.out.below B8.out) (by omega)
          have hcv := fun nq => Kd.C_string (P := Tryd.prog) (A := A1) (c := c1) Tryd.underlying32 Tryd.underlying5 Tryd.underlying9 (Kd.C_drewN cc nq)
          have hcb := fun nq => Kd.C_string (P := Tryd.prog) (A := A) (c := c) Tryd.underlying32 Tryd.underlying5 Tryd.underlying9 (Kd.C_drewN cb nq)
          go_upto_region 13 with (fail)
          go_quiet (fail)
          have FB := Frame.of_drewN w8 nq (fun _ => False)
          have A9 := Aside0.mk (A8.out.keep FB (fun _ _ h => h))
          have B9 := Aside0.mk (below_frame B8.out FB B8.out.size (fun _ h => h.elim))
          have Q9 := Aside0.mk (qi_keep Q8.out FB (fun _ _ h => h))
          have C9 := Aside0.mk (FB.cell C3.out (fun h => h))
          have GT9 := Aside0.mk (GT.out.imp fun cells h => FB.blk h (fun h => h))
          have K9 := Aside0.mk (K8.out.keep FB (fun _ _ h => h))
          have NW9 := Aside0.mk (Nat.le_trans NW.out FB.size)
          obtain ⟨w9, hw9⟩ : ∃ w9, w8.drewN nq = w9 := ⟨_, rfl⟩
          rw [hw9] at A9 B9 Q9 C9 GT9 K9 NW9
          rw [hw9]
          clear hw9 FB A8 B8 Q8 C3 GT K8 NW c3 cc cb hcv hcb
          have ZA := Aside0.mk (show ∃ ga oa cells, A1 = some ⟨ga, oa, none⟩ ∧ w9.heap[ga]? = some (.cells cells 5 (0, 0)) ∧ oa + b.length ≤ cells.size ∧ n8 ≤ ga from by
            obtain ⟨ad, ea, hcell⟩ := K9.out.bytes hl0
            have ea' : A1 = some ad := ea
            have h1 := hcell (b.length - 1) _ (nums_at (l := b) (i := b.length - 1) (by omega))
            obtain ⟨hbase, cells, hblk⟩ := K9.out.own ad ea
            have h0 := hcell 0 _ (nums_at (l := b) (i := 0) hl0)
            have e0 : ad.add 0 = ad := by
              rcases ad with ⟨p, o, s⟩
              cases s <;> rfl
            rw [e0] at h0
            obtain ⟨ga, oa, rfl⟩ := spot_none h0
            rw [add_at, blk_cell hblk] at h1
            have h2 := (Array.getElem?_eq_some_iff.1 h1).1
            exact ⟨ga, oa, cells, ea', hblk, by omega, hbase⟩)
          clear K9
          go_upto_region 16 with (fail)
          go_loopg [8] b.length (fun kq v8 w' => ∃ (j : Nat), j ≤ b.length ∧ v8 = .int .i64 (j : Int) ∧ Aside0 (kq = b.length - j) ∧ Aside0 (LineAt w' w2.heap.size g D6 (keL b 2 1)) ∧ Aside0 (QRow w' w3.heap.size 5 1 (.slice Ao b.length co) b.length (nums .u8 zs)) ∧ Aside0 (w'.cell? ⟨gr, off + 3, none⟩ = some (.slice A1 b.length c1)) ∧ Aside0 (∃ cells, w'.heap[gr]? = some (.cells cells 37 (0, 0))) ∧ Aside0 (∃ ga oa cells, A1 = some ⟨ga, oa, none⟩ ∧ w'.heap[ga]? = some (.cells cells 5 (0, 0)) ∧ oa + b.length ≤ cells.size ∧ n8 ≤ ga) ∧ Aside0 (Below w.heap.size w w') ∧ Aside0 (n8 ≤ w'.heap.size))
          case atStart => exact ⟨0, by omega, rfl, ⟨rfl⟩, A9, Q9, C9, GT9, ZA, B9, NW9⟩
          case round =>
            clear A9 B9 Q9 C9 GT9 ZA NW9
            obtain ⟨j, hj, rfl, HK2, A9, Q9, C9, GT9, ZA, B9, NW9⟩ := hrel
            have zj : 0 ≤ (j : Int) := by omega
            have c3 := C9.out
            by_cases hlt2 : j < b.length
            · have lt2 : (j : Int) < (b.length : Int) := by omega
              obtain ⟨ga, oa, cells, hA1, hblk, hsz, hga⟩ := ZA.out
              subst hA1
              obtain ⟨uj, huj⟩ : ∃ u, cells[oa + j]? = some u := ⟨_, Array.getElem?_eq_getElem (by omega)⟩
              have cj : wr.cell? ⟨ga, oa + j, none⟩ = some uj := (blk_cell hblk (oa + j)).trans huj
              have fj := blk_frozen hblk (oa + j)
              have HBK := Aside0.mk hblk
              have HSZ := Aside0.mk hsz
              have HGA := Aside0.mk hga
              clear hblk hsz hga huj
              go_upto_region 17 with (fail)
              have FS := Frame.of_set wr ga (oa + j) (.int .u8 7)
              have AB := Aside0.mk (A9.out.keep FS (fun k hk e => by have h1 := NG.out k hk; have h2 := HGA.out; have e' : k = ga := e; omega))
              have QB := Aside0.mk (qi_keep Q9.out FS (fun k hk e => by
                obtain ⟨go, oo, e2⟩ := row_at Q9.out (by omega)
                subst e2
                have e3 : go = k := Option.some.inj hk
                have e' : k = ga := e
                have h1 := OL.out _ rfl
                have h2 := HGA.out
                have h3 : (⟨go, oo, none⟩ : Addr).block = go := rfl
                omega))
              have ngr : ¬ gr = ga := fun e => by
                obtain ⟨cc, h1⟩ := GT9.out
                rw [e] at h1
                have := h1.symm.trans HBK.out
                simp at this
              have CB := Aside0.mk (FS.cell C9.out ngr)
              have GTB := Aside0.mk (show ∃ cells', (wr.setCell ⟨ga, oa + j, none⟩ (.int .u8 7)).heap[gr]? = some (.cells cells' 37 (0, 0)) from by
                obtain ⟨cc, h1⟩ := GT9.out
                exact ⟨cc, FS.blk h1 ngr⟩)
              have ZB := Aside0.mk (show ∃ ga' oa' cells', some (⟨ga, oa, none⟩ : Addr) = some ⟨ga', oa', none⟩ ∧ (wr.setCell ⟨ga, oa + j, none⟩ (.int .u8 7)).heap[ga']? = some (.cells cells' 5 (0, 0)) ∧ oa' + b.length ≤ cells'.size ∧ n8 ≤ ga' from ⟨ga, oa, _, rfl, blk_set HBK.out (oa + j) (.int .u8 7), by rw [Array.size_setIfInBounds]; exact HSZ.out, HGA.out⟩)
              have BB := Aside0.mk (below_frame B9.out FS B9.out.size (fun k e => by rw [e]; exact Nat.le_trans WN.out HGA.out))
              have NB := Aside0.mk (Nat.le_trans NW9.out FS.size)
              obtain ⟨wb, hwb⟩ : ∃ wb, wr.setCell ⟨ga, oa + j, none⟩ (.int .u8 7) = wb := ⟨_, rfl⟩
              rw [hwb] at AB QB CB GTB ZB BB NB
              rw [hwb]
              clear hwb FS ngr A9 Q9 C9 GT9 ZA B9 NW9 c3 cj fj
              go_wp2
              go_roundg (b.length - j - 1)
              case measure => have := HK2.out; omega
              case rel => exact ⟨j + 1, by omega, by go_num, ⟨by omega⟩, AB, QB, CB, GTB, ZB, BB, NB⟩
            · have lt2 : ¬ (j : Int) < (b.length : Int) := by omega
              go_wp2_with (go_at_call 12; refine stop_here ?_)
              refine ⟨?_⟩
              refine (tickl_calls wr w2.heap.size g D6 (keL b 2 1) A9.out (keL_ok b hl 2 1 (by decide) (by decide) (by decide) (by decide))).mono ?_
              rw [ke_out2 b]
              rintro e w10 ⟨⟨v10, ps, rfl, hP, hs⟩, hL, hF⟩
              obtain ⟨gq, oq, cq, A2, c2, rfl, _, _, _, _, _, h3, hok, hcq⟩ := packs_one hP hs
              have B10 := Aside0.mk (below_frame B9.out hF B9.out.size (fun k e => by have e' : k = g := e; rw [e']; exact Nat.le_trans W2.out (A9.out.ge g A9.out.mem).1))
              have Q10 := Aside0.mk (qi_keep Q9.out hF (fun k hk e => by
                obtain ⟨go, oo, e2⟩ := row_at Q9.out (by omega)
                subst e2
                have e3 : go = k := Option.some.inj hk
                have e' : k = g := e
                exact DO.out _ rfl (by show D6 go; rw [e3, e']; exact A9.out.mem)))
              have C10 := Aside0.mk h3
              have K10 : Aside0 (PkOk w10 wr.heap.size ⟨0, 1, true, A2, c2, b⟩) := ⟨hok⟩
              have NW10 := Aside0.mk (Nat.le_trans NW9.out hF.size)
              clear hP hs hL hF h3 hok c3 A9 Q9 C9 GT9 ZA B9 NW9
              go_wp2_with (go_at_call 10; refine stop_here ?_)
              refine ⟨?_⟩
              refine (newl_calls w10).mono ?_
              rintro e w11 ⟨g2, D2, rfl, hL, hb⟩
              have A11 := Aside0.mk hL
              have B11 := Aside0.mk (below_step B10.out hb)
              have FB := Frame.of_below hb
              have Q11 := Aside0.mk (qi_keep Q10.out FB (fun _ _ h => h))
              have K11 := Aside0.mk (K10.out.keep FB (fun _ _ h => h))
              have c3 := FB.cell C10.out (fun h => h)
              have WN10 := Aside0.mk (show w.heap.size ≤ w10.heap.size from B10.out.size)
              clear hL hb FB B10 Q10 K10 C10
              have cc := reads_bytes K11.out.bytes (by show b.length ≤ _; omega)
              have cb := reads_bytes (HBy.out.below B11.out) (by omega)
              have hcv := fun nq => Kd.C_string (P := Tryd.prog) (A := A2) (c := c2) Tryd.underlying32 Tryd.underlying5 Tryd.underlying9 (Kd.C_drewN cc nq)
              have hcb := fun nq => Kd.C_string (P := Tryd.prog) (A := A) (c := c) Tryd.underlying32 Tryd.underlying5 Tryd.underlying9 (Kd.C_drewN cb nq)
              go_upto_region 21 with (fail)
              go_quiet (fail)
              have FB := Frame.of_drewN w11 nq (fun _ => False)
              have A12 := Aside0.mk (A11.out.keep FB (fun _ _ h => h))
              have B12 := Aside0.mk (below_frame B11.out FB B11.out.size (fun _ h => h.elim))
              have Q12 := Aside0.mk (qi_keep Q11.out FB (fun _ _ h => h))
              have NG2 := Aside0.mk (show ∀ k, D2 k → w10.heap.size ≤ k from fun k hk => (A11.out.ge k hk).1)
              obtain ⟨w12, hw12⟩ : ∃ w12, w11.drewN nq = w12 := ⟨_, rfl⟩
              rw [hw12] at A12 B12 Q12
              rw [hw12]
              clear hw12 FB A11 B11 Q11 K11 c3 cc cb hcv hcb
              have ZL := Aside0.mk (show zs.length = b.length from U6'.out.1)
              have BZ := Aside0.mk (show Bytes w12 Ao zs from fun hp => by
                obtain ⟨ad, ea, h⟩ := q_cells Q12.out (by omega)
                exact ⟨ad, ea, h⟩)
              have HA := Aside0.mk (hear_calls w12 w10.heap.size g2 D2 ls0 ⟨0, 2, true, Ao, co, zs⟩ A12.out BZ.out (by show zs.length ≤ co; rw [ZL.out]; exact CO.out) (by show zs.length ≤ _; rw [ZL.out]; omega) (fun ad e h => by
                have h1 := OL.out ad e
                have h2 := NG2.out _ h
                have h3 := NW10.out
                omega) (by decide) (by decide) (by decide) (by decide) (by decide) (by decide))
              have eC : Pk.cells ⟨0, 2, true, Ao, co, zs⟩ = [.int .i64 0, .int .i64 2, .bool true, .slice Ao b.length co] := by
                show [Value.int .i64 0, .int .i64 2, .bool true, .slice Ao zs.length co] = _
                rw [ZL.out]
              have HB := Aside0.mk (eC ▸ HA.out)
              clear HA eC
              go_wp2_with (go_at_call 13; refine stop_here ?_)
              refine ⟨?_⟩
              refine HB.out.mono ?_
              rw [show Pk.say ⟨0, 2, true, Ao, co, zs⟩ = ⟨0, 2, true, zs⟩ from rfl, ke_hear (by rw [ZL.out]; exact hl0) (by rw [ZL.out]; exact hl)]
              rintro e w13 ⟨⟨v13, ms, D13, rfl, hL, hD, hM, hb13, hO⟩, hF⟩
              have A13 : Aside0 (LineAt w13 w10.heap.size g2 D13 (keH zs)) := ⟨hL⟩
              have B13 := Aside0.mk (below_line B12.out hF A12.out WN10.out B12.out.size)
              have OW := Aside0.mk (show ∀ ad, Ao = some ad → ¬ D13 ad.block from fun ad e h => (hD _ h).elim (fun h => by
                have h1 := OL.out ad e
                have h2 := NG2.out _ h
                have h3 := NW10.out
                omega) (fun h => by
                have h1 := OL.out ad e
                have h3 := NW10.out
                have h4 := (A12.out.ge g2 A12.out.mem).1
                have h5 := (A12.out.ge g2 A12.out.mem).2
                omega))
              have Q13 := Aside0.mk (qi_keep Q12.out hF (fun k hk h => by
                obtain ⟨go, oo, e2⟩ := row_at Q12.out (by omega)
                subst e2
                have e3 : go = k := Option.some.inj hk
                have h1 := OL.out _ rfl
                have h2 := NG2.out _ h
                have h3 := NW10.out
                have h4 : (⟨go, oo, none⟩ : Addr).block = go := rfl
                omega))
              clear hL hD hM hb13 hO hF HB BZ A12 B12 Q12
              go_upto_region 25 with (fail)
              go_loopg [11] b.length (fun kq v11 w' => ∃ (i : Nat) (ys : List Int), i ≤ b.length ∧ v11 = .int .i64 (i : Int) ∧ Aside0 (kq = b.length - i) ∧ Aside0 (LineAt w' w10.heap.size g2 D13 (keH zs)) ∧ Aside0 (QRow w' w3.heap.size 5 1 (.slice Ao b.length co) b.length (nums .u8 ys)) ∧ Aside0 (ys.length = b.length) ∧ Aside0 (Below w.heap.size w w'))
              case atStart => exact ⟨0, zs, by omega, rfl, ⟨rfl⟩, A13, Q13, ZL, B13⟩
              case round =>
                clear A13 Q13 B13
                obtain ⟨i3, ys, hi3, rfl, HK3, A13, Q13, U13, B13⟩ := hrel
                have zi3 : 0 ≤ (i3 : Int) := by omega
                by_cases hlt3 : i3 < b.length
                · have lt3 : (i3 : Int) < (b.length : Int) := by omega
                  obtain ⟨go, oo, hAo⟩ := row_at Q13.out (by omega)
                  subst hAo
                  obtain ⟨x, hx⟩ : ∃ x, ys[i3]'(by have := U13.out; omega) = x := ⟨_, rfl⟩
                  have hxn := nums_at (l := ys) (i := i3) (by have := U13.out; omega)
                  rw [hx] at hxn
                  obtain ⟨ad, ea, hcell⟩ := q_cells Q13.out (by omega)
                  injection ea with ea
                  subst ea
                  have c0 := hcell i3 _ hxn
                  rw [add_at] at c0
                  obtain ⟨_, cells, hblk⟩ := q_typed Q13.out go rfl
                  have f0 := blk_frozen hblk (oo + i3)
                  clear hx hcell hblk hxn
                  go_upto_region 26 with (fail)
                  have HGO := Aside0.mk (HO.out _ rfl)
                  have Q7 := Aside0.mk (row_cell1 Q13.out i3 hlt3 (.int .u8 (bits BinOp.xor IntKind.u8 x 255)))
                  rw [nums_set] at Q7
                  have FS := Aside0.mk (Frame.of_set wr go (oo + i3) (.int .u8 (bits BinOp.xor IntKind.u8 x 255)))
                  have A7 := Aside0.mk (A13.out.keep FS.out (fun k hk e => OW.out _ rfl (by have e' : k = go := e; rw [← e']; exact hk)))
                  have B7 := Aside0.mk (below_frame B13.out FS.out B13.out.size (fun k e => by
                    have e' : k = go := e
                    have h1 := HGO.out.1
                    have h2 := W2.out
                    have h3 := Z3.out
                    have h4 : (⟨go, oo, none⟩ : Addr).block = go := rfl
                    omega))
                  have U7 : Aside0 ((ys.set i3 (bits BinOp.xor IntKind.u8 x 255)).length = b.length) := ⟨by rw [List.length_set]; exact U13.out⟩
                  obtain ⟨w7, hw7⟩ : ∃ w7, wr.setCell ⟨go, oo + i3, none⟩ (.int .u8 (bits BinOp.xor IntKind.u8 x 255)) = w7 := ⟨_, rfl⟩
                  rw [hw7] at Q7 A7 B7
                  rw [hw7]
                  clear hw7 FS Q13 A13 B13 U13 c0 f0
                  go_wp2
                  go_roundg (b.length - i3 - 1)
                  case measure => have := HK3.out; omega
                  case rel => exact ⟨i3 + 1, _, by omega, by go_num, ⟨by omega⟩, A7, Q7, U7, B7⟩
                · have lt3 : ¬ (i3 : Int) < (b.length : Int) := by omega
                  go_wp2_with ((with_reducible refine gate_dst (N := 124) rfl ?_); refine stop_here ?_)
                  refine ⟨?_⟩
                  refine made_event rfl ⟨nums .u8 [1]⟩ 5 1 ?hr124 ?_
                  case hr124 => first | (go_simp; done) | (go_simp; rfl)
                  intro gl hgl w14 hbx hb
                  have A14 := Aside0.mk (A13.out.below hb)
                  have B14 := Aside0.mk (below_step B13.out hb)
                  have X14 := Aside0.mk (lit_bytes hbx)
                  have NL := Aside0.mk (show ¬ D13 gl from fun h => by have h1 := (A13.out.ge gl h).2; omega)
                  clear hgl hbx hb A13 B13 Q13
                  go_wp2_with (go_at_call 13; refine stop_here ?_)
                  refine ⟨?_⟩
                  refine (hear_calls w14 w10.heap.size g2 D13 (keH zs) ⟨0, 1, true, some ⟨gl, 0, none⟩, 1, [1]⟩ A14.out X14.out (by show 1 ≤ 1; decide) (by show 1 ≤ 1000000; decide) (fun ad e h => by injection e with e; subst e; exact NL.out h) (by show 0 ≤ 200; decide) (by show 0 ≤ 1000000; decide) (fun p hp => by
                    obtain rfl := List.mem_singleton.1 hp
                    show zs.length ≤ _
                    rw [ZL.out]
                    omega) (by show (0 : Int) ≤ 1; decide) (by show 1 ≤ 90000; decide) (by show (1 : Int) ≤ _; decide)).mono ?_
                  obtain ⟨LE, hLE⟩ := ke_hear2 (zs := zs) (by rw [ZL.out]; exact hl0) (by rw [ZL.out]; exact hl)
                  rw [show Pk.say ⟨0, 1, true, some ⟨gl, 0, none⟩, 1, [1]⟩ = ⟨0, 1, true, [1]⟩ from rfl, hLE]
                  rintro e w15 ⟨⟨v15, ms, D15, rfl, hL, hD, hM, hb15, hO⟩, hF⟩
                  have B15 := Aside0.mk (below_line B14.out hF A14.out WN10.out B14.out.size)
                  obtain ⟨gv, ov, cv, a2, o2, k2, rfl, hm1, hm2, hm3, hm4⟩ := msgs_two hM hb15 (by rw [ZL.out]; exact hl0)
                  obtain ⟨ad, hA, hcell⟩ := HBy.out.below B15.out hl0
                  have h0 := hcell 0 _ (nums_at (l := b) (i := 0) hl0)
                  have e0 : ad.add 0 = ad := by
                    rcases ad with ⟨p, o, s⟩
                    cases s <;> rfl
                  rw [e0] at h0
                  obtain ⟨ab, ob, rfl⟩ := spot_none h0
                  subst hA
                  obtain ⟨x0, hx0⟩ : ∃ x0, b[0] = x0 := ⟨_, rfl⟩
                  have hz0 : zs[0]'(by rw [ZL.out]; exact hl0) = x255 x0 := by
                    have h1 := U6'.out.2
                    rw [List.getElem?_eq_getElem (by rw [ZL.out]; exact hl0), hx0] at h1
                    exact Option.some.inj h1
                  rw [hx0] at h0
                  rw [hz0] at hm2
                  unfold x255 at hm2
                  rw [ZL.out] at hm1
                  rw [show errW ((LE, ([[1], zs] : List (List Int)), (none : Option Int)) : LS × List (List Int) × Option Int).2.2 = .nilIface from rfl]
                  clear hL hD hM hb15 hO hF hcell e0 hz0 hx0 hLE A14 B14 X14
                  go_upto_region 29 with (fail)
                  go_quiet (fail)
                  go_wp2
                  go_ret
                  exact ⟨rfl, below_frame B15.out (Frame.of_drewN w15 _ (fun _ => False)) B15.out.size (fun _ h => h.elim)⟩
    · have l1 : 60 < (b.length : Int) := by omega
      go_wp2_with (go_at_call 8; refine stop_here ?_)
      refine ⟨?_⟩
      refine (awake_calls w2 G2.out).mono ?_
      rintro e w3 ⟨rfl, hb⟩
      go_wp2
      go_ret
      exact ⟨rfl, below_step B2.out hb⟩
  · have l0 : (b.length : Int) < 1 := by omega
    go_wp2_with (go_at_call 8; refine stop_here ?_)
    refine ⟨?_⟩
    refine (awake_calls w2 G2.out).mono ?_
    rintro e w3 ⟨rfl, hb⟩
    go_wp2
    go_ret
    exact ⟨rfl, below_step B2.out hb⟩
end Go.Proofs.YtafjegfmmnjpfaaDoor.LineT

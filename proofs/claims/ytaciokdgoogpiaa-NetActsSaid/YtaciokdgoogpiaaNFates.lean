/- Proved: the law NetFates; conditions: the theorems' own premises. -/
import Derived.Test.YtaciokdgoogpiaaNAwake
namespace Go.Proofs.Ytaciokdgoogpiaa.NetT
open Go.RowKit Go.Proofs.Ytaciokdgoogpiaa.YNet Go.Proofs.YtaciokdgoogpiaaW.PrintWords Go.Proofs.YtaciokdgoogpiaaW.PrintLast Go.Proofs.YtaciokdgoogpiaaW.PrintMore
set_option linter.unusedVariables false
set_option linter.unusedSimpArgs false
theorem row_bytes {w : World} {a : Option Addr} {len cap : Nat} {zs : List Int} (h : (a = none ∧ len = 0 ∧ cap = 0 ∧ zs = []) ∨ ∃ x, a = some x ∧ len ≤ cap ∧ cap ≤ maxLen ∧ zs.length = cap ∧ (∀ i, i < zs.length → w.cell? (x.add i) = some (.int .u8 (zs.getD i 0))) ∧ ∀ n ∈ zs, (Lit.int .u8 n).wf = true) :
    ∃ l : List Int, l.length = len ∧ Bytes w a l ∧ ∀ n ∈ l, 0 ≤ n ∧ n ≤ 255 := by
  rcases h with ⟨rfl, rfl, rfl, rfl⟩ | ⟨x, rfl, h1, h2, h3, h4, h5⟩
  · exact ⟨[], rfl, fun h => by simp at h, fun n hn => by cases hn⟩
  · refine ⟨zs.take len, by rw [List.length_take]; omega, fun _ => ⟨x, rfl, fun j u hu => ?_⟩, fun n hn => ?_⟩
    · unfold nums at hu
      rw [List.getElem?_map, List.getElem?_take] at hu
      by_cases hj : j < len
      · rw [if_pos hj, List.getElem?_eq_getElem (by omega)] at hu
        have hz := h4 j (by omega)
        rw [List.getD_eq_getElem?_getD, List.getElem?_eq_getElem (by omega)] at hz
        rw [hz]
        simpa using hu
      · rw [if_neg hj] at hu; simp at hu
    · have := h5 n (List.mem_of_mem_take hn)
      simp [Lit.wf, IntKind.min, IntKind.max, IntKind.signed, IntKind.bits] at this
      exact this
/-- The datagram of the law, with so many ticks to go. -/
def fx (b : List Int) (t : Int) : Say := (⟨#[120]⟩, 1, ⟨#[]⟩, b, t)
def pc (c : Bool) (b : List Int) (t : Int) : List Say := if c = true ∧ 0 ≤ t then [fx b t] else []
theorem pc_left (c : Bool) (b : List Int) (t : Int) : leftS (pc c b t) = pc c b (t - 1) := by
  unfold pc
  by_cases h : c = true ∧ 0 ≤ t
  · rw [if_pos h]
    by_cases hz : t = 0
    · rw [if_neg (by omega)]
      subst hz
      rfl
    · rw [if_pos ⟨h.1, by omega⟩]
      unfold leftS keptS
      rw [List.filter_cons, if_pos (decide_eq_true (show tickOf (fx b t) ≠ 0 from hz))]
      rfl
  · rw [if_neg h, if_neg (fun k => h ⟨k.1, by omega⟩)]
    rfl
theorem pc_gone (c : Bool) (b : List Int) (t : Int) : goneS (pc c b t) = if c = true ∧ t = 0 then [fx b 0] else [] := by
  unfold pc
  by_cases h : c = true ∧ t = 0
  · obtain ⟨h1, rfl⟩ := h
    rw [if_pos ⟨h1, by omega⟩, if_pos ⟨h1, rfl⟩]
    rfl
  · rw [if_neg h]
    by_cases h2 : c = true ∧ 0 ≤ t
    · rw [if_pos h2]
      unfold goneS
      rw [List.filter_cons, if_neg (fun e => h ⟨h2.1, show tickOf (fx b t) = 0 from of_decide_eq_true e⟩)]
      rfl
    · rw [if_neg h2]
      rfl
theorem leftS_append (xs ys : List Say) : leftS (xs ++ ys) = leftS xs ++ leftS ys := by
  unfold leftS keptS
  rw [List.filter_append, List.map_append]
theorem goneS_append (xs ys : List Say) : goneS (xs ++ ys) = goneS xs ++ goneS ys := by
  unfold goneS
  rw [List.filter_append]
/-- What is on its way behind i ticks. -/
def fst_ (b : List Int) (lost twice : Bool) (t i : Int) : List Say := pc (!lost) b (t - i) ++ pc (!lost && twice) b (2 * t + 1 - i)
def comes (lost twice : Bool) (t i : Int) : Bool := !lost && (decide (i = t) || (twice && decide (i = 2 * t + 1)))
theorem fst_start (b : List Int) (lost twice : Bool) (t : Int) (h0 : 0 ≤ t) (h1 : t ≤ 60) : throwS [] ⟨#[120]⟩ 1 ⟨#[]⟩ b lost twice t = fst_ b lost twice t 0 := by
  have hd : delayS t = t := by unfold delayS; omega
  have h2 : 0 ≤ 2 * t + 1 := by omega
  unfold throwS fst_ layS pc fx
  rw [hd]
  cases lost <;> cases twice <;> simp [h0, h2]
theorem fst_left (b : List Int) (lost twice : Bool) (t i : Int) : leftS (fst_ b lost twice t i) = fst_ b lost twice t (i + 1) := by
  unfold fst_
  rw [leftS_append, pc_left, pc_left, show t - i - 1 = t - (i + 1) by omega, show 2 * t + 1 - i - 1 = 2 * t + 1 - (i + 1) by omega]
theorem fst_gone (b : List Int) (lost twice : Bool) (t i : Int) (h0 : 0 ≤ t) : goneS (fst_ b lost twice t i) = if comes lost twice t i = true then [fx b 0] else [] := by
  unfold fst_ comes
  rw [goneS_append, pc_gone, pc_gone]
  by_cases e1 : i = t
  · subst e1
    cases lost <;> cases twice <;> simp <;> omega
  · by_cases e2 : i = 2 * t + 1
    · subst e2
      have e3 : ¬ t - (2 * t + 1) = 0 := by omega
      cases lost <;> cases twice <;> simp [e1, e3]
    · have e3 : ¬ t - i = 0 := by omega
      have e4 : ¬ 2 * t + 1 - i = 0 := by omega
      cases lost <;> cases twice <;> simp [e1, e2, e3, e4]
theorem fst_end (b : List Int) (lost twice : Bool) (t : Int) (h0 : 0 ≤ t) : fst_ b lost twice t (2 * t + 5) = [] := by
  unfold fst_ pc
  rw [if_neg (by omega), if_neg (by omega)]
  rfl
theorem came_none {w : World} {B base : Nat} {e : Ending} (h : Came w B base e []) : ∃ A c, e = .returned (.slice A 0 c) := by
  obtain ⟨vo, gs, rfl, hs, hq, hf⟩ := h
  have hl : gs = [] := by
    rcases gs with _ | ⟨f, gs⟩
    · rfl
    · simp at hs
  subst hl
  obtain ⟨Av, cv, rfl, hle⟩ := q_slice hq
  exact ⟨Av, cv, rfl⟩
theorem one_reads {w : World} {gr off c : Nat} {A : Option Addr} {s : ByteArray} {d : Int} {o : ByteArray} {b : List Int} (h0 : w.cell? ⟨gr, off, none⟩ = some (.string s)) (h1 : w.cell? ⟨gr, off + 1, none⟩ = some (.int .i64 d)) (h2 : w.cell? ⟨gr, off + 2, none⟩ = some (.string o)) (h3 : w.cell? ⟨gr, off + 3, none⟩ = some (.slice A b.length c)) (hc : b.length ≤ c) (hb : Bytes w A b) (hl : b.length ≤ 1000000) :
    Kd.C k32 w (some ⟨gr, off, none⟩) 1 [⟨s, d, o, b⟩] := by
  refine ⟨rfl, by decide, fun hn => ⟨_, rfl, fun j p hj => ?_⟩⟩
  rcases j with _ | j
  · simp only [List.getElem?_cons_zero, Option.some.injEq] at hj
    subst hj
    refine ⟨[.string s, .int .i64 d, .string o, .slice A b.length c], rfl, k32_mk w ⟨s, d, o, b⟩ hc (reads_bytes hb (by show b.length ≤ _; omega)), fun i u hi => ?_⟩
    rw [add_at]
    rcases i with _ | _ | _ | _ | i
    · simp at hi; subst hi; simpa using h0
    · simp at hi; subst hi; simpa using h1
    · simp at hi; subst hi; simpa using h2
    · simp at hi; subst hi; simpa using h3
    · simp at hi
  · simp at hj
theorem same_true (w : World) (A0 A1 : Option Addr) (c0 c1 : Nat) (l : List S32) (h0 : Kd.C k32 w A0 l.length l) (h1 : Kd.C k32 w A1 l.length l) (k0 : l.length ≤ c0) (k1 : l.length ≤ c1) (hl : l.length ≤ 1000000) (hx : ∀ x ∈ l, x.f3.length ≤ 1000000) :
    Calls Try.prog 11 #[.slice A0 l.length c0, .slice A1 l.length c1] w fun e w' => e = .returned (.bool true) ∧ Below w.heap.size w w' :=
  shutterref24_Same.calls _ A0 c0 l A1 c1 l true w h0 k0 h1 k1 (same_self l 1000000 (by omega) (by decide) hx)
set_option maxHeartbeats 4000000 in
set_option maxRecDepth 100000 in
theorem fates_law (A : Option Addr) (c : Nat) (b : List Int) (lost twice : Bool) (t : Int) (w : World) (hb : Bytes w A b) (hc : b.length ≤ c) (hbl : b.length ≤ 140737488351232) (ht : -9223372036854775808 ≤ t ∧ t ≤ 9223372036854775807) :
    Calls Try.prog 4 #[.slice A b.length c, .agg #[.bool lost, .bool twice, .int .i64 t]] w fun e w' => e = .returned (.bool true) ∧ Below w.heap.size w w' := by
  have HBy := Aside0.mk hb
  have HT := Aside0.mk ht
  have HB := Aside0.mk (Below.refl w.heap.size w)
  clear hb ht
  go_enter Try.func4, Try.ntmps4
  go_wp2_with ((with_reducible refine gate_dst (N := 3) rfl ?_); refine stop_here ?_)
  refine ⟨?_⟩
  refine box_event rfl (N := 3) rfl (cs := #[.bool lost, .bool twice, .int .i64 t]) (t := 34) ?hr3 ?_
  case hr3 => first | (go_simp; done) | (go_simp; rfl)
  intro g3 hg3 w1 hbox hb
  have L3 := Aside0.mk (show w.heap.size ≤ g3 by rw [hg3]; exact Nat.le_refl _)
  have X1 := Aside0.mk hbox
  have B1 := Aside0.mk (below_step HB.out hb)
  clear hg3 hbox hb HB
  go_wp2_with (go_at_call 8; refine stop_here ?_)
  refine ⟨?_⟩
  refine (awake_calls w1).mono ?_
  rintro e w2 ⟨rfl, hb⟩
  have X2 := Aside0.mk (blk_below X1.out hb)
  have B2 := Aside0.mk (below_step B1.out hb)
  clear hb X1 B1
  have y0 := (blk_cell X2.out 0).trans (show (#[Value.bool lost, .bool twice, .int .i64 t] : Array Value)[0]? = some _ from rfl)
  have y1 := (blk_cell X2.out 1).trans (show (#[Value.bool lost, .bool twice, .int .i64 t] : Array Value)[1]? = some _ from rfl)
  have y2 := (blk_cell X2.out 2).trans (show (#[Value.bool lost, .bool twice, .int .i64 t] : Array Value)[2]? = some _ from rfl)
  by_cases hl : b.length ≤ 300 ∧ 0 ≤ t ∧ t ≤ 60
  · obtain ⟨h1, h2, h3⟩ := hl
    have l1 : ¬ 300 < (b.length : Int) := by omega
    have l2 : ¬ t < 0 := by omega
    have l3 : ¬ 60 < t := by omega
    go_wp2_with (go_at_call 9; refine stop_here ?_)
    refine ⟨?_⟩
    refine (new_is w2).mono ?_
    rintro e w3 ⟨g, rfl, hg, hA, hb⟩
    have A3 := Aside0.mk hA
    have G3 := Aside0.mk hg
    have W2 := Aside0.mk (show w.heap.size ≤ w2.heap.size from B2.out.size)
    have X3 := Aside0.mk (blk_below X2.out hb)
    have B3 := Aside0.mk (below_step B2.out hb)
    have Z3 := Aside0.mk hb.size
    have P3 := Aside0.mk (blk_lt X2.out)
    clear hA hg hb X2 B2 y0 y1 y2
    have xr : w3.rangeAt g3 0 [.bool lost, .bool twice, .int .i64 t] := row_range X3.out
    go_wp2_with ((with_reducible refine gate_dst (N := 33) rfl ?_); refine stop_here ?_)
    refine ⟨?_⟩
    refine wpList_load_row rfl 34 (.tmp 3) rfl g3 rfl 34 #[.bool lost, .bool twice, .int .i64 t] (0, 0) _ X3.out Try.underlying34 rfl rfl ?_
    go_wp2_with (go_at_call 13; refine stop_here ?_)
    refine ⟨?_⟩
    refine (throw_is w3 w2.heap.size g (.slice none 0 0) [] ⟨#[120]⟩ 1 ⟨#[]⟩ A c b lost twice t A3.out (HBy.out.below B3.out) (fun hp ad e => fun hf => by
      have h4 := A3.out.foot G3.out _ hf
      have h5 := HBy.out.lt hp ad e
      have := W2.out
      omega) hc (by omega) Z3.out).mono ?_
    rintro e w4 ⟨rfl, v4, hA, hV, hF⟩
    rw [fst_start b lost twice t h2 h3] at hA
    have A4 := Aside0.mk hA
    have B4 := Aside0.mk (below_air B3.out hF A3.out G3.out W2.out B3.out.size)
    have X4 := Aside0.mk (hF.blk X3.out (A3.out.typed X3.out (by decide) (by decide)))
    clear hA hV hF A3 B3 X3 xr
    have hd : (2 * t + 5).toNat = (2 * t + 5).toNat := rfl
    go_wp2
    go_loopg [6] (2 * t + 5).toNat (fun kq v6 w' => ∃ (i : Int) (v : Value), 0 ≤ i ∧ i ≤ 2 * t + 5 ∧ v6 = .int .i64 i ∧ Aside0 (kq = (2 * t + 5 - i).toNat) ∧ Aside0 (AirIs w' w2.heap.size g v (fst_ b lost twice t i)) ∧ Aside0 (w'.heap[g3]? = some (.cells #[.bool lost, .bool twice, .int .i64 t] 34 (0, 0))) ∧ Aside0 (Below w.heap.size w w'))
    case atStart => exact ⟨0, v4, by omega, by omega, rfl, ⟨by rw [Int.sub_zero]⟩, A4, X4, B4⟩
    case round =>
      clear A4 X4 B4
      obtain ⟨i, v, i0, i1, rfl, HK, A4, X4, B4⟩ := hrel
      have y0 := (blk_cell X4.out 0).trans (show (#[Value.bool lost, .bool twice, .int .i64 t] : Array Value)[0]? = some _ from rfl)
      have y1 := (blk_cell X4.out 1).trans (show (#[Value.bool lost, .bool twice, .int .i64 t] : Array Value)[1]? = some _ from rfl)
      have y2 := (blk_cell X4.out 2).trans (show (#[Value.bool lost, .bool twice, .int .i64 t] : Array Value)[2]? = some _ from rfl)
      by_cases hlt : i < 2 * t + 5
      · go_wp2_with (go_at_call 12; refine stop_here ?_)
        refine ⟨?_⟩
        refine (tick_is _ w2.heap.size g v _ A4.out).mono ?_
        rintro e w5 ⟨hC, v5, hA, hV, hF⟩
        rw [fst_left] at hA
        rw [fst_gone b lost twice t i h2] at hC
        have A5 := Aside0.mk hA
        have B5 := Aside0.mk (below_air B4.out hF A4.out G3.out W2.out B4.out.size)
        have X5 := Aside0.mk (hF.blk X4.out (A4.out.typed X4.out (by decide) (by decide)))
        clear hA hV hF A4 B4 X4 y0 y1 y2
        have y0 := (blk_cell X5.out 0).trans (show (#[Value.bool lost, .bool twice, .int .i64 t] : Array Value)[0]? = some _ from rfl)
        have y1 := (blk_cell X5.out 1).trans (show (#[Value.bool lost, .bool twice, .int .i64 t] : Array Value)[1]? = some _ from rfl)
        have y2 := (blk_cell X5.out 2).trans (show (#[Value.bool lost, .bool twice, .int .i64 t] : Array Value)[2]? = some _ from rfl)
        by_cases hcm : comes lost twice t i = true
        · rw [if_pos hcm] at hC
          obtain ⟨gr, off, cr, Ar, kr, rfl, hgr, hty, r0, r1, r2, r3, r4, r5, r6, r7⟩ := came_one hC
          have CR := Aside0.mk r7
          clear r7 hC
          unfold comes at hcm
          have HCM := Aside0.mk hcm
          have R0 := Aside0.mk r0
          have R1 := Aside0.mk r1
          have R2 := Aside0.mk r2
          have R3 := Aside0.mk r3
          have R4 := Aside0.mk r4
          have R5 := Aside0.mk r5
          clear hcm r0 r1 r2 r3 r4 r5 r6 hty hgr
          go_upto_region 11 with (fail)
          go_cut [8] (fun v8 w' => v8 = .bool true ∧ w' = w5)
          case first =>
            cases lost with
            | true => exact absurd HCM.out (by simp)
            | false =>
              replace y0 : w5.cell? ⟨g3, 0, none⟩ = some (.bool false) := y0
              by_cases n1 : i = t
              · have e1 : (i == t) = true := by simpa using n1
                clear n1
                go_wp2
                go_meet
                exact ⟨rfl, rfl⟩
              · have e1 : (i == t) = false := by simpa using n1
                cases twice with
                | false => exact absurd HCM.out (by simp [n1])
                | true =>
                  replace y1 : w5.cell? ⟨g3, 1, none⟩ = some (.bool true) := y1
                  have n2 : i = 2 * t + 1 := by
                    have h := HCM.out
                    simp [n1] at h
                    exact h
                  have e2 : (i == 2 * t + 1) = true := by simpa using n2
                  clear n1 n2
                  go_wp2
                  go_meet
                  exact ⟨rfl, rfl⟩
          case rest =>
            obtain ⟨rfl, hw⟩ := hcut
            have hw' := hw.symm
            subst hw'
            clear hw
            go_wp2_with ((with_reducible refine gate_dst (N := 81) rfl ?_); refine stop_here ?_)
            refine ⟨?_⟩
            (try (refine gate_guard (by rfl) ?_; dsimp only))
            refine made_event rfl ⟨[.string ⟨#[120]⟩, .int .i64 1, .string ⟨#[]⟩, .slice A b.length c]⟩ 32 1 ?hr81 ?_
            case hr81 => first | (go_simp; done) | (go_simp; rfl)
            intro gl hgl w6 hbx hb
            have A6 := Aside0.mk (A5.out.below hb)
            have X6 := Aside0.mk (blk_below X5.out hb)
            have B6 := Aside0.mk (below_step B5.out hb)
            have C0 := Aside0.mk (one_reads (by simpa using (Frame.of_below hb).cell R0.out (fun h => h)) ((Frame.of_below hb).cell R1.out (fun h => h)) ((Frame.of_below hb).cell R2.out (fun h => h)) ((Frame.of_below hb).cell R3.out (fun h => h)) R4.out (R5.out.below hb) (by show b.length ≤ _; omega))
            have hby : Bytes w6 A b := HBy.out.below B6.out
            have C1 := Aside0.mk (one_reads (off := 0) (s := ⟨#[120]⟩) (d := 1) (o := ⟨#[]⟩) (A := A) (c := c) (b := b) ((blk_cell hbx 0).trans rfl) ((blk_cell hbx 1).trans rfl) ((blk_cell hbx 2).trans rfl) ((blk_cell hbx 3).trans rfl) hc hby (by omega))
            clear hgl hbx hb hby A5 X5 B5 R0 R1 R2 R3 R4 R5 y0 y1 y2
            go_wp2_with (go_at_call 11; refine stop_here ?_)
            refine ⟨?_⟩
            refine (same_true w6 (some ⟨gr, off, none⟩) (some ⟨gl, 0, none⟩) cr 1 [⟨⟨#[120]⟩, 1, ⟨#[]⟩, b⟩] C0.out C1.out CR.out (Nat.le_refl 1) (show (1 : Nat) ≤ 1000000 by decide) (fun x hx => by
              obtain rfl := List.mem_singleton.1 hx
              show b.length ≤ _
              omega)).mono ?_
            rintro e w7 ⟨rfl, hb⟩
            have A7 := Aside0.mk (A6.out.below hb)
            have X7 := Aside0.mk (blk_below X6.out hb)
            have B7 := Aside0.mk (below_step B6.out hb)
            clear hb A6 X6 B6 C0 C1
            go_wp2
            go_roundg (2 * t + 5 - i - 1).toNat
            case measure => have := HK.out; omega
            case rel => exact ⟨i + 1, v5, by omega, by omega, rfl, ⟨by rw [show 2 * t + 5 - (i + 1) = 2 * t + 5 - i - 1 by omega]⟩, A7, X7, B7⟩
        · rw [if_neg hcm] at hC
          obtain ⟨An, cn, rfl⟩ := came_none hC
          clear hC
          unfold comes at hcm
          have HCM := Aside0.mk hcm
          clear hcm
          go_upto_region 11 with (fail)
          go_cut [8] (fun v8 w' => v8 = .bool false ∧ w' = w5)
          case first =>
            cases lost with
            | true =>
              replace y0 : w5.cell? ⟨g3, 0, none⟩ = some (.bool true) := y0
              go_wp2
              go_meet
              exact ⟨rfl, rfl⟩
            | false =>
              replace y0 : w5.cell? ⟨g3, 0, none⟩ = some (.bool false) := y0
              have n1 : ¬ i = t := by
                have h := HCM.out
                simp at h
                exact h.1
              have e1 : (i == t) = false := by simpa using n1
              clear n1
              cases twice with
              | false =>
                replace y1 : w5.cell? ⟨g3, 1, none⟩ = some (.bool false) := y1
                go_wp2
                go_meet
                exact ⟨rfl, rfl⟩
              | true =>
                replace y1 : w5.cell? ⟨g3, 1, none⟩ = some (.bool true) := y1
                have n2 : ¬ i = 2 * t + 1 := by
                  have h := HCM.out
                  simp at h
                  exact h.2
                have e2 : (i == 2 * t + 1) = false := by simpa using n2
                clear n2
                go_wp2
                go_meet
                exact ⟨rfl, rfl⟩
          case rest =>
            obtain ⟨rfl, hw⟩ := hcut
            have hw' := hw.symm
            subst hw'
            clear hw
            go_wp2
            go_roundg (2 * t + 5 - i - 1).toNat
            case measure => have := HK.out; omega
            case rel => exact ⟨i + 1, v5, by omega, by omega, rfl, ⟨by rw [show 2 * t + 5 - (i + 1) = 2 * t + 5 - i - 1 by omega]⟩, A5, X5, B5⟩
      · have HI := Aside0.mk (show i = 2 * t + 5 by omega)
        go_wp2_with (go_at_call 15; refine stop_here ?_)
        refine ⟨?_⟩
        refine (fly_n 0 _ _ g v _ A4.out (by rw [HI.out, fst_end b lost twice t h2]; rfl)).mono ?_
        rintro e w5 ⟨rfl, rfl⟩
        go_wp2
        go_ret
        exact ⟨rfl, B4.out⟩
  · by_cases h1 : 300 < b.length
    · have l1 : 300 < (b.length : Int) := by omega
      go_wp2_with (go_at_call 8; refine stop_here ?_)
      refine ⟨?_⟩
      refine (awake_calls w2).mono ?_
      rintro e w3 ⟨rfl, hb⟩
      go_wp2
      go_ret
      exact ⟨rfl, below_step B2.out hb⟩
    · have l1 : ¬ 300 < (b.length : Int) := by omega
      by_cases h2 : t < 0
      · go_wp2_with (go_at_call 8; refine stop_here ?_)
        refine ⟨?_⟩
        refine (awake_calls w2).mono ?_
        rintro e w3 ⟨rfl, hb⟩
        go_wp2
        go_ret
        exact ⟨rfl, below_step B2.out hb⟩
      · have h3 : 60 < t := by omega
        go_wp2_with (go_at_call 8; refine stop_here ?_)
        refine ⟨?_⟩
        refine (awake_calls w2).mono ?_
        rintro e w3 ⟨rfl, hb⟩
        go_wp2
        go_ret
        exact ⟨rfl, below_step B2.out hb⟩
end Go.Proofs.Ytaciokdgoogpiaa.NetT

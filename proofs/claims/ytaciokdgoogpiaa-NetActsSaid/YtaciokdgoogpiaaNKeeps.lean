/- Proved: the law NetKeeps; conditions: the theorems' own premises. -/
import Derived.Test.YtaciokdgoogpiaaNFull
namespace Go.Proofs.Ytaciokdgoogpiaa.NetT
open Go.RowKit Go.Proofs.Ytaciokdgoogpiaa.YNet Go.Proofs.YtaciokdgoogpiaaW.PrintWords Go.Proofs.YtaciokdgoogpiaaW.PrintLast Go.Proofs.YtaciokdgoogpiaaW.PrintMore
set_option linter.unusedVariables false
set_option linter.unusedSimpArgs false
theorem AirIs.keep2 {w w1 : World} {base g : Nat} {v : Value} {l : List Say} {S : Nat → Prop} (h : AirIs w base g v l) (hf : Frame w w1 S) (hg : ¬ S g) (hS : ∀ k, base ≤ k → ¬ S k) : AirIs w1 base g v l := by
  obtain ⟨fs, h1, h2⟩ := h
  exact ⟨fs, h1.keep hf hg (fun k hk => hS k (q_typed h1.row k hk).1) (fun f hm ad e => hS _ ((h1.els f hm).own ad e).1), h2⟩
theorem AirIs.foot2 {w : World} {base B g : Nat} {v : Value} {l : List Say} (h : AirIs w base g v l) (hg : B ≤ g) (hB : B ≤ base) : ∀ k, AirFoot g v k → B ≤ k := by
  obtain ⟨fs, h3, _⟩ := h
  intro k hk
  rcases hk with rfl | hk
  · exact hg
  · exact Nat.le_trans hB (q_typed h3.row k hk.symm).1
/-- One cell of a row of one-cell elements is stored. -/
theorem row_cell1 {w : World} {base gr off n c : Nat} {e : TypeId} {xs : List Value} (hq : QRow w base e 1 (.slice (some ⟨gr, off, none⟩) n c) n xs) (p : Nat) (hp : p < n) (u : Value) :
    QRow (w.setCell ⟨gr, off + p, none⟩ u) base e 1 (.slice (some ⟨gr, off, none⟩) n c) n (xs.set p u) := by
  obtain ⟨hl, h⟩ := hq
  refine ⟨by rw [List.length_set]; exact hl, ?_⟩
  rcases h with ⟨h0, _⟩ | ⟨g, o, cap, cur, he, hg, hh, hnc, hm, hcs, ht⟩
  · omega
  · injection he with ha _ hc
    injection ha with ha
    injection ha with ha1 ha2 _
    subst ha1
    subst ha2
    subst hc
    refine .inr ⟨gr, o, c, _, rfl, hg, blk_set hh (o * 1 + p) u, hnc, hm, by rw [Array.size_setIfInBounds]; exact hcs, ?_⟩
    rw [Array.toList_setIfInBounds, List.drop_set, if_neg (by omega), List.take_set, ht, Nat.add_sub_cancel_left]
theorem bytes_of_row {w : World} {B : Nat} {ok : Nat → Prop} {v : Value} {l : List Int} (h : Kd.R (Kd.int .u8) 5 w B ok v l) : ∃ A c, v = .slice A l.length c ∧ l.length ≤ c ∧ Bytes w A l ∧ (∀ ad, A = some ad → B ≤ ad.block ∧ ∃ cells, w.heap[ad.block]? = some (.cells cells 5 (0, 0))) := by
  have hq := own_bytes h
  obtain ⟨A, c, rfl, hc⟩ := q_slice hq
  exact ⟨A, c, rfl, hc, fun hp => q_cells hq hp, fun ad e => by
    subst e
    exact q_typed hq ad.block rfl⟩
def U8s (n : Nat) (ys : List Value) : Prop := ∀ j, j < n → ∃ x : Int, ys[j]? = some (.int .u8 x)
def ke (b : List Int) (t : Int) : Say := (⟨#[]⟩, 0, ⟨#[]⟩, b, t)
set_option maxHeartbeats 4000000 in
set_option maxRecDepth 100000 in
theorem keeps_law (A : Option Addr) (c : Nat) (b : List Int) (w : World) (hb : Bytes w A b) (hc : b.length ≤ c) (hbl : b.length ≤ 140737488351232) (hr : ∀ x ∈ b, 0 ≤ x ∧ x ≤ 255) :
    Calls Try.prog 6 #[.slice A b.length c] w fun e w' => e = .returned (.bool true) ∧ Below w.heap.size w w' := by
  have HBy := Aside0.mk hb
  have HR8 := Aside0.mk hr
  clear hb hr
  go_enter Try.func6, Try.ntmps6
  go_wp2_with (go_at_call 8; refine stop_here ?_)
  refine ⟨?_⟩
  refine (awake_calls w).mono ?_
  rintro e w2 ⟨rfl, hb⟩
  have B2 := Aside0.mk hb
  clear hb
  by_cases hl : b.length ≤ 300
  · have l1 : ¬ 300 < (b.length : Int) := by omega
    go_wp2_with (go_at_call 9; refine stop_here ?_)
    refine ⟨?_⟩
    refine (new_calls w2).mono ?_
    rintro e w3 ⟨g, rfl, hg, hA, hb⟩
    have A3 := Aside0.mk hA.blk
    have W2 := Aside0.mk (show w.heap.size ≤ w2.heap.size from B2.out.size)
    have G3 := Aside0.mk (show w.heap.size ≤ g from Nat.le_trans W2.out hg)
    have B3 := Aside0.mk (below_step B2.out hb)
    have Z3 := Aside0.mk hb.size
    clear hA hg hb B2
    go_wp2_with ((with_reducible refine gate_dst (N := 19) rfl ?_); refine stop_here ?_)
    refine ⟨?_⟩
    refine Kd.R_lit (Kd.int .u8) (w0 := w3) w3.heap.size 5 rfl (N := 19) rfl (xs := ([] : List Int)) (inner := []) (ok := fun _ => True) (okp := fun _ => True) ?hr19 ⟨rfl, fun j p h => by simp at h⟩ (fun _ _ => trivial) trivial (Below.refl _ _) (Nat.le_refl _) (by decide) ?_
    case hr19 => first | (go_simp; done) | (go_simp; rfl)
    intro v19 w4 hR hb hg _
    have B4 := Aside0.mk (below_step B3.out hb)
    have A4 := Aside0.mk (blk_below A3.out hb)
    have R4 := Aside0.mk hR
    have Z4 := Aside0.mk hb.size
    clear hR hb hg A3 B3
    go_wp2_with (at_builtin; refine stop_here ?_)
    refine ⟨?_⟩
    refine Kd.R_append_rows (Kd.int .u8) (w0 := w4) w3.heap.size rfl (.tmp 19) (.tmp 20) 30 5 (.int .u8 0) 1 rfl Try.underlying30 info5 rfl (by decide) (by omega) v19 [] b A b.length c (fun _ => True) (fun _ => False) rfl rfl R4.out (reads_bytes (HBy.out.below B4.out) (by omega)) (fun _ _ h => h) (fun _ h => h.elim) (fun _ _ => trivial) (Below.refl _ _) Z4.out (by simp; omega) ?_
    intro v4 w5 hR hb hg _
    rw [List.nil_append] at hR
    have hne : some g ≠ v19.ownBlock := fun e => by
      have h1 := Kd.R_base R4.out g e.symm
      have h2 := blk_lt A4.out
      obtain ⟨cells, h3⟩ := Kd.R_typed R4.out g e.symm
      have := h3.symm.trans A4.out
      simp at this
    have A5 := Aside0.mk (blk_grown A4.out hg hne)
    have B5 := Aside0.mk (below_frame B4.out (Frame.of_grown hg) B4.out.size (fun k e => Nat.le_trans (Nat.le_trans W2.out Z3.out) (Kd.R_base R4.out k e.symm)))
    obtain ⟨Ao, co, rfl, hco, hby, hty⟩ := bytes_of_row hR
    have Q5 := Aside0.mk (own_bytes hR)
    have BY5 := Aside0.mk hby
    have T5 := Aside0.mk hty
    have Z5 := Aside0.mk (Nat.le_trans Z4.out hg.size)
    have N5 : Aside0 (AirIs w5 w5.heap.size g (.slice none 0 0) []) := ⟨⟨[], nil_air _ _ _ A5.out, rfl, by decide, fun x hx => by simp at hx⟩⟩
    clear hR hb hg hne hby hty A4 B4 R4
    go_wp2_with (go_at_call 13; refine stop_here ?_)
    refine ⟨?_⟩
    refine (throw_is w5 w5.heap.size g (.slice none 0 0) [] ⟨#[]⟩ 0 ⟨#[]⟩ Ao co b false true 0 N5.out BY5.out (fun _ ad e => by
      obtain ⟨_, cells, h⟩ := T5.out ad e
      exact N5.out.typed h (by decide) (by decide)) hco (by omega) (Nat.le_refl _)).mono ?_
    rintro e w6 ⟨rfl, v6, hA, hV, hF⟩
    have A6 : Aside0 (AirIs w6 w5.heap.size g v6 [ke b 0, ke b 1]) := ⟨hA⟩
    have B6 := Aside0.mk (below_frame B5.out hF B5.out.size (N5.out.foot2 G3.out B5.out.size))
    have Q6 := Aside0.mk (qi_keep Q5.out hF (fun k hk => by
      obtain ⟨_, cells, h⟩ := q_typed Q5.out k hk
      exact N5.out.typed h (by decide) (by decide)))
    have Z6 := Aside0.mk hF.size
    have HO := Aside0.mk (show ∀ ad, Ao = some ad → w.heap.size ≤ ad.block ∧ ad.block < w5.heap.size ∧ ad.block ≠ g from fun ad e => by
      obtain ⟨h1, cells, h2⟩ := T5.out ad e
      refine ⟨Nat.le_trans (Nat.le_trans W2.out Z3.out) h1, blk_lt h2, fun e => ?_⟩
      rw [e] at h2
      have := h2.symm.trans A5.out
      simp at this)
    have HW5 := Aside0.mk B5.out.size
    have U6 : Aside0 (U8s b.length (nums .u8 b)) := ⟨fun j hj => ⟨b[j], by unfold nums; rw [List.getElem?_map, List.getElem?_eq_getElem hj]; rfl⟩⟩
    clear hA hV hF A5 B5 Q5 BY5 T5 N5
    go_upto_region 9 with (fail)
    go_loopg [5] b.length (fun kq v5 w' => ∃ (i : Nat) (ys : List Value), i ≤ b.length ∧ v5 = .int .i64 (i : Int) ∧ Aside0 (kq = b.length - i) ∧ Aside0 (AirIs w' w5.heap.size g v6 [ke b 0, ke b 1]) ∧ Aside0 (QRow w' w3.heap.size 5 1 (.slice Ao b.length co) b.length ys) ∧ Aside0 (U8s b.length ys) ∧ Aside0 (Below w.heap.size w w') ∧ Aside0 (w5.heap.size ≤ w'.heap.size))
    case atStart => exact ⟨0, _, by omega, rfl, ⟨rfl⟩, A6, Q6, U6, B6, Z6⟩
    case round =>
      clear A6 Q6 U6 B6 Z6
      obtain ⟨i, ys, hi, rfl, HK, A6, Q6, U6, B6, Z6⟩ := hrel
      have zi : 0 ≤ (i : Int) := by omega
      by_cases hlt : i < b.length
      · have lt : (i : Int) < (b.length : Int) := by omega
        obtain ⟨go, oo, hAo⟩ := row_at Q6.out (by omega)
        subst hAo
        obtain ⟨x, hx⟩ := U6.out i hlt
        obtain ⟨ad, ea, hcell⟩ := q_cells Q6.out (by omega)
        injection ea with ea
        subst ea
        have c0 := hcell i _ hx
        rw [add_at] at c0
        obtain ⟨_, cells, hblk⟩ := q_typed Q6.out go rfl
        have f0 := blk_frozen hblk (oo + i)
        have HX := Aside0.mk hx
        have HBK := Aside0.mk hblk
        clear hx hcell hblk
        go_upto_region 10 with (fail)
        have HGO := Aside0.mk (HO.out _ rfl)
        have Q7 := Aside0.mk (row_cell1 Q6.out i hlt (.int .u8 (bits BinOp.xor IntKind.u8 x 255)))
        have FS := Aside0.mk (Frame.of_set wr go (oo + i) (.int .u8 (bits BinOp.xor IntKind.u8 x 255)))
        have A7 := Aside0.mk (A6.out.keep2 FS.out (fun e => HGO.out.2.2 e.symm) (fun k hk e => by have h1 : go < w5.heap.size := HGO.out.2.1; omega))
        have B7 := Aside0.mk (below_frame B6.out FS.out B6.out.size (fun k e => by rw [e]; exact HGO.out.1))
        have U7 : Aside0 (U8s b.length (ys.set i (.int .u8 (bits BinOp.xor IntKind.u8 x 255)))) := ⟨fun j hj => by
          by_cases e : i = j
          · subst e
            exact ⟨_, List.getElem?_set_self (by have h2 := Q6.out.1; omega)⟩
          · rw [List.getElem?_set_ne e]
            exact U6.out j hj⟩
        have Z7 := Aside0.mk (Nat.le_trans Z6.out FS.out.size)
        obtain ⟨w7, hw7⟩ : ∃ w7, wr.setCell ⟨go, oo + i, none⟩ (.int .u8 (bits BinOp.xor IntKind.u8 x 255)) = w7 := ⟨_, rfl⟩
        rw [hw7] at Q7 A7 B7 Z7
        rw [hw7]
        clear hw7 FS Q6 A6 B6 U6 Z6 HX HBK c0 f0
        go_wp2
        go_roundg (b.length - i - 1)
        case measure => have := HK.out; omega
        case rel => exact ⟨i + 1, _, by omega, by go_num, ⟨by omega⟩, A7, Q7, U7, B7, Z7⟩
      · have lt : ¬ (i : Int) < (b.length : Int) := by omega
        obtain ⟨fs, hI, hs, _, _⟩ := A6.out
        obtain ⟨f1, f2, rfl⟩ : ∃ f1 f2, fs = [f1, f2] := by
          have hl := congrArg List.length hs
          rw [List.length_map] at hl
          rcases fs with _ | ⟨f1, _ | ⟨f2, _ | ⟨f3, fs⟩⟩⟩
          · simp at hl
          · simp at hl
          · exact ⟨f1, f2, rfl⟩
          · simp at hl
        simp only [List.map_cons, List.map_nil, List.cons.injEq, and_true] at hs
        obtain ⟨hs1, hs2⟩ := hs
        obtain ⟨s1, d1, o1, A1, c1, b1, t1⟩ := f1
        obtain ⟨s2, d2, o2, A2, c2, b2, t2⟩ := f2
        simp only [Fl.say, ke, Prod.mk.injEq] at hs1 hs2
        obtain ⟨rfl, rfl, rfl, e4, rfl⟩ := hs1
        have e4' := e4.symm
        subst e4'
        obtain ⟨rfl, rfl, rfl, e5, rfl⟩ := hs2
        have e5' := e5.symm
        subst e5'
        clear e4 e5
        have I6 := Aside0.mk hI
        clear hI
        go_wp2_with (go_at_call 12; refine stop_here ?_)
        refine ⟨?_⟩
        refine (tick_calls _ w5.heap.size g v6 _ I6.out (by simp) (fun f hf => by
          rcases List.mem_cons.1 hf with rfl | hf
          · show (0 : Int) ≤ 0 ∧ (0 : Int) ≤ 3000
            omega
          · obtain rfl := List.mem_singleton.1 hf
            show (0 : Int) ≤ 1 ∧ (1 : Int) ≤ 3000
            omega)).mono ?_
        rintro e w8 ⟨v8, ⟨vo, rfl, hq⟩, hI8, hV, hF⟩
        replace hq : QRow w8 _ 32 4 vo 1 (mlCells [⟨⟨#[]⟩, 0, ⟨#[]⟩, A1, c1, b, 0⟩]) := hq
        replace hI8 : IsAir w8 w5.heap.size g v8 [⟨⟨#[]⟩, 0, ⟨#[]⟩, A2, c2, b, 0⟩] := hI8
        have hk := (I6.out.els _ (List.mem_cons_self)).keep hF (I6.out.els_off _ (List.mem_cons_self))
        obtain ⟨Av, cv, rfl, hcv⟩ := q_slice hq
        obtain ⟨gr, off, rfl⟩ := row_at hq (by decide)
        obtain ⟨ad, ea, hcell⟩ := q_cells hq (by decide)
        injection ea with ea
        subst ea
        obtain ⟨_, hgr⟩ := q_typed hq gr rfl
        have r0 := hcell 0 _ rfl
        have r1 := hcell 1 _ rfl
        have r2 := hcell 2 _ rfl
        have r3 := hcell 3 _ rfl
        rw [add_at] at r0 r1 r2 r3
        have HFar := Aside0.mk (show Far ⟨⟨#[]⟩, 0, ⟨#[]⟩, A1, c1, b, 0⟩ ⟨⟨#[]⟩, 0, ⟨#[]⟩, A2, c2, b, 1⟩ from (List.pairwise_cons.1 I6.out.apart).1 _ (List.mem_singleton.2 rfl))
        have I8 := Aside0.mk hI8
        have K8 := Aside0.mk hk
        have GR := Aside0.mk hgr
        have CV := Aside0.mk hcv
        have R0 := Aside0.mk r0
        have R1 := Aside0.mk r1
        have R2 := Aside0.mk r2
        have R3 := Aside0.mk r3
        have B8 := Aside0.mk (below_frame B6.out hF B6.out.size (A6.out.foot2 G3.out HW5.out))
        clear hq hI8 hk hcell hgr hcv r0 r1 r2 r3 hV hF A6 Q6 U6 B6 Z6 I6
        go_wp2_with ((with_reducible refine gate_dst (N := 50) rfl ?_); refine stop_here ?_)
        refine ⟨?_⟩
        (try (refine gate_guard (by rfl) ?_; dsimp only))
        refine made_event rfl ⟨[.string ⟨#[]⟩, .int .i64 0, .string ⟨#[]⟩, .slice A b.length c]⟩ 32 1 ?hr50 ?_
        case hr50 => first | (go_simp; done) | (go_simp; rfl)
        intro gl hgl w9 hbx hb
        have FB := Frame.of_below hb
        have I9 := Aside0.mk (I8.out.below hb)
        have K9 := Aside0.mk (K8.out.keep FB (fun _ _ h => h))
        have B9 := Aside0.mk (below_step B8.out hb)
        have S0 := Aside0.mk (FB.cell R0.out (fun h => h))
        have S1 := Aside0.mk (FB.cell R1.out (fun h => h))
        have S2 := Aside0.mk (FB.cell R2.out (fun h => h))
        have S3 := Aside0.mk (FB.cell R3.out (fun h => h))
        have GR9 := Aside0.mk (GR.out.imp fun cells h => blk_below h hb)
        have hby : Bytes w9 A b := HBy.out.below B9.out
        have C1 := Aside0.mk (one_reads (off := 0) (s := ⟨#[]⟩) (d := 0) (o := ⟨#[]⟩) (A := A) (c := c) (b := b) ((blk_cell hbx 0).trans rfl) ((blk_cell hbx 1).trans rfl) ((blk_cell hbx 2).trans rfl) ((blk_cell hbx 3).trans rfl) hc hby (by omega))
        have C0 := Aside0.mk (one_reads (gr := gr) (off := off) (s := ⟨#[]⟩) (d := 0) (o := ⟨#[]⟩) (A := A1) (c := c1) (b := b) (by simpa using S0.out) S1.out S2.out S3.out K9.out.cap K9.out.bytes (by omega))
        clear hgl hbx hb hby FB I8 K8 B8 R0 R1 R2 R3 GR S0 S1 S2
        go_wp2_with (go_at_call 11; refine stop_here ?_)
        refine ⟨?_⟩
        refine (same_true w9 (some ⟨gr, off, none⟩) (some ⟨gl, 0, none⟩) cv 1 [⟨⟨#[]⟩, 0, ⟨#[]⟩, b⟩] C0.out C1.out CV.out (Nat.le_refl 1) (show (1 : Nat) ≤ 1000000 by decide) (fun x hx => by
          obtain rfl := List.mem_singleton.1 hx
          show b.length ≤ _
          omega)).mono ?_
        rintro e wa ⟨rfl, hb⟩
        have FB := Frame.of_below hb
        have IA := Aside0.mk (I9.out.below hb)
        have KA := Aside0.mk (K9.out.keep FB (fun _ _ h => h))
        have BA := Aside0.mk (below_step B9.out hb)
        have SA := Aside0.mk (FB.cell S3.out (fun h => h))
        have GRA := Aside0.mk (GR9.out.imp fun cells h => blk_below h hb)
        have ZA := Aside0.mk (show 0 < b.length → ∃ ga oa cells, A1 = some ⟨ga, oa, none⟩ ∧ wa.heap[ga]? = some (.cells cells 5 (0, 0)) ∧ oa + b.length ≤ cells.size ∧ w5.heap.size ≤ ga from fun hp => by
          obtain ⟨ad, ea, hcell⟩ := KA.out.bytes hp
          have ea' : A1 = some ad := ea
          have hn : (nums .u8 b)[b.length - 1]? = some (.int .u8 (b[b.length - 1]'(by omega))) := by
            unfold nums
            rw [List.getElem?_map, List.getElem?_eq_getElem (by omega)]; rfl
          have h1 := hcell (b.length - 1) _ hn
          obtain ⟨hbase, cells, hblk⟩ := KA.out.own ad ea
          have h0 := hcell 0 (.int .u8 (b[0]'hp)) (by unfold nums; rw [List.getElem?_map, List.getElem?_eq_getElem hp]; rfl)
          have e0 : ad.add 0 = ad := by
            rcases ad with ⟨p, o, s⟩
            cases s <;> rfl
          rw [e0] at h0
          obtain ⟨ga, oa, rfl⟩ := spot_none h0
          rw [add_at, blk_cell hblk] at h1
          have h2 := (Array.getElem?_eq_some_iff.1 h1).1
          exact ⟨ga, oa, cells, ea', hblk, by omega, hbase⟩)
        clear hb FB I9 K9 B9 S3 GR9 C0 C1 KA
        go_upto_region 16 with (fail)
        go_loopg [7] b.length (fun kq v7 w' => ∃ (i : Nat), i ≤ b.length ∧ v7 = .int .i64 (i : Int) ∧ Aside0 (kq = b.length - i) ∧ Aside0 (IsAir w' w5.heap.size g v8 [⟨⟨#[]⟩, 0, ⟨#[]⟩, A2, c2, b, 0⟩]) ∧ Aside0 (w'.cell? ⟨gr, off + 3, none⟩ = some (.slice A1 b.length c1)) ∧ Aside0 (∃ cells, w'.heap[gr]? = some (.cells cells 32 (0, 0))) ∧ Aside0 (0 < b.length → ∃ ga oa cells, A1 = some ⟨ga, oa, none⟩ ∧ w'.heap[ga]? = some (.cells cells 5 (0, 0)) ∧ oa + b.length ≤ cells.size ∧ w5.heap.size ≤ ga) ∧ Aside0 (Below w.heap.size w w'))
        case atStart => exact ⟨0, by omega, rfl, ⟨rfl⟩, IA, SA, GRA, ZA, BA⟩
        case round =>
          clear IA SA GRA ZA BA
          obtain ⟨j, hj, rfl, HK, IA, SA, GRA, ZA, BA⟩ := hrel
          have zj : 0 ≤ (j : Int) := by omega
          have c3 := SA.out
          by_cases hlt2 : j < b.length
          · have lt2 : (j : Int) < (b.length : Int) := by omega
            obtain ⟨ga, oa, cells, hA1, hblk, hsz, hga⟩ := ZA.out (by omega)
            subst hA1
            obtain ⟨uj, huj⟩ : ∃ u, cells[oa + j]? = some u := ⟨_, Array.getElem?_eq_getElem (by omega)⟩
            have cj : wr.cell? ⟨ga, oa + j, none⟩ = some uj := (blk_cell hblk (oa + j)).trans huj
            have fj := blk_frozen hblk (oa + j)
            have HBK := Aside0.mk hblk
            have HSZ := Aside0.mk hsz
            have HGA := Aside0.mk hga
            clear hblk hsz hga huj
            go_upto_region 17 with (fail)
            have FS := Frame.of_set wr ga (oa + j) (.int .u8 7)
            have ty : ∀ k ty cells', wr.heap[k]? = some (.cells cells' ty (0, 0)) → ty ≠ 5 → ¬ k = ga := fun k ty cells' h1 h2 e => by
              subst e
              have := h1.symm.trans HBK.out
              simp at this
              exact h2 this.2
            have IB := Aside0.mk (IA.out.keep FS (ty g _ _ IA.out.blk (by decide)) (fun k hk => by
              obtain ⟨_, cc, h1⟩ := q_typed IA.out.row k hk
              exact ty k _ _ h1 (by decide)) (fun f hf ad e h1 => by
              obtain rfl := List.mem_singleton.1 hf
              exact HFar.out ⟨ga, oa, none⟩ ad rfl e h1.symm))
            have SB := Aside0.mk (FS.cell SA.out (by
              obtain ⟨cc, h1⟩ := GRA.out
              exact ty gr _ _ h1 (by decide)))
            have GRB := Aside0.mk (show ∃ cells', (wr.setCell ⟨ga, oa + j, none⟩ (.int .u8 7)).heap[gr]? = some (.cells cells' 32 (0, 0)) from by
              obtain ⟨cc, h1⟩ := GRA.out
              exact ⟨cc, FS.blk h1 (ty gr _ _ h1 (by decide))⟩)
            have ZB := Aside0.mk (show 0 < b.length → ∃ ga' oa' cells', some (⟨ga, oa, none⟩ : Addr) = some ⟨ga', oa', none⟩ ∧ (wr.setCell ⟨ga, oa + j, none⟩ (.int .u8 7)).heap[ga']? = some (.cells cells' 5 (0, 0)) ∧ oa' + b.length ≤ cells'.size ∧ w5.heap.size ≤ ga' from fun _ => ⟨ga, oa, _, rfl, blk_set HBK.out (oa + j) (.int .u8 7), by rw [Array.size_setIfInBounds]; exact HSZ.out, HGA.out⟩)
            have BB := Aside0.mk (below_frame BA.out FS BA.out.size (fun k e => by rw [e]; exact Nat.le_trans HW5.out HGA.out))
            obtain ⟨wb, hwb⟩ : ∃ wb, wr.setCell ⟨ga, oa + j, none⟩ (.int .u8 7) = wb := ⟨_, rfl⟩
            rw [hwb] at IB SB GRB ZB BB
            rw [hwb]
            clear hwb FS ty IA SA GRA ZA BA c3 cj fj
            go_wp2
            go_roundg (b.length - j - 1)
            case measure => have := HK.out; omega
            case rel => exact ⟨j + 1, by omega, by go_num, ⟨by omega⟩, IB, SB, GRB, ZB, BB⟩
          · have lt2 : ¬ (j : Int) < (b.length : Int) := by omega
            have AE : Aside0 (AirIs wr w5.heap.size g v8 [ke b 0]) := ⟨⟨_, IA.out, rfl, by simp, fun x hx => by
              obtain rfl := List.mem_singleton.1 hx
              show (0 : Int) ≤ 0 ∧ (0 : Int) ≤ 3000
              omega⟩⟩
            go_wp2_with (go_at_call 12; refine stop_here ?_)
            refine ⟨?_⟩
            refine (tick_is _ w5.heap.size g v8 _ AE.out).mono ?_
            rintro e we ⟨hC, ve, hA, hV, hF⟩
            obtain ⟨gq, oq, cq, Aq, kq', rfl, _, _, r0, r1, r2, r3, r4, r5, _, r7⟩ := came_one (x := ke b 0) hC
            have BE := Aside0.mk (below_frame BA.out hF BA.out.size (AE.out.foot2 G3.out HW5.out))
            have R0 := Aside0.mk r0
            have R1 := Aside0.mk r1
            have R2 := Aside0.mk r2
            have R3 := Aside0.mk r3
            have R4 := Aside0.mk r4
            have R5 := Aside0.mk r5
            have R7 := Aside0.mk r7
            clear hC hA hV hF r0 r1 r2 r3 r4 r5 r7 c3 IA SA GRA ZA BA AE
            go_wp2_with ((with_reducible refine gate_dst (N := 73) rfl ?_); refine stop_here ?_)
            refine ⟨?_⟩
            refine made_event rfl ⟨[.string ⟨#[]⟩, .int .i64 0, .string ⟨#[]⟩, .slice A b.length c]⟩ 32 1 ?hr73 ?_
            case hr73 => first | (go_simp; done) | (go_simp; rfl)
            intro gl hgl wf hbx hb
            have FB := Frame.of_below hb
            have BF := Aside0.mk (below_step BE.out hb)
            have hby : Bytes wf A b := HBy.out.below BF.out
            have C1 := Aside0.mk (one_reads (off := 0) (s := ⟨#[]⟩) (d := 0) (o := ⟨#[]⟩) (A := A) (c := c) (b := b) ((blk_cell hbx 0).trans rfl) ((blk_cell hbx 1).trans rfl) ((blk_cell hbx 2).trans rfl) ((blk_cell hbx 3).trans rfl) hc hby (by omega))
            have C0 := Aside0.mk (one_reads (gr := gq) (off := oq) (s := ⟨#[]⟩) (d := 0) (o := ⟨#[]⟩) (A := Aq) (c := kq') (b := b) (FB.cell R0.out (fun h => h)) (FB.cell R1.out (fun h => h)) (FB.cell R2.out (fun h => h)) (FB.cell R3.out (fun h => h)) R4.out (R5.out.below hb) (by omega))
            clear hgl hbx hb hby FB R0 R1 R2 R3 R4 R5 BE
            go_wp2_with (go_at_call 11; refine stop_here ?_)
            refine ⟨?_⟩
            refine (same_true wf (some ⟨gq, oq, none⟩) (some ⟨gl, 0, none⟩) cq 1 [⟨⟨#[]⟩, 0, ⟨#[]⟩, b⟩] C0.out C1.out R7.out (Nat.le_refl 1) (show (1 : Nat) ≤ 1000000 by decide) (fun x hx => by
              obtain rfl := List.mem_singleton.1 hx
              show b.length ≤ _
              omega)).mono ?_
            rintro e wg ⟨rfl, hb⟩
            have BG := Aside0.mk (below_step BF.out hb)
            clear hb
            go_wp2
            go_ret
            exact ⟨rfl, BG.out⟩
  · have l1 : 300 < (b.length : Int) := by omega
    go_wp2_with (go_at_call 8; refine stop_here ?_)
    refine ⟨?_⟩
    refine (awake_calls w2).mono ?_
    rintro e w3 ⟨rfl, hb⟩
    go_wp2
    go_ret
    exact ⟨rfl, below_step B2.out hb⟩
end Go.Proofs.Ytaciokdgoogpiaa.NetT

/- Proved: the law HashParts answers true; conditions: the theorems' own premises. -/
import Derived.Test.YtlniejfbkcgneaaHOpen
namespace Go.Proofs.Ytlniejfbkcgneaa.HashT
open Go.RowKit Go.Proofs.Ytlniejfbkcgneaa.YHash Go.Proofs.YtlniejfbkcgneaaW.PrintWords Go.Proofs.YtlniejfbkcgneaaW.PrintLast Go.Proofs.YtlniejfbkcgneaaW.PrintMore
set_option linter.unusedVariables false
set_option linter.unusedSimpArgs false
set_option maxHeartbeats 4000000 in
set_option maxRecDepth 100000 in
theorem parts_far (A : Option Addr) (n c : Nat) (w : World) (h : 30 < n) (hl : n ≤ 9223372036854775807) :
    Calls Try.prog 4 #[.slice A n c] w fun e w' => e = .returned (.bool true) ∧ Below w.heap.size w w' := by
  have HB := Aside0.mk (Below.refl w.heap.size w)
  go_enter Try.func4, Try.ntmps4
  go_wp2_with (go_at_call 8; refine (awake_calls _).mono ?_; rintro e w1 ⟨rfl, hb1⟩; have n1_ := Aside0.mk (below_step HB.out hb1); clear HB hb1; have HB := n1_; clear n1_)
  go_ret
  exact ⟨rfl, HB.out⟩
theorem foot_other {w0 W : World} {g : Nat} {r : Option Nat} {T : List Int} (h : Held w0 W g r T) {v : Value} {n : Nat} {xs : List Value} (hq : QRow W w0.heap.size 5 1 v n xs) {ty : Nat} {cs : Array Value} {k : Nat} (hk : W.heap[k]? = some (.cells cs ty (0, 0))) (h5 : ty ≠ 5) : v.ownBlock ≠ some k := by
  intro e
  obtain ⟨_, cells, hc⟩ := q_typed hq k e
  have := hk.symm.trans hc
  simp at this
  exact h5 this.2
set_option maxHeartbeats 8000000 in
set_option maxRecDepth 100000 in
theorem parts_calls (A : Option Addr) (n c : Nat) (ps : List (List Int)) (w : World) (hn : ps.length = n) (h : n ≤ 30) (hp : PartsAt w A ps (fun _ => False)) (hall : ∀ p ∈ ps, p.length ≤ 9223372036854775807) :
    Calls Try.prog 4 #[.slice A n c] w fun e w' => e = .returned (.bool true) ∧ Below w.heap.size w w' := by
  have HP := Aside0.mk hp
  have HN := Aside0.mk hn
  have HA := Aside0.mk hall
  clear hp hn hall
  have k1 : ¬ (30 < n) := by omega
  have HB := Aside0.mk (Below.refl w.heap.size w)
  go_enter Try.func4, Try.ntmps4
  go_wp2_with (first
    | (go_at_call 8; refine (awake_calls _).mono ?_; rintro e w1 ⟨rfl, hb1⟩; have n1_ := Aside0.mk (below_step HB.out hb1); clear HB hb1; have HB := n1_; clear n1_)
    | (go_at_call 11; refine stop_here ?_))
  refine ⟨?_⟩
  refine (new_law HB.out).mono ?_
  rintro e w2 ⟨g, rfl, hge, hs, hB, hb⟩
  have S2 := Aside0.mk hs
  have B2 := Aside0.mk hB
  clear hge hs hB hb HB
  go_wp2
  go_loopg [4, 5] n (fun kq v4 v5 w' => ∃ (i : Nat) (r : Option Nat) (T : List Int) (Av : Option Addr) (cv : Nat), i ≤ n ∧ v5 = .int .i64 (i : Int) ∧ v4 = .slice Av T.length cv ∧ Aside0 (kq = n - i) ∧ Aside0 (T = (ps.take i).flatten) ∧ Aside0 (T.length ≤ 200 * i) ∧ Aside0 (Held w w' g r T) ∧ Aside0 (QRow w' w.heap.size 5 1 (.slice Av T.length cv) T.length (nums .u8 T)) ∧ Aside0 (∀ j, (Value.slice Av T.length cv).ownBlock = some j → ¬ Foot g r j) ∧ Aside0 (Below w.heap.size w w'))
  case atStart => exact ⟨0, none, [], none, 0, by omega, rfl, rfl, ⟨rfl⟩, ⟨by simp⟩, ⟨by simp⟩, S2, ⟨nil_row _ _⟩, ⟨fun j h => by cases h⟩, B2⟩
  case round =>
    clear S2 B2
    obtain ⟨i, r, T, Av, cv, hi, rfl, rfl, HK, HT, HTl, S, Q, D, B⟩ := hrel
    by_cases hlt : i < n
    · obtain ⟨b, o, rfl, _, hat⟩ := HP.out (by rw [HN.out]; omega)
      obtain ⟨A0, c0, hc, hbts, _⟩ := hat i (by rw [HN.out]; exact hlt)
      have hx := pw_cell_below B.out hc
      have hpm := HA.out (ps[i]'(by rw [HN.out]; exact hlt)) (List.getElem_mem _)
      have hdr : ps.drop i = ps[i]'(by rw [HN.out]; exact hlt) :: ps.drop (i + 1) := List.drop_eq_getElem_cons (by rw [HN.out]; exact hlt)
      obtain ⟨p, hpp⟩ : ∃ p, p = ps[i]'(by rw [HN.out]; exact hlt) := ⟨_, rfl⟩
      rw [← hpp] at hx hbts hpm hdr
      have HBy := Aside0.mk hbts
      have HPp := Aside0.mk hdr
      have Hb := Aside0.mk (World.block_lt_of_cell? w _ hc)
      clear hc hbts hpp hat hdr
      have zt : 0 ≤ (i : Int) := by omega
      have lt : (i : Int) < (n : Int) := by omega
      by_cases h200 : 200 < p.length
      · go_wp2
        go_ret
        exact ⟨rfl, B.out⟩
      · have HT1 := Aside0.mk (show (ps.take (i + 1)).flatten = T ++ p by rw [take_flat ps i p HPp.out, HT.out])
        have HL1 := Aside0.mk (show (T ++ p).length ≤ 200 * (i + 1) by rw [List.length_append]; have := HTl.out; omega)
        go_wp2_with ((with_reducible refine gate_dst (N := 34) rfl ?_); refine stop_here ?_)
        refine ⟨?_⟩
        refine slices_event rfl #[.slice A0 p.length c0] 1 ?hr34 ?_
        case hr34 => first | (go_simp; done) | (go_simp; rfl)
        intro gp hgp w3 hbx hb
        have F3 := Aside0.mk (foot_fresh S.out hgp)
        have X3 := Aside0.mk hbx
        have S3 := Aside0.mk (S.out.below hb)
        have Q3 := Aside0.mk (q_below Q.out hb)
        have B3 := Aside0.mk (below_step B.out hb)
        have hx3 := pw_cell_below hb hx
        clear hgp hbx hb S Q B hx
        go_wp2_with (go_at_call 12; refine stop_here ?_)
        refine ⟨?_⟩
        refine (add_law (n := 1) ([(A0, c0, p)] : List (Option Addr × Nat × List Int)) B3.out S3.out X3.out rfl F3.out (List.forall_mem_cons.2 ⟨HBy.out, fun _ h => by cases h⟩) (by have := HL1.out; rw [List.length_append] at this; simp; omega) (by decide)).mono ?_
        rintro e w4 ⟨rfl, r4, hs4, hr4, hf4, hB4⟩
        rw [show T ++ (([(A0, c0, p)] : List (Option Addr × Nat × List Int)).map (·.2.2)).flatten = T ++ p by simp] at hs4
        have S4 := Aside0.mk hs4
        have Q4 := Aside0.mk (q_keep Q3.out hf4 (fun j hj => D.out j hj))
        have D4 := Aside0.mk (show ∀ j, (Value.slice Av T.length cv).ownBlock = some j → ¬ Foot g r4 j from fun j hj hk => by
          rcases hr4 with rfl | ⟨q, rfl, hq⟩
          · exact D.out j hj hk
          · rcases hk with hk | hk
            · exact D.out j hj (.inl hk)
            · injection hk with hk
              have := q_lt Q3.out j hj
              omega)
        have hx4 := hf4.cell hx3 (fun h => by
          have h2 : w.heap.size ≤ b := (S3.out.foot h).1
          have h3 : b < w.heap.size := Hb.out
          omega)
        have B4 := Aside0.mk hB4
        obtain ⟨Z, hZ⟩ : ∃ Z, Z = T ++ p := ⟨_, rfl⟩
        rw [← hZ] at S4
        have HZ := Aside0.mk hZ
        clear hs4 hr4 hf4 hB4 hx3 S3 Q3 B3 D F3 X3 hZ
        go_wp2_with (at_builtin; refine stop_here ?_)
        refine ⟨?_⟩
        refine append_event (base := w.heap.size) (v := .slice Av T.length cv) (rest := T) (p := p) (A := A0) (c := c0) rfl (.tmp 36) (.tmp 40) rfl rfl rfl Q4.out (HBy.out.below B4.out) (by have := HTl.out; omega) B4.out.size ?_
        intro v5 w5 hq hg5 hat
        rw [← HZ.out] at hq
        obtain ⟨Av5, cv5, hv5, hle5⟩ := q_slice hq
        subst hv5
        have F5 := Frame.of_grown hg5
        have Q5 := Aside0.mk hq
        have S5 := Aside0.mk (show Held w w5 g r4 Z from ⟨S4.out.sum.keep F5 (fun h => D4.out g h.symm (.inl rfl)) (fun j hj h => D4.out j h.symm (.inr hj.symm)), S4.out.ge⟩)
        have D5 := Aside0.mk (show ∀ j, (Value.slice Av5 Z.length cv5).ownBlock = some j → ¬ Foot g r4 j from fun j hj hk => by
          rcases hat with hat | ⟨q, hq1, hq2⟩
          · exact D4.out j (hat.symm.trans hj) hk
          · have := (S4.out.foot hk).2
            rw [hq1] at hj
            injection hj with hj
            omega)
        have B5 := Aside0.mk (B4.out.grown hg5 B4.out.size (fun j hj => (q_typed Q4.out j hj).1))
        have LZ := Aside0.mk (show Z.length ≤ 200 * (i + 1) by rw [HZ.out]; exact HL1.out)
        have keq := fun w' => eq_array (digest Z) (digest_len _) w'
        clear hq hg5 hat F5 Q4 S4 D4 B4 hle5 hx4
        go_wp2_with (go_at_call 13; refine stop_here ?_)
        refine ⟨?_⟩
        refine (end_law B5.out S5.out (by have := LZ.out; omega)).mono ?_
        rintro e w6 ⟨rfl, hB6, hb6⟩
        have Q6 := Aside0.mk (q_below Q5.out hb6)
        have S6 := Aside0.mk (S5.out.below hb6)
        have B6 := Aside0.mk hB6
        clear hB6 hb6 Q5 S5 B5
        go_wp2_with ((with_reducible refine gate_dst (N := 45) rfl ?_); refine stop_here ?_)
        refine ⟨?_⟩
        refine slices_event rfl #[.slice Av5 Z.length cv5] 1 ?hr45 ?_
        case hr45 => first | (go_simp; done) | (go_simp; rfl)
        intro gq hgq w7 hbx hb
        have X7 := Aside0.mk hbx
        have S7 := Aside0.mk (S6.out.below hb)
        have Q7 := Aside0.mk (q_below Q6.out hb)
        have B7 := Aside0.mk (below_step B6.out hb)
        clear hgq hbx hb S6 Q6 B6
        go_wp2_with (go_at_call 9; refine stop_here ?_)
        refine ⟨?_⟩
        have hc := of_law (n := 1) ([(Av5, cv5, Z)] : List (Option Addr × Nat × List Int)) B7.out X7.out rfl (List.forall_mem_cons.2 ⟨q_bytes Q7.out, fun _ h => by cases h⟩) (by have := LZ.out; simp; omega) (by decide)
        rw [show (([(Av5, cv5, Z)] : List (Option Addr × Nat × List Int)).map (·.2.2)).flatten = Z by simp] at hc
        refine hc.mono ?_
        clear hc
        rintro e w8 ⟨rfl, hB8, hb8⟩
        have S8 := Aside0.mk (S7.out.below hb8)
        have Q8 := Aside0.mk (q_below Q7.out hb8)
        have B8 := Aside0.mk hB8
        clear hB8 hb8 S7 Q7 B7 X7
        go_wp2
        clear keq
        go_roundg (n - (i + 1))
        case measure => have := HK.out; omega
        case rel => exact ⟨i + 1, r4, Z, Av5, cv5, by omega, by go_num, rfl, ⟨rfl⟩, ⟨by rw [HT1.out, HZ.out]⟩, LZ, S8, Q8, D5, B8⟩
    · have HI := Aside0.mk (show i = n by omega)
      have HTe := Aside0.mk (show ps.flatten = T by rw [HT.out, HI.out, ← HN.out, List.take_length])
      have HL := Aside0.mk (show T.length ≤ 6000 by have := HTl.out; omega)
      have keq := fun w' => eq_array (digest T) (digest_len _) w'
      go_wp2_with (go_at_call 13; refine stop_here ?_)
      refine ⟨?_⟩
      refine (end_law B.out S.out (by have := HL.out; omega)).mono ?_
      rintro e w6 ⟨rfl, hB6, hb6⟩
      have S6 := Aside0.mk (S.out.below hb6)
      have B6 := Aside0.mk hB6
      clear hB6 hb6 S B Q D
      go_wp2_with (go_at_call 9; refine stop_here ?_)
      refine ⟨?_⟩
      have hc := of_calls A n c ps _ HN.out (HP.out.later (S := fun _ => False) (show Frame w _ (fun _ => False) from Frame.of_below B6.out) (fun _ h => h) (fun _ h => .inl h)) (by rw [HTe.out]; have := HL.out; omega) (by omega)
      rw [HTe.out] at hc
      refine hc.mono ?_
      clear hc
      rintro e w8 ⟨rfl, hb8⟩
      have S8 := Aside0.mk (S6.out.below hb8)
      have B8 := Aside0.mk (below_step B6.out hb8)
      clear hb8 S6 B6
      go_wp2_with (go_at_call 13; refine stop_here ?_)
      refine ⟨?_⟩
      refine (end_law B8.out S8.out (by have := HL.out; omega)).mono ?_
      rintro e w9 ⟨rfl, hB9, hb9⟩
      have S9 := Aside0.mk (S8.out.below hb9)
      have B9 := Aside0.mk hB9
      clear hB9 hb9 S8 B8
      go_wp2_with (go_at_call 13; refine stop_here ?_)
      refine ⟨?_⟩
      refine (end_law B9.out S9.out (by have := HL.out; omega)).mono ?_
      rintro e w10 ⟨rfl, hB10, hb10⟩
      have B10 := Aside0.mk hB10
      clear hB10 hb10 S9 B9
      go_wp2
      go_ret
      exact ⟨rfl, B10.out⟩
theorem parts_law (A : Option Addr) (n c : Nat) (ps : List (List Int)) (w : World) (hn : ps.length = n) (hl : n ≤ 9223372036854775807) (hp : PartsAt w A ps (fun _ => False)) (hall : ∀ p ∈ ps, p.length ≤ 9223372036854775807) :
    Calls Try.prog 4 #[.slice A n c] w fun e w' => e = .returned (.bool true) ∧ Below w.heap.size w w' := by
  by_cases h : n ≤ 30
  · exact parts_calls A n c ps w hn h hp hall
  · exact parts_far A n c w (by omega) hl
end Go.Proofs.Ytlniejfbkcgneaa.HashT

/- Proved: (*hash.Sum).End tells the sum of what was added; conditions: the theorems' own premises. -/
import Derived.Test.YtlniejfbkcgneaaHEndA
namespace Go.Proofs.Ytlniejfbkcgneaa.HashT
open Go.RowKit Go.Proofs.Ytlniejfbkcgneaa.YHash Go.Proofs.YtlniejfbkcgneaaW.PrintWords Go.Proofs.YtlniejfbkcgneaaW.PrintLast Go.Proofs.YtlniejfbkcgneaaW.PrintMore
set_option linter.unusedVariables false
set_option linter.unusedSimpArgs false
set_option maxHeartbeats 4000000 in
set_option maxRecDepth 100000 in
theorem end_calls (g base : Nat) (r : Option Nat) (T : List Int) (w : World) (hbase : base ≤ w.heap.size) (hs : SumAt w base g r T) (hT : T.length ≤ 1000000) :
    Calls Try.prog 13 #[.pointer (some ⟨g, 0, none⟩)] w fun e w' => e = .returned (.agg ⟨nums .u8 (digest T)⟩) ∧ Below w.heap.size w w' := by
  obtain ⟨v, hv, hs⟩ := hs.is
  clear hv
  have HT := Aside0.mk hT
  clear hT
  obtain ⟨R, hR⟩ : ∃ R, (full T).2 = R := ⟨_, rfl⟩
  obtain ⟨A0, A1, A2, A3, A4, A5, A6, A7, hH⟩ : ∃ A0 A1 A2 A3 A4 A5 A6 A7, (full T).1 = [A0, A1, A2, A3, A4, A5, A6, A7] := by
    match h : (full T).1, full_eight T with
    | [a, b, c, d, e, f, g, i], _ => exact ⟨a, b, c, d, e, f, g, i, rfl⟩
  have HRl := Aside0.mk (show R.length = T.length % 64 by rw [← hR]; exact full_rest T)
  rw [hH, hR] at hs
  have HF := Aside0.mk (And.intro hH hR)
  clear hH hR
  obtain ⟨A, c, hv, hle⟩ := q_slice hs.row
  subst hv
  have HS := Aside0.mk hs
  clear hs
  have HB := Aside0.mk (Below.refl w.heap.size w)
  go_enter Try.func13, Try.ntmps13
  go_wp2_with ((with_reducible refine gate_dst (N := 2) rfl ?_); refine stop_here ?_)
  refine ⟨?_⟩
  refine box_event rfl (N := 2) rfl (cs := ⟨nums .u8 (zeros 32)⟩) (t := 25) ?hr ?_
  case hr => first | (go_simp; done) | (go_simp; rfl)
  intro g2 hg w1 hbox hb
  have G2 := Aside0.mk (show w.heap.size ≤ g2 by rw [hg]; exact Nat.le_refl _)
  have X2 := Aside0.mk hbox
  have S1 := Aside0.mk (HS.out.keep (Frame.of_below hb) (fun h => h) (fun _ _ h => h))
  have B1 := Aside0.mk hb
  have HW1 := Aside0.mk hb.size
  clear hg hbox hb HB
  go_wp2
  have sr := sum_range (w := w1) S1.out.blk
  have X2' := Aside0.mk (blk_drew X2.out)
  have B1' := Aside0.mk (below_drew1 B1.out)
  have S1' := Aside0.mk (show IsSum w1.drew base g (.slice A R.length c) [A0, A1, A2, A3, A4, A5, A6, A7] R (T.length : Int) from ⟨S1.out.blk, S1.out.row, S1.out.eight⟩)
  have c8 := (blk_cell S1.out.blk 8).trans (sum_rest _ _ _ S1.out.eight)
  have c9 := (blk_cell S1.out.blk 9).trans (sum_n _ _ _ S1.out.eight)
  refine start_ (n := 17) (S := fun w' => w'.rangeAt g 0 (u32s [A0, A1, A2, A3, A4, A5, A6, A7]) ∧ w'.cell? ⟨g, 9, none⟩ = some (.int .u64 (T.length : Int)) ∧ w'.cell? ⟨g, 8, none⟩ = some (.slice A R.length c)) (ds := []) #[false, false, false, false, false, false, false, false, false, false, false, false, false, false, false, false, false] (by kernel_rfl) rfl rfl ⟨sr, c9, c8⟩ (fun hHeld => ?_)
  refine pure_ (i := 0) (N := some 9) (v := ?_) (a' := ?_) #[true, false, false, false, false, false, false, false, false, false, false, false, false, false, false, false, false] rfl rfl (by kernel_rfl) (fun _ _ _ h => h) (Or.inl ⟨by rfl, ?_⟩) ?_ ?_
  rotate_left
  · intro w'
    go_simp
    with_reducible rfl
  rotate_left
  · simp only [Act.put, List.setIfInBounds_toArray, List.set_cons_zero, List.set_cons_succ, i64_w, i32_w]
    rfl
  refine pure_ (i := 1) (N := some 10) (v := ?_) (a' := ?_) #[true, true, false, false, false, false, false, false, false, false, false, false, false, false, false, false, false] rfl rfl (by kernel_rfl) (fun _ _ _ h => h) (Or.inl ⟨by rfl, ?_⟩) ?_ ?_
  rotate_left
  · intro w'
    go_simp
    with_reducible rfl
  rotate_left
  · simp only [Act.put, List.setIfInBounds_toArray, List.set_cons_zero, List.set_cons_succ, i64_w, i32_w]
    rfl
  refine pure_ (i := 2) (N := some 11) (v := ?_) (a' := ?_) #[true, true, true, false, false, false, false, false, false, false, false, false, false, false, false, false, false] rfl rfl (by kernel_rfl) (fun _ _ _ h => h) (Or.inl ⟨by rfl, ?_⟩) ?_ ?_
  rotate_left
  · intro w'
    go_simp
    with_reducible rfl
  rotate_left
  · simp only [Act.put, List.setIfInBounds_toArray, List.set_cons_zero, List.set_cons_succ, i64_w, i32_w]
    rfl
  refine pure_ (i := 4) (N := some 13) (v := ?_) (a' := ?_) #[true, true, true, false, true, false, false, false, false, false, false, false, false, false, false, false, false] rfl rfl (by kernel_rfl) (fun _ _ _ h => h) (Or.inl ⟨by rfl, ?_⟩) ?_ ?_
  rotate_left
  · intro w'
    go_simp
    with_reducible rfl
  rotate_left
  · simp only [Act.put, List.setIfInBounds_toArray, List.set_cons_zero, List.set_cons_succ, i64_w, i32_w]
    rfl
  refine pure_ (i := 5) (N := some 14) (v := ?_) (a' := ?_) #[true, true, true, false, true, true, false, false, false, false, false, false, false, false, false, false, false] rfl rfl (by kernel_rfl) (fun _ _ _ h => h) (Or.inl ⟨by rfl, ?_⟩) ?_ ?_
  rotate_left
  · intro w'
    go_simp
    with_reducible rfl
  rotate_left
  · simp only [Act.put, List.setIfInBounds_toArray, List.set_cons_zero, List.set_cons_succ, i64_w, i32_w]
    rfl
  refine pure_ (i := 6) (N := some 15) (v := ?_) (a' := ?_) #[true, true, true, false, true, true, true, false, false, false, false, false, false, false, false, false, false] rfl rfl (by kernel_rfl) (fun _ _ _ h => h) (Or.inl ⟨by rfl, ?_⟩) ?_ ?_
  rotate_left
  · intro w'
    go_simp
    with_reducible rfl
  rotate_left
  · simp only [Act.put, List.setIfInBounds_toArray, List.set_cons_zero, List.set_cons_succ, i64_w, i32_w]
    rfl
  refine pure_ (i := 9) (N := some 18) (v := ?_) (a' := ?_) #[true, true, true, false, true, true, true, false, false, true, false, false, false, false, false, false, false] rfl rfl (by kernel_rfl) (fun _ _ _ h => h) (Or.inl ⟨by rfl, ?_⟩) ?_ ?_
  rotate_left
  · intro w'
    go_simp
    with_reducible rfl
  rotate_left
  · simp only [Act.put, List.setIfInBounds_toArray, List.set_cons_zero, List.set_cons_succ, i64_w, i32_w]
    rfl
  refine pure_ (i := 10) (N := some 19) (v := ?_) (a' := ?_) #[true, true, true, false, true, true, true, false, false, true, true, false, false, false, false, false, false] rfl rfl (by kernel_rfl) (fun _ _ _ h => h) (Or.inl ⟨by rfl, ?_⟩) ?_ ?_
  rotate_left
  · intro w'
    go_simp
    with_reducible rfl
  rotate_left
  · simp only [Act.put, List.setIfInBounds_toArray, List.set_cons_zero, List.set_cons_succ, i64_w, i32_w]
    rfl
  refine pure_ (i := 11) (N := some 20) (v := ?_) (a' := ?_) #[true, true, true, false, true, true, true, false, false, true, true, true, false, false, false, false, false] rfl rfl (by kernel_rfl) (fun _ _ _ h => h) (Or.inl ⟨by rfl, ?_⟩) ?_ ?_
  rotate_left
  · intro w'
    go_simp
    with_reducible rfl
  rotate_left
  · simp only [Act.put, List.setIfInBounds_toArray, List.set_cons_zero, List.set_cons_succ, i64_w, i32_w]
    rfl
  refine take_ (i := 3) (N := some 12) (v := ?_) (a' := ?_) #[true, true, true, true, true, true, true, false, false, true, true, true, false, false, false, false, false] rfl rfl (by kernel_rfl) (fun _ _ _ h => h) (Or.inl ⟨by rfl, ?_⟩) hHeld ?_ ?_
  rotate_left
  · rintro w' ⟨s0, s1, s2⟩
    refine (load_mid_run 43 (.tmp 11) ?q1 g 0 ?q2 [.int .u32 A0, .int .u32 A1, .int .u32 A2, .int .u32 A3, .int .u32 A4, .int .u32 A5, .int .u32 A6, .int .u32 A7] _ s0 Try.underlying43 rfl rfl); rfl; rfl
  rotate_left
  · simp only [Act.put, List.setIfInBounds_toArray, List.set_cons_zero, List.set_cons_succ, i64_w, i32_w]
    rfl
  refine take_ (i := 7) (N := some 16) (v := ?_) (a' := ?_) #[true, true, true, true, true, true, true, true, false, true, true, true, false, false, false, false, false] rfl rfl (by kernel_rfl) (fun _ _ _ h => h) (Or.inl ⟨by rfl, ?_⟩) hHeld ?_ ?_
  rotate_left
  · rintro w' ⟨s0, s1, s2⟩
    go_simp
    with_reducible rfl
  rotate_left
  · simp only [Act.put, List.setIfInBounds_toArray, List.set_cons_zero, List.set_cons_succ, i64_w, i32_w]
    rfl
  refine take_ (i := 12) (N := some 21) (v := ?_) (a' := ?_) #[true, true, true, true, true, true, true, true, false, true, true, true, true, false, false, false, false] rfl rfl (by kernel_rfl) (fun _ _ _ h => h) (Or.inl ⟨by rfl, ?_⟩) hHeld ?_ ?_
  rotate_left
  · rintro w' ⟨s0, s1, s2⟩
    go_simp
    with_reducible rfl
  rotate_left
  · simp only [Act.put, List.setIfInBounds_toArray, List.set_cons_zero, List.set_cons_succ, i64_w, i32_w]
    rfl
  refine one_ (i := 8) (N := some 17) #[true, true, true, true, true, true, true, true, true, true, true, true, true, false, false, false, false] rfl rfl (by kernel_rfl) (by decide) (fun K hK => ?_)
  refine lit_step [] 0 (by rfl) ?hr8 ?_
  case hr8 => first | (go_simp; done) | (go_simp; rfl)
  intro ge hge w3 hbx hb
  have E3 := Aside0.mk (lit_run_row (base := w.heap.size) hbx (by rw [hge]; exact B1.out.size) rfl (by decide))
  have S3 := Aside0.mk (S1'.out.below hb)
  have X3 := Aside0.mk (blk_below X2'.out hb)
  have B3 := Aside0.mk (below_step B1'.out hb)
  have L3 := Aside0.mk (show w1.heap.size ≤ w3.heap.size from hb.size)
  have D3 := Aside0.mk (show w1.heap.size ≤ ge by rw [hge]; exact Nat.le_refl _)
  clear hge hbx hb
  refine hK.out _ _ ⟨sum_range S3.out.blk, (blk_cell S3.out.blk 9).trans (sum_n _ _ _ S3.out.eight), (blk_cell S3.out.blk 8).trans (sum_rest _ _ _ S3.out.eight)⟩ (fun hHeld => ?_)
  clear hK K
  refine norm_ (a' := ?_) ?_ ?_
  rotate_left
  · show Act.put _ (some 17) _ = _
    simp only [Act.put, List.setIfInBounds_toArray, List.set_cons_zero, List.set_cons_succ, i64_w, i32_w]
    rfl
  refine one_ (i := 13) (N := some 22) #[true, true, true, true, true, true, true, true, true, true, true, true, true, true, false, false, false] rfl rfl (by kernel_rfl) (by decide) (fun K hK => ?_)
  refine append_step (base := w.heap.size) (v := .slice (some ⟨ge, 0, none⟩) 0 0) (rest := []) (p := R) (A := A) (c := c) (by rfl) (.tmp 17) (.tmp 21) (by rfl) (by rfl) (by rfl) E3.out (q_bytes S3.out.row) (by have := HRl.out; simp; omega) B3.out.size ?_
  intro v4 w4 hq hg4 hat
  rw [List.nil_append] at hq
  obtain ⟨Ar, c4, hv4, hle4⟩ := q_slice hq
  subst hv4
  have Q4 := Aside0.mk hq
  have F4 := Frame.of_grown_at hg4
  have S4 := Aside0.mk (S3.out.keep F4 (by have := D3.out; have := blk_lt S1.out.blk; omega) (fun k hk => by have := D3.out; have := q_lt S1.out.row k hk; omega))
  have X4 := Aside0.mk (F4.blk X3.out (by have := D3.out; have := blk_lt X2.out; omega))
  have L4 := Aside0.mk (Nat.le_trans L3.out hg4.size)
  have B4 := Aside0.mk (B3.out.grown hg4 B3.out.size (fun k hk => by have e : ge = k := Option.some.inj hk; have := D3.out; have := B1.out.size; omega))
  clear hq hg4 hat F4
  refine hK.out _ _ ⟨sum_range S4.out.blk, (blk_cell S4.out.blk 9).trans (sum_n _ _ _ S4.out.eight), (blk_cell S4.out.blk 8).trans (sum_rest _ _ _ S4.out.eight)⟩ (fun hHeld => ?_)
  clear hK K
  refine norm_ (a' := ?_) ?_ ?_
  rotate_left
  · show Act.put _ (some 22) _ = _
    simp only [Act.put, List.setIfInBounds_toArray, List.set_cons_zero, List.set_cons_succ, i64_w, i32_w]
    rfl
  refine pure_ (i := 14) (N := some 23) (v := ?_) (a' := ?_) #[true, true, true, true, true, true, true, true, true, true, true, true, true, true, true, false, false] rfl rfl (by kernel_rfl) (fun _ _ _ h => h) (Or.inl ⟨by rfl, ?_⟩) ?_ ?_
  rotate_left
  · intro w'
    go_simp
    with_reducible rfl
  rotate_left
  · simp only [Act.put, List.setIfInBounds_toArray, List.set_cons_zero, List.set_cons_succ, i64_w, i32_w]
    rfl
  refine one_ (i := 15) (N := some 24) #[true, true, true, true, true, true, true, true, true, true, true, true, true, true, true, true, false] rfl rfl (by kernel_rfl) (by decide) (fun K hK => ?_)
  refine box_step (by rfl) (N := 24) rfl (cs := ⟨sumCells [A0, A1, A2, A3, A4, A5, A6, A7] (.slice Ar R.length c4) (T.length : Int)⟩) (t := 46) ?hr15 ?_
  case hr15 => first | (go_simp; done) | (go_simp; rfl)
  intro g3 hg3 w5 hbx hb
  have S5 := Aside0.mk (S4.out.below hb)
  have N5 := Aside0.mk (show IsSum w5 w.heap.size g3 (.slice Ar R.length c4) [A0, A1, A2, A3, A4, A5, A6, A7] R (T.length : Int) from ⟨hbx, q_below Q4.out hb, rfl⟩)
  have X5 := Aside0.mk (blk_below X4.out hb)
  have B5 := Aside0.mk (below_step B4.out hb)
  have G3 := Aside0.mk (show w1.heap.size ≤ g3 by rw [hg3]; exact L4.out)
  clear hbx hb hg3
  refine hK.out _ _ ⟨sum_range S5.out.blk, (blk_cell S5.out.blk 9).trans (sum_n _ _ _ S5.out.eight), (blk_cell S5.out.blk 8).trans (sum_rest _ _ _ S5.out.eight)⟩ (fun hHeld => ?_)
  clear hK K
  refine norm_ (a' := ?_) ?_ ?_
  rotate_left
  · show Act.put _ (some 24) _ = _
    simp only [Act.put, List.setIfInBounds_toArray, List.set_cons_zero, List.set_cons_succ, i64_w, i32_w]
    rfl
  refine pure_ (i := 16) (N := some 3) (v := ?_) (a' := ?_) #[true, true, true, true, true, true, true, true, true, true, true, true, true, true, true, true, true] rfl rfl (by kernel_rfl) (fun _ _ _ h => h) (Or.inl ⟨by rfl, ?_⟩) ?_ ?_
  rotate_left
  · intro w'
    go_simp
    with_reducible rfl
  rotate_left
  · simp only [Act.put, List.setIfInBounds_toArray, List.set_cons_zero, List.set_cons_succ, i64_w, i32_w]
    rfl
  refine done_ (by kernel_rfl) ?_
  clear sr c8 c9 hHeld
  go_wp2_with ((with_reducible refine gate_dst (N := 25) rfl ?_); refine stop_here ?_)
  refine ⟨?_⟩
  refine lit_event rfl [128] 1 ?hr25 ?_
  case hr25 => first | (go_simp; done) | (go_simp; rfl)
  intro gt hgt w6 hbx hb
  have Q6 := Aside0.mk (lit_run_row (base := w.heap.size) hbx (by rw [hgt]; exact B5.out.size) rfl (by decide))
  have N6 := Aside0.mk (N5.out.below hb)
  have X6 := Aside0.mk (blk_below X5.out hb)
  have B6 := Aside0.mk (below_step B5.out hb)
  have A6' := Aside0.mk (show ∀ k, (Value.slice (some ⟨gt, 0, none⟩) 1 1).ownBlock = some k → (Value.slice Ar R.length c4).ownBlock ≠ some k from fun k hk h => by
    have e : gt = k := Option.some.inj hk
    have := q_lt N5.out.row k h
    omega)
  clear hbx hb hgt S1 S1' X2 X2' B1 B1' S3 X3 B3 D3 L3 E3 S4 X4 B4 L4 Q4 S5 N5 X5 B5
  go_wp2
  obtain ⟨Z, hZ⟩ : ∃ Z, padN T.length = Z := ⟨_, rfl⟩
  have HZ := Aside0.mk hZ
  clear hZ
  go_loopg [4] Z (fun kq v4 w' => ∃ (k : Nat) (At : Option Addr) (ct : Nat), k ≤ Z ∧ v4 = .slice At (k + 1) ct ∧ Aside0 (kq = Z - k) ∧ Aside0 (QRow w' w.heap.size 5 1 (.slice At (k + 1) ct) ((128 : Int) :: List.replicate k 0).length (nums .u8 ((128 : Int) :: List.replicate k 0))) ∧ Aside0 (IsSum w' w.heap.size g3 (.slice Ar R.length c4) [A0, A1, A2, A3, A4, A5, A6, A7] R (T.length : Int)) ∧ Aside0 (w'.heap[g2]? = some (.cells ⟨nums .u8 (zeros 32)⟩ 25 (0, 0))) ∧ Aside0 (∀ j, (Value.slice At (k + 1) ct).ownBlock = some j → (Value.slice Ar R.length c4).ownBlock ≠ some j) ∧ Aside0 (Below w.heap.size w w'))
  case atStart => exact ⟨0, _, _, by omega, rfl, ⟨rfl⟩, Q6, N6, X6, A6', B6⟩
  case round =>
    clear Q6 N6 X6 A6' B6
    obtain ⟨k, At, ct, hk, rfl, HK, Q6, N6, X6, A6', B6⟩ := hrel
    have c8 := (blk_cell N6.out.blk 8).trans (sum_rest _ _ _ N6.out.eight)
    have hkz : k ≤ 64 := by have := padN_lt T.length; have := HZ.out; omega
    have kt := pad_test HRl.out hkz
    by_cases hlt : k < Z
    · rw [decide_eq_true (padN_ne T.length k (by rw [HZ.out]; exact hlt))] at kt
      go_wp2_with ((with_reducible refine gate_dst (N := 37) rfl ?_); refine stop_here ?_)
      refine ⟨?_⟩
      refine lit_event rfl [0] 1 ?hr37 ?_
      case hr37 => first | (go_simp; done) | (go_simp; rfl)
      intro gl hgl w7 hbx hb
      have L7 := Aside0.mk (q_bytes (lit_run_row (base := w.heap.size) hbx (by rw [hgl]; exact B6.out.size) rfl (by decide)))
      have Q7 := Aside0.mk (q_below Q6.out hb)
      have N7 := Aside0.mk (N6.out.below hb)
      have X7 := Aside0.mk (blk_below X6.out hb)
      have B7 := Aside0.mk (below_step B6.out hb)
      clear hgl hbx hb kt c8
      go_wp2_with (at_builtin; refine stop_here ?_)
      refine ⟨?_⟩
      refine append_event (base := w.heap.size) (v := .slice At (k + 1) ct) (rest := (128 : Int) :: List.replicate k 0) (p := [0]) (A := some ⟨gl, 0, none⟩) (c := 1) rfl (.tmp 36) (.tmp 37) rfl rfl rfl Q7.out L7.out (by rw [tail_len]; simp; omega) B7.out.size ?_
      intro v8 w8 hq hg8 hat
      rw [tail_more] at hq
      have hq2 := hq
      rw [tail_len] at hq2
      obtain ⟨At8, ct8, hv8, hle8⟩ := q_slice hq2
      subst hv8
      have Q8 := Aside0.mk hq
      have F8 := Frame.of_grown hg8
      have N8 := Aside0.mk (N7.out.keep F8 (fun h => IsSum.typed_ne (t := 0) (m := 0) N7.out.blk Q7.out h) (fun j hj h => A6'.out j h.symm hj))
      have X8 := Aside0.mk (F8.blk X7.out (fun h => by obtain ⟨_, cc, hcc⟩ := q_typed Q7.out g2 h.symm; have := X7.out.symm.trans hcc; simp at this))
      have A8 := Aside0.mk (own_apart (u := .slice Ar R.length c4) hat A6'.out (fun j hj => q_lt N7.out.row j hj))
      have B8 := Aside0.mk (B7.out.grown hg8 B7.out.size (fun j hj => (q_typed Q7.out j hj).1))
      clear hq hq2 hg8 hat F8 L7 Q7 N7 X7 B7 Q6 N6 X6 B6 A6' hle8
      go_wp2
      go_roundg (Z - (k + 1))
      case measure => have := HK.out; omega
      case rel => exact ⟨k + 1, At8, ct8, by omega, rfl, ⟨by omega⟩, Q8, N8, X8, A8, B8⟩
    · have HKZ : Aside0 (k = Z) := ⟨by omega⟩
      have S6 := HS.out.below B6.out
      have c9 := (blk_cell S6.blk 9).trans (sum_n _ _ _ S6.eight)
      have kd : decide ((T.length % 64 + (1 + k)) % 64 ≠ 56) = false := by rw [HKZ.out, ← HZ.out, padN_at]; rfl
      rw [kd] at kt
      obtain ⟨NB, hNB⟩ : ∃ NB, NB = 8 * T.length := ⟨_, rfl⟩
      have kw : IntKind.u64.wrap (8 * (T.length : Int)) = (NB : Int) := by
        have := HT.out
        unfold IntKind.wrap
        simp [IntKind.bits, IntKind.signed]
        omega
      have HNB := Aside0.mk hNB
      clear kd S6 hNB
      go_wp2
      clear kw kt c8 c9
      clear HS
      go_loopg [4, 44] 8 (fun kq v4 v44 w' => ∃ (i : Nat) (At : Option Addr) (ct : Nat), i ≤ 8 ∧ v44 = .int .i64 (i : Int) ∧ v4 = .slice At (Z + 1 + i) ct ∧ Aside0 (kq = 8 - i) ∧ Aside0 (QRow w' w.heap.size 5 1 (.slice At (Z + 1 + i) ct) (tailB Z T.length i).length (nums .u8 (tailB Z T.length i))) ∧ Aside0 (IsSum w' w.heap.size g3 (.slice Ar R.length c4) [A0, A1, A2, A3, A4, A5, A6, A7] R (T.length : Int)) ∧ Aside0 (w'.heap[g2]? = some (.cells ⟨nums .u8 (zeros 32)⟩ 25 (0, 0))) ∧ Aside0 (∀ j, (Value.slice At (Z + 1 + i) ct).ownBlock = some j → (Value.slice Ar R.length c4).ownBlock ≠ some j) ∧ Aside0 (Below w.heap.size w w'))
      case atStart => exact ⟨0, At, ct, by omega, rfl, by rw [← HKZ.out], ⟨rfl⟩, by rw [tailB_zero, ← HKZ.out]; exact Q6, N6, X6, by rw [← HKZ.out]; exact A6', B6⟩
      case round =>
        clear Q6 N6 X6 A6' B6
        obtain ⟨i, At, ct, hi, rfl, rfl, HK, Q6, N6, X6, A6', B6⟩ := hrel
        by_cases hlt : i < 8
        · have zt : 0 ≤ (i : Int) := by omega
          have lt : (i : Int) < 8 := by omega
          obtain ⟨y, hy⟩ : ∃ y, (NB : Int) / 2 ^ (56 - 8 * i) % 256 = y := ⟨_, rfl⟩
          have HY : Aside0 (y = byte8 T.length i) := ⟨by rw [← hy, HNB.out]; exact byte8_is _ _⟩
          go_wp2_with ((with_reducible refine gate_dst (N := 54) rfl ?_); refine stop_here ?_)
          refine ⟨?_⟩
          refine lit_event rfl [y] 1 ?hr54 ?_
          case hr54 => first | (go_simp; done) | (go_simp; rfl)
          intro gl hgl w7 hbx hb
          have L7 := Aside0.mk (q_bytes (lit_run_row (base := w.heap.size) hbx (by rw [hgl]; exact B6.out.size) rfl (by simp)))
          have Q7 := Aside0.mk (q_below Q6.out hb)
          have N7 := Aside0.mk (N6.out.below hb)
          have X7 := Aside0.mk (blk_below X6.out hb)
          have B7 := Aside0.mk (below_step B6.out hb)
          have HZ7 := Aside0.mk (show Z ≤ 64 by have := padN_lt T.length; have := HZ.out; omega)
          clear hgl hbx hb hy
          go_wp2_with (at_builtin; refine stop_here ?_)
          refine ⟨?_⟩
          refine append_event (base := w.heap.size) (v := .slice At (Z + 1 + i) ct) (rest := tailB Z T.length i) (p := [y]) (A := some ⟨gl, 0, none⟩) (c := 1) rfl (.tmp 47) (.tmp 54) rfl rfl rfl Q7.out L7.out (by rw [tailB_len]; have := HZ7.out; simp; omega) B7.out.size ?_
          intro v8 w8 hq hg8 hat
          rw [HY.out, ← tailB_succ] at hq
          have hq2 := hq
          rw [tailB_len] at hq2
          obtain ⟨At8, ct8, hv8, hle8⟩ := q_slice hq2
          subst hv8
          have Q8 := Aside0.mk hq
          have F8 := Frame.of_grown hg8
          have N8 := Aside0.mk (N7.out.keep F8 (fun h => IsSum.typed_ne (t := 0) (m := 0) N7.out.blk Q7.out h) (fun j hj h => A6'.out j h.symm hj))
          have X8 := Aside0.mk (F8.blk X7.out (fun h => by obtain ⟨_, cc, hcc⟩ := q_typed Q7.out g2 h.symm; have := X7.out.symm.trans hcc; simp at this))
          have A8 := Aside0.mk (own_apart (u := .slice Ar R.length c4) hat A6'.out (fun j hj => q_lt N7.out.row j hj))
          have B8 := Aside0.mk (B7.out.grown hg8 B7.out.size (fun j hj => (q_typed Q7.out j hj).1))
          clear hq hq2 hg8 hat F8 L7 Q7 N7 X7 B7 Q6 N6 X6 B6 A6' hle8
          go_wp2
          go_roundg (8 - (i + 1))
          case measure => have := HK.out; omega
          case rel => exact ⟨i + 1, At8, ct8, by omega, by go_num, rfl, ⟨rfl⟩, Q8, N8, X8, A8, B8⟩
        · have HI : Aside0 (i = 8) := ⟨by omega⟩
          go_wp2_with ((with_reducible refine gate_dst (N := 59) rfl ?_); refine stop_here ?_)
          refine ⟨?_⟩
          refine slices_event rfl #[.slice At (Z + 1 + i) ct] 1 ?hr59 ?_
          case hr59 => first | (go_simp; done) | (go_simp; rfl)
          intro gp hgp w7 hbx hb
          have P7 := Aside0.mk hbx
          have Q7 := Aside0.mk (q_below Q6.out hb)
          have N7 := Aside0.mk (N6.out.below hb)
          have X7 := Aside0.mk (blk_below X6.out hb)
          have B7 := Aside0.mk (below_step B6.out hb)
          have HN3 := Aside0.mk (show ¬ Foot g3 (Value.slice Ar R.length c4).ownBlock gp from fun h => by
            rcases h with h | h
            · have := blk_lt N6.out.blk; omega
            · have := q_lt N6.out.row gp h.symm; omega)
          clear hgp hbx hb Q6 N6 X6 B6
          go_wp2_with (go_at_call 12; refine stop_here ?_)
          refine ⟨?_⟩
          have hT8 : tailB Z T.length i = tailOf T.length := by rw [HI.out, ← HZ.out]; rfl
          have hs9 : SumAt w7 w.heap.size g3 (Value.slice Ar R.length c4).ownBlock T := ⟨_, rfl, by rw [HF.out.1, HF.out.2]; exact N7.out⟩
          have hp9 : PartsAt w7 (some ⟨gp, 0, none⟩) [tailOf T.length] (Foot g3 (Value.slice Ar R.length c4).ownBlock) := by
            have hQ := Q7.out
            rw [hT8] at hQ
            have hl : (tailOf T.length).length = Z + 1 + i := by rw [← hT8, tailB_len]
            refine parts_one P7.out hl ?_ HN3.out (fun _ ad e h => ?_)
            · have hQ2 := hQ
              rw [← hl] at hQ2
              exact q_bytes hQ2
            · have e1 : (Value.slice At (Z + 1 + i) ct).ownBlock = some ad.block := by rw [e]; rfl
              rcases h with h | h
              · exact IsSum.typed_ne (t := 0) (m := 0) N7.out.blk hQ (by rw [e1, h])
              · exact A6'.out _ e1 h.symm
          have hl9 : T.length + [tailOf T.length].flatten.length ≤ 1000000 + 1000 := by
            have : (tailOf T.length).length ≤ 73 := by rw [← hT8, tailB_len, HI.out]; have := padN_lt T.length; have := HZ.out; omega
            have := HT.out
            simp; omega
          refine (add_calls g3 w.heap.size _ T (some ⟨gp, 0, none⟩) 1 1 [tailOf T.length] w7 rfl B7.out.size hs9 hp9 hl9 (by decide)).mono ?_
          rintro e w9 ⟨rfl, r9, hs9', _, hf9⟩
          rw [List.flatten_cons, List.flatten_nil, List.append_nil] at hs9'
          obtain ⟨v9, hv9, hi9⟩ := hs9'.is
          obtain ⟨HH, hHH⟩ : ∃ HH, (full (T ++ tailOf T.length)).1 = HH := ⟨_, rfl⟩
          rw [hHH] at hi9
          have HHd := Aside0.mk hHH
          have N9 := Aside0.mk hi9
          have X9 := Aside0.mk (hf9.blk X7.out (fun h => by
            rcases h with h | h
            · have h1 := N7.out.blk; rw [← h] at h1; have := X7.out.symm.trans h1; simp at this
            · obtain ⟨_, cc, hcc⟩ := q_typed N7.out.row g2 h.symm; have := X7.out.symm.trans hcc; simp at this))
          have G39 : w.heap.size ≤ g3 := Nat.le_trans HW1.out G3.out
          have B9 := Aside0.mk (below_frame B7.out hf9 B7.out.size (fun k h => by
            rcases h with h | h
            · omega
            · exact (q_typed N7.out.row k h.symm).1))
          clear hs9 hp9 hl9 hf9 hs9' hv9 hi9 hHH hT8 Q7 N7 X7 B7 P7 A6' G39
          go_wp2_with ((with_reducible refine gate_dst (N := 7) rfl ?_); refine stop_here ?_)
          refine ⟨?_⟩
          refine box_event rfl (N := 7) rfl (cs := ⟨nums .u8 (zeros 32)⟩) (t := 25) ?hr7 ?_
          case hr7 => first | (go_simp; done) | (go_simp; rfl)
          intro g7 hg w10 hbox hb
          have G7 := Aside0.mk (show w.heap.size ≤ g7 by rw [hg]; exact B9.out.size)
          have Y10 := Aside0.mk hbox
          have N10 := Aside0.mk (N9.out.below hb)
          have X10 := Aside0.mk (blk_below X9.out hb)
          have B10 := Aside0.mk (below_step B9.out hb)
          have D27 := Aside0.mk (show g2 ≠ g7 by have := blk_lt X9.out; omega)
          clear hg hbox hb N9 X9 B9
          go_wp2
          have HL := Aside0.mk N10.out.eight
          go_loopg [61] 32 (fun kq v61 w' => ∃ (i : Nat), i ≤ 32 ∧ v61 = .int .i64 (i : Int) ∧ Aside0 (kq = 32 - i) ∧ Aside0 (w'.heap[g7]? = some (.cells ⟨nums .u8 ((List.range i).map (outByte HH) ++ zeros (32 - i))⟩ 25 (0, 0))) ∧ Aside0 (w'.heap[g3]? = some (.cells ⟨sumCells HH v9 (((T ++ tailOf T.length).length : Nat) : Int)⟩ 46 (0, 0))) ∧ Aside0 (w'.heap[g2]? = some (.cells ⟨nums .u8 (zeros 32)⟩ 25 (0, 0))) ∧ Aside0 (Below w.heap.size w w'))
          case atStart => exact ⟨0, by omega, rfl, ⟨rfl⟩, Y10, ⟨N10.out.blk⟩, X10, B10⟩
          case round =>
            clear Y10 N10 X10 B10
            obtain ⟨j, hj, rfl, HK3, Y, N, X, B⟩ := hrel
            by_cases hlt3 : j < 32
            · have zt : 0 ≤ (j : Int) := by omega
              have lt : (j : Int) < 32 := by omega
              obtain ⟨q, m, hq, hm, hqm⟩ : ∃ q m, q < 8 ∧ m < 4 ∧ j = 4 * q + m := ⟨j / 4, j % 4, by omega, by omega, by omega⟩
              have kq : (j : Int) / 4 = (q : Int) := by omega
              have km : (j : Int) % 4 = (m : Int) := by omega
              have zq : 0 ≤ (q : Int) := by omega
              have lq : (q : Int) < 8 := by omega
              have zm : 0 ≤ (m : Int) := by omega
              have lm : (m : Int) < 4 := by omega
              have cq := (blk_cell N.out q).trans (sum_at HH v9 _ (show q < HH.length by rw [HL.out]; exact hq))
              have cj := (blk_cell Y.out j).trans (outs_at _ _ hlt3)
              have fj := blk_frozen Y.out j
              obtain ⟨y, hy⟩ : ∃ y, rd HH (q : Int) / 2 ^ (24 - 8 * m) % 256 = y := ⟨_, rfl⟩
              have HY : Aside0 (y = outByte HH j) := ⟨by rw [← hy]; exact outByte_is HH j q m hm hqm⟩
              clear hqm hq hm
              go_wp2
              clear hy cq cj fj
              go_roundg (32 - (j + 1))
              case measure => have := HK3.out; omega
              case rel => exact ⟨j + 1, by omega, by go_num, ⟨rfl⟩, ⟨blk_put Y.out j (.int .u8 y) (by rw [HY.out]; exact outs_set _ _ hlt3)⟩, ⟨blk_far N.out (fun h => by have h : g3 = g7 := h; have h1 := N.out; rw [h] at h1; have := Y.out.symm.trans h1; simp at this) _⟩, ⟨blk_far X.out D27.out _⟩, ⟨below_set B.out G7.out⟩⟩
            · have HJ : Aside0 (j = 32) := ⟨by omega⟩
              have YD := Aside0.mk (show wr.heap[g7]? = some (.cells ⟨nums .u8 (digest T)⟩ 25 (0, 0)) by
                rw [Y.out, HJ.out, ← HHd.out]; unfold digest zeros; simp)
              clear Y
              go_wp2_with ((with_reducible refine gate_dst (N := 80) rfl ?_); refine stop_here ?_)
              refine ⟨?_⟩
              refine wpList_load_row rfl 25 (.tmp 7) rfl g7 rfl 25 ⟨nums .u8 (digest T)⟩ (0, 0) _ YD.out Try.underlying25 rfl (by rw [u8s_size _ (digest_len T)]; rfl) ?_
              go_wp2_with ((with_reducible refine gate_store (t := 25) (p := 2) rfl ?_); refine stop_here ?_)
              refine ⟨?_⟩
              refine row_event rfl 25 (.tmp 2) (.tmp 80) rfl g2 ⟨nums .u8 (digest T)⟩ rfl rfl 25 _ X.out (by rw [u8s_size _ (digest_len T)]; rfl) (by rw [u8s_size _ (digest_len T)]; rfl) (u8s_one _) ?_
              intro w12 hp
              have BF := Aside0.mk (hp.below B.out G2.out)
              have XF := Aside0.mk hp.here
              clear hp
              go_wp2
              exact bodyPost_ret (results_cell_row rfl _ _ g2 25 ⟨nums .u8 (digest T)⟩ (0, 0) _ rfl XF.out Try.underlying25 rfl (by rw [u8s_size _ (digest_len T)]; rfl)) rfl ⟨rfl, BF.out⟩
end Go.Proofs.Ytlniejfbkcgneaa.HashT

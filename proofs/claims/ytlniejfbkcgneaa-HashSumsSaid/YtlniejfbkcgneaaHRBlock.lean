/- Proved: the reference's Block tells what the program's block does; conditions: the theorems' own premises. -/
import Derived.Test.YtlniejfbkcgneaaHRefA
namespace Go.Proofs.Ytlniejfbkcgneaa.HashT
open Go.RowKit Go.Proofs.Ytlniejfbkcgneaa.YHash Go.Proofs.YtlniejfbkcgneaaW.PrintWords Go.Proofs.YtlniejfbkcgneaaW.PrintLast Go.Proofs.YtlniejfbkcgneaaW.PrintMore
set_option linter.unusedVariables false
set_option linter.unusedSimpArgs false
theorem cell_put {w w1 : World} {g t : Nat} {cells : Array Value} (h : RowPut w w1 g cells t) {a : Addr} {v : Value} (hn : a.block ≠ g) (hc : w.cell? a = some v) : w1.cell? a = some v := by
  have hl := World.block_lt_of_cell? w a hc
  have := h.far hn (Array.getElem?_eq_getElem hl)
  have e : w1.heap[a.block]? = w.heap[a.block]? := this.trans (Array.getElem?_eq_getElem hl).symm
  simpa [World.cell?, e] using hc
theorem wrap_nat {m : Nat} (h : m < 64) : wrap64 (m : Int) = (m : Int) := by unfold wrap64; omega
theorem lt_of_lt_len {m k t : Nat} (h : m + k = t) (ht : t < 64) : m < 64 := by omega
theorem wsum_val {s1 y7 s0 y16 : Int} (h1 : W32 s1) (h7 : W32 y7) (h0 : W32 s0) (h16 : W32 y16) : (wrap64 (wrap64 (wrap64 (s1 + y7) + s0) + y16)).tmod 4294967296 = (y16 + s0 + y7 + s1) % 4294967296 := by
  unfold W32 at *
  have e : wrap64 (wrap64 (wrap64 (s1 + y7) + s0) + y16) = y16 + s0 + y7 + s1 := by
    rw [wrap_id (show 0 ≤ s1 + y7 by omega) (by omega), wrap_id (show 0 ≤ s1 + y7 + s0 by omega) (by omega), wrap_id (show 0 ≤ s1 + y7 + s0 + y16 by omega) (by omega)]
    omega
  rw [e]
  clear e
  exact Int.tmod_eq_emod_of_nonneg (by omega)
set_option maxHeartbeats 8000000 in
set_option maxRecDepth 100000 in
theorem rblock_calls (b o n c : Nat) (l h : List Int) (w : World) (hh : h.length = 8) (hw : AllW h) (hl : 64 ≤ l.length) (hn : l.length = n) (hb : AllB l) (hr : ∀ i : Nat, i < 64 → w.cell? ⟨b, o + i, none⟩ = some (.int .u8 (rd l i))) :
    Calls Try.prog 17 #[.agg ⟨nums .i64 h⟩, .slice (some ⟨b, o, none⟩) n c] w fun e w' => e = .returned (.agg ⟨nums .i64 (blockL l h)⟩) ∧ Below w.heap.size w w' := by
  obtain ⟨h0, h1, h2, h3, h4, h5, h6, h7, hh8⟩ : ∃ h0 h1 h2 h3 h4 h5 h6 h7, h = [h0, h1, h2, h3, h4, h5, h6, h7] := by
    match h, hh with
    | [a, b, c, d, e, f, g, i], _ => exact ⟨a, b, c, d, e, f, g, i, rfl⟩
  have HR := Aside0.mk hr
  have HW := Aside0.mk hw
  have HA := Aside0.mk hb
  have HL := Aside0.mk hl
  have HN := Aside0.mk hn
  have hn64 : 64 ≤ n := by omega
  have HH8 := Aside0.mk hh8
  have HH := Aside0.mk hh
  have HB := Aside0.mk (Below.refl w.heap.size w)
  clear hr hw hb hl hn hh hh8
  go_enter Try.func17, Try.ntmps17
  obtain ⟨C, hC⟩ : ∃ C, Value.string rounds = C := ⟨_, rfl⟩
  have HC := Aside0.mk hC
  unfold rounds at hC
  rw [hC]
  clear hC
  go_wp2_with ((with_reducible refine gate_dst (N := 2) rfl ?_); refine stop_here ?_)
  refine ⟨?_⟩
  refine box_event rfl (N := 2) rfl (cs := ⟨nums .i64 h⟩) (t := 37) ?hr2 ?_
  case hr2 => rw [HH8.out]; first | (go_simp; done) | (go_simp; rfl)
  intro g2 hg w1 hbox hb
  have G2 := Aside0.mk (show w.heap.size ≤ g2 by rw [hg]; exact HB.out.size)
  have X1 := Aside0.mk hbox
  have B1 := Aside0.mk (below_step HB.out hb)
  clear hg hbox hb HB
  go_wp2_with ((with_reducible refine gate_dst (N := 4) rfl ?_); refine stop_here ?_)
  refine ⟨?_⟩
  refine box_event rfl (N := 4) rfl (cs := ⟨nums .i64 (zeros 8)⟩) (t := 37) ?hr4 ?_
  case hr4 => first | (go_simp; done) | (go_simp; rfl)
  intro g4 hg w2 hbox hb
  have G4 := Aside0.mk (show w.heap.size ≤ g4 by rw [hg]; exact B1.out.size)
  have N24 := Aside0.mk (show g2 ≠ g4 by have := blk_lt X1.out; omega)
  have X2 := Aside0.mk (blk_below X1.out hb)
  have Y2 := Aside0.mk hbox
  have B2 := Aside0.mk (below_step B1.out hb)
  clear hg hbox hb X1 B1
  go_wp2
  go_loopg [5, 6] 64 (fun kq v5 v6 w' => ∃ (t : Nat) (A5 : Option Addr) (c5 : Nat) (xs : List Int), t ≤ 64 ∧ v6 = .int .i64 (t : Int) ∧ v5 = .slice A5 t c5 ∧ Aside0 (kq = 64 - t) ∧ Aside0 (xs = wl l t) ∧ Aside0 (QRow w' w.heap.size 3 1 (.slice A5 t c5) t (nums .i64 xs)) ∧ Aside0 (w'.heap[g2]? = some (.cells ⟨nums .i64 h⟩ 37 (0, 0))) ∧ Aside0 (w'.heap[g4]? = some (.cells ⟨nums .i64 (zeros 8)⟩ 37 (0, 0))) ∧ Aside0 (Below w.heap.size w w'))
  case atStart => exact ⟨0, none, 0, [], by omega, rfl, rfl, ⟨rfl⟩, ⟨rfl⟩, ⟨⟨rfl, .inl ⟨rfl, none, rfl, fun a ha => by cases ha⟩⟩⟩, X2, Y2, B2⟩
  case round =>
    clear X2 Y2 B2
    obtain ⟨t, A5, c5, xs, ht, rfl, rfl, HK, HX, Q, X, Y, B⟩ := hrel
    have HXL := Aside0.mk (show xs.length = t by rw [HX.out]; exact wl_length l t)
    have HX1 := Aside0.mk (show xs.length ≤ 1000000 by rw [HXL.out]; omega)
    by_cases hlt : t < 64
    · by_cases h16 : t < 16
      · obtain ⟨q0, hq0⟩ : ∃ q, q = 4 * t := ⟨_, rfl⟩
        obtain ⟨q1, hq1⟩ : ∃ q, q = 4 * t + 1 := ⟨_, rfl⟩
        obtain ⟨q2, hq2⟩ : ∃ q, q = 4 * t + 2 := ⟨_, rfl⟩
        obtain ⟨q3, hq3⟩ : ∃ q, q = 4 * t + 3 := ⟨_, rfl⟩
        have a0 := pw_cell_below B.out (HR.out q0 (by omega))
        have a1 := pw_cell_below B.out (HR.out q1 (by omega))
        have a2 := pw_cell_below B.out (HR.out q2 (by omega))
        have a3 := pw_cell_below B.out (HR.out q3 (by omega))
        have z0 : 0 ≤ (q0 : Int) := by omega
        have l0 : (q0 : Int) < (n : Int) := by omega
        have z1 : 0 ≤ (q1 : Int) := by omega
        have l1 : (q1 : Int) < (n : Int) := by omega
        have z2 : 0 ≤ (q2 : Int) := by omega
        have l2 : (q2 : Int) < (n : Int) := by omega
        have z3 : 0 ≤ (q3 : Int) := by omega
        have l3 : (q3 : Int) < (n : Int) := by omega
        have i0 : wrap64 (4 * (t : Int)) = (q0 : Int) := by rw [hq0]; unfold wrap64; omega
        have i1 : wrap64 ((q0 : Int) + 1) = (q1 : Int) := by rw [hq0, hq1]; unfold wrap64; omega
        have i2 : wrap64 ((q0 : Int) + 2) = (q2 : Int) := by rw [hq0, hq2]; unfold wrap64; omega
        have i3 : wrap64 ((q0 : Int) + 3) = (q3 : Int) := by rw [hq0, hq3]; unfold wrap64; omega
        have e0 : IntKind.i64.wrap (4 * (t : Int)) = (q0 : Int) := (i64_w _).trans i0
        have e1 : IntKind.i64.wrap ((q0 : Int) + 1) = (q1 : Int) := (i64_w _).trans i1
        have e2 : IntKind.i64.wrap ((q0 : Int) + 2) = (q2 : Int) := (i64_w _).trans i2
        have e3 : IntKind.i64.wrap ((q0 : Int) + 3) = (q3 : Int) := (i64_w _).trans i3
        have hbw := bword_is l t HA.out (by have := HL.out; omega)
        rw [← hq3, ← hq2, ← hq1, ← hq0] at hbw
        have b0 := HA.out.at_ q0 (by have := HL.out; omega)
        have b1 := HA.out.at_ q1 (by have := HL.out; omega)
        have b2 := HA.out.at_ q2 (by have := HL.out; omega)
        have b3 := HA.out.at_ q3 (by have := HL.out; omega)
        obtain ⟨x0, hx0⟩ : ∃ x, rd l (q0 : Int) = x := ⟨_, rfl⟩
        obtain ⟨x1, hx1⟩ : ∃ x, rd l (q1 : Int) = x := ⟨_, rfl⟩
        obtain ⟨x2, hx2⟩ : ∃ x, rd l (q2 : Int) = x := ⟨_, rfl⟩
        obtain ⟨x3, hx3⟩ : ∃ x, rd l (q3 : Int) = x := ⟨_, rfl⟩
        rw [hx0] at a0 b0 hbw
        rw [hx1] at a1 b1 hbw
        rw [hx2] at a2 b2 hbw
        rw [hx3] at a3 b3 hbw
        have HBW := Aside0.mk hbw
        have QS := Aside0.mk (And.intro hq0 (And.intro hq1 (And.intro hq2 hq3)))
        have b00 := b0.1
        have b01 := b0.2
        have b10 := b1.1
        have b11 := b1.2
        have b20 := b2.1
        have b21 := b2.2
        have b30 := b3.1
        have b31 := b3.2
        clear hq0 hq1 hq2 hq3 hx0 hx1 hx2 hx3 hbw b0 b1 b2 b3
        go_wp2
        have Q0 := Aside0.mk (show QRow wr.drew w.heap.size 3 1 (.slice A5 t c5) t (nums .i64 xs) from Q.out)
        have X0 := Aside0.mk (blk_drew X.out)
        have Y0 := Aside0.mk (blk_drew Y.out)
        have B0 := Aside0.mk (below_drew1 B.out)
        refine start_ (n := 37) (S := fun w' => w'.cell? ⟨b, o + q0, none⟩ = some (.int .u8 x0) ∧ w'.cell? ⟨b, o + q1, none⟩ = some (.int .u8 x1) ∧ w'.cell? ⟨b, o + q2, none⟩ = some (.int .u8 x2) ∧ w'.cell? ⟨b, o + q3, none⟩ = some (.int .u8 x3)) (ds := []) #[false, false, false, false, false, false, false, false, false, false, false, false, false, false, false, false, false, false, false, false, false, false, false, false, false, false, false, false, false, false, false, false, false, false, false, false, false] (by kernel_rfl) rfl rfl ⟨a0, a1, a2, a3⟩ (fun hHeld => ?_)
        refine pure_ (i := 0) (N := some 28) (v := ?_) (a' := ?_) #[true, false, false, false, false, false, false, false, false, false, false, false, false, false, false, false, false, false, false, false, false, false, false, false, false, false, false, false, false, false, false, false, false, false, false, false, false] rfl rfl (by kernel_rfl) (fun _ _ _ h => h) (Or.inl ⟨by rfl, ?_⟩) ?_ ?_
        rotate_left
        · intro w'
          go_simp
          with_reducible rfl
        rotate_left
        · simp only [Act.put, List.setIfInBounds_toArray, List.set_cons_zero, List.set_cons_succ, i64_w, i32_w]
          rfl
        refine pure_ (i := 1) (N := some 29) (v := ?_) (a' := ?_) #[true, true, false, false, false, false, false, false, false, false, false, false, false, false, false, false, false, false, false, false, false, false, false, false, false, false, false, false, false, false, false, false, false, false, false, false, false] rfl rfl (by kernel_rfl) (fun _ _ _ h => h) (Or.inl ⟨by rfl, ?_⟩) ?_ ?_
        rotate_left
        · intro w'
          go_simp
          with_reducible rfl
        rotate_left
        · simp only [Act.put, List.setIfInBounds_toArray, List.set_cons_zero, List.set_cons_succ, i64_w, i32_w]
          rfl
        refine pure_ (i := 2) (N := some 30) (v := ?_) (a' := ?_) #[true, true, true, false, false, false, false, false, false, false, false, false, false, false, false, false, false, false, false, false, false, false, false, false, false, false, false, false, false, false, false, false, false, false, false, false, false] rfl rfl (by kernel_rfl) (fun _ _ _ h => h) (Or.inl ⟨by rfl, ?_⟩) ?_ ?_
        rotate_left
        · intro w'
          go_simp
          with_reducible rfl
        rotate_left
        · simp only [Act.put, List.setIfInBounds_toArray, List.set_cons_zero, List.set_cons_succ, i64_w, i32_w]
          rfl
        refine pure_ (i := 3) (N := some 31) (v := ?_) (a' := ?_) #[true, true, true, true, false, false, false, false, false, false, false, false, false, false, false, false, false, false, false, false, false, false, false, false, false, false, false, false, false, false, false, false, false, false, false, false, false] rfl rfl (by kernel_rfl) (fun _ _ _ h => h) (Or.inl ⟨by rfl, ?_⟩) ?_ ?_
        rotate_left
        · intro w'
          go_simp
          with_reducible rfl
        rotate_left
        · simp only [Act.put, List.setIfInBounds_toArray, List.set_cons_zero, List.set_cons_succ, i64_w, i32_w]
          rfl
        refine pure_ (i := 4) (N := some 32) (v := ?_) (a' := ?_) #[true, true, true, true, true, false, false, false, false, false, false, false, false, false, false, false, false, false, false, false, false, false, false, false, false, false, false, false, false, false, false, false, false, false, false, false, false] rfl rfl (by kernel_rfl) (fun _ _ _ h => h) (Or.inl ⟨by rfl, ?_⟩) ?_ ?_
        rotate_left
        · intro w'
          go_simp
          with_reducible rfl
        rotate_left
        · simp only [Act.put, List.setIfInBounds_toArray, List.set_cons_zero, List.set_cons_succ, i64_w, i32_w]
          rfl
        refine pure_ (i := 8) (N := some 36) (v := ?_) (a' := ?_) #[true, true, true, true, true, false, false, false, true, false, false, false, false, false, false, false, false, false, false, false, false, false, false, false, false, false, false, false, false, false, false, false, false, false, false, false, false] rfl rfl (by kernel_rfl) (fun _ _ _ h => h) (Or.inl ⟨by rfl, ?_⟩) ?_ ?_
        rotate_left
        · intro w'
          go_simp
          with_reducible rfl
        rotate_left
        · simp only [Act.put, List.setIfInBounds_toArray, List.set_cons_zero, List.set_cons_succ, i64_w, i32_w]
          rfl
        refine pure_ (i := 9) (N := some 37) (v := ?_) (a' := ?_) #[true, true, true, true, true, false, false, false, true, true, false, false, false, false, false, false, false, false, false, false, false, false, false, false, false, false, false, false, false, false, false, false, false, false, false, false, false] rfl rfl (by kernel_rfl) (fun _ _ _ h => h) (Or.inl ⟨by rfl, ?_⟩) ?_ ?_
        rotate_left
        · intro w'
          go_simp
          with_reducible rfl
        rotate_left
        · simp only [Act.put, List.setIfInBounds_toArray, List.set_cons_zero, List.set_cons_succ, i64_w, i32_w]
          rfl
        refine pure_ (i := 10) (N := some 38) (v := ?_) (a' := ?_) #[true, true, true, true, true, false, false, false, true, true, true, false, false, false, false, false, false, false, false, false, false, false, false, false, false, false, false, false, false, false, false, false, false, false, false, false, false] rfl rfl (by kernel_rfl) (fun _ _ _ h => h) (Or.inl ⟨by rfl, ?_⟩) ?_ ?_
        rotate_left
        · intro w'
          go_simp
          with_reducible rfl
        rotate_left
        · simp only [Act.put, List.setIfInBounds_toArray, List.set_cons_zero, List.set_cons_succ, i64_w, i32_w]
          rfl
        refine pure_ (i := 11) (N := some 39) (v := ?_) (a' := ?_) #[true, true, true, true, true, false, false, false, true, true, true, true, false, false, false, false, false, false, false, false, false, false, false, false, false, false, false, false, false, false, false, false, false, false, false, false, false] rfl rfl (by kernel_rfl) (fun _ _ _ h => h) (Or.inl ⟨by rfl, ?_⟩) ?_ ?_
        rotate_left
        · intro w'
          go_simp
          with_reducible rfl
        rotate_left
        · simp only [Act.put, List.setIfInBounds_toArray, List.set_cons_zero, List.set_cons_succ, i64_w, i32_w]
          rfl
        refine pure_ (i := 12) (N := some 40) (v := ?_) (a' := ?_) #[true, true, true, true, true, false, false, false, true, true, true, true, true, false, false, false, false, false, false, false, false, false, false, false, false, false, false, false, false, false, false, false, false, false, false, false, false] rfl rfl (by kernel_rfl) (fun _ _ _ h => h) (Or.inl ⟨by rfl, ?_⟩) ?_ ?_
        rotate_left
        · intro w'
          go_simp
          with_reducible rfl
        rotate_left
        · simp only [Act.put, List.setIfInBounds_toArray, List.set_cons_zero, List.set_cons_succ, i64_w, i32_w]
          rfl
        refine pure_ (i := 17) (N := some 45) (v := ?_) (a' := ?_) #[true, true, true, true, true, false, false, false, true, true, true, true, true, false, false, false, false, true, false, false, false, false, false, false, false, false, false, false, false, false, false, false, false, false, false, false, false] rfl rfl (by kernel_rfl) (fun _ _ _ h => h) (Or.inl ⟨by rfl, ?_⟩) ?_ ?_
        rotate_left
        · intro w'
          go_simp
          with_reducible rfl
        rotate_left
        · simp only [Act.put, List.setIfInBounds_toArray, List.set_cons_zero, List.set_cons_succ, i64_w, i32_w]
          rfl
        refine pure_ (i := 18) (N := some 46) (v := ?_) (a' := ?_) #[true, true, true, true, true, false, false, false, true, true, true, true, true, false, false, false, false, true, true, false, false, false, false, false, false, false, false, false, false, false, false, false, false, false, false, false, false] rfl rfl (by kernel_rfl) (fun _ _ _ h => h) (Or.inl ⟨by rfl, ?_⟩) ?_ ?_
        rotate_left
        · intro w'
          go_simp
          with_reducible rfl
        rotate_left
        · simp only [Act.put, List.setIfInBounds_toArray, List.set_cons_zero, List.set_cons_succ, i64_w, i32_w]
          rfl
        refine pure_ (i := 19) (N := some 47) (v := ?_) (a' := ?_) #[true, true, true, true, true, false, false, false, true, true, true, true, true, false, false, false, false, true, true, true, false, false, false, false, false, false, false, false, false, false, false, false, false, false, false, false, false] rfl rfl (by kernel_rfl) (fun _ _ _ h => h) (Or.inl ⟨by rfl, ?_⟩) ?_ ?_
        rotate_left
        · intro w'
          go_simp
          with_reducible rfl
        rotate_left
        · simp only [Act.put, List.setIfInBounds_toArray, List.set_cons_zero, List.set_cons_succ, i64_w, i32_w]
          rfl
        refine pure_ (i := 20) (N := some 48) (v := ?_) (a' := ?_) #[true, true, true, true, true, false, false, false, true, true, true, true, true, false, false, false, false, true, true, true, true, false, false, false, false, false, false, false, false, false, false, false, false, false, false, false, false] rfl rfl (by kernel_rfl) (fun _ _ _ h => h) (Or.inl ⟨by rfl, ?_⟩) ?_ ?_
        rotate_left
        · intro w'
          go_simp
          with_reducible rfl
        rotate_left
        · simp only [Act.put, List.setIfInBounds_toArray, List.set_cons_zero, List.set_cons_succ, i64_w, i32_w]
          rfl
        refine pure_ (i := 21) (N := some 49) (v := ?_) (a' := ?_) #[true, true, true, true, true, false, false, false, true, true, true, true, true, false, false, false, false, true, true, true, true, true, false, false, false, false, false, false, false, false, false, false, false, false, false, false, false] rfl rfl (by kernel_rfl) (fun _ _ _ h => h) (Or.inl ⟨by rfl, ?_⟩) ?_ ?_
        rotate_left
        · intro w'
          go_simp
          with_reducible rfl
        rotate_left
        · simp only [Act.put, List.setIfInBounds_toArray, List.set_cons_zero, List.set_cons_succ, i64_w, i32_w]
          rfl
        refine pure_ (i := 26) (N := some 54) (v := ?_) (a' := ?_) #[true, true, true, true, true, false, false, false, true, true, true, true, true, false, false, false, false, true, true, true, true, true, false, false, false, false, true, false, false, false, false, false, false, false, false, false, false] rfl rfl (by kernel_rfl) (fun _ _ _ h => h) (Or.inl ⟨by rfl, ?_⟩) ?_ ?_
        rotate_left
        · intro w'
          go_simp
          with_reducible rfl
        rotate_left
        · simp only [Act.put, List.setIfInBounds_toArray, List.set_cons_zero, List.set_cons_succ, i64_w, i32_w]
          rfl
        refine pure_ (i := 27) (N := some 55) (v := ?_) (a' := ?_) #[true, true, true, true, true, false, false, false, true, true, true, true, true, false, false, false, false, true, true, true, true, true, false, false, false, false, true, true, false, false, false, false, false, false, false, false, false] rfl rfl (by kernel_rfl) (fun _ _ _ h => h) (Or.inl ⟨by rfl, ?_⟩) ?_ ?_
        rotate_left
        · intro w'
          go_simp
          with_reducible rfl
        rotate_left
        · simp only [Act.put, List.setIfInBounds_toArray, List.set_cons_zero, List.set_cons_succ, i64_w, i32_w]
          rfl
        refine pure_ (i := 28) (N := some 56) (v := ?_) (a' := ?_) #[true, true, true, true, true, false, false, false, true, true, true, true, true, false, false, false, false, true, true, true, true, true, false, false, false, false, true, true, true, false, false, false, false, false, false, false, false] rfl rfl (by kernel_rfl) (fun _ _ _ h => h) (Or.inl ⟨by rfl, ?_⟩) ?_ ?_
        rotate_left
        · intro w'
          go_simp
          with_reducible rfl
        rotate_left
        · simp only [Act.put, List.setIfInBounds_toArray, List.set_cons_zero, List.set_cons_succ, i64_w, i32_w]
          rfl
        refine pure_ (i := 29) (N := some 57) (v := ?_) (a' := ?_) #[true, true, true, true, true, false, false, false, true, true, true, true, true, false, false, false, false, true, true, true, true, true, false, false, false, false, true, true, true, true, false, false, false, false, false, false, false] rfl rfl (by kernel_rfl) (fun _ _ _ h => h) (Or.inl ⟨by rfl, ?_⟩) ?_ ?_
        rotate_left
        · intro w'
          go_simp
          with_reducible rfl
        rotate_left
        · simp only [Act.put, List.setIfInBounds_toArray, List.set_cons_zero, List.set_cons_succ, i64_w, i32_w]
          rfl
        refine pure_ (i := 30) (N := some 58) (v := ?_) (a' := ?_) #[true, true, true, true, true, false, false, false, true, true, true, true, true, false, false, false, false, true, true, true, true, true, false, false, false, false, true, true, true, true, true, false, false, false, false, false, false] rfl rfl (by kernel_rfl) (fun _ _ _ h => h) (Or.inl ⟨by rfl, ?_⟩) ?_ ?_
        rotate_left
        · intro w'
          go_simp
          with_reducible rfl
        rotate_left
        · simp only [Act.put, List.setIfInBounds_toArray, List.set_cons_zero, List.set_cons_succ, i64_w, i32_w]
          rfl
        refine take_ (i := 5) (N := some 33) (v := ?_) (a' := ?_) #[true, true, true, true, true, true, false, false, true, true, true, true, true, false, false, false, false, true, true, true, true, true, false, false, false, false, true, true, true, true, true, false, false, false, false, false, false] rfl rfl (by kernel_rfl) (fun _ _ _ h => h) (Or.inl ⟨by rfl, ?_⟩) hHeld ?_ ?_
        rotate_left
        · rintro w' ⟨s0, s1, s2, s3⟩
          go_simp
          with_reducible rfl
        rotate_left
        · simp only [Act.put, List.setIfInBounds_toArray, List.set_cons_zero, List.set_cons_succ, i64_w, i32_w]
          rfl
        refine pure_ (i := 6) (N := some 34) (v := ?_) (a' := ?_) #[true, true, true, true, true, true, true, false, true, true, true, true, true, false, false, false, false, true, true, true, true, true, false, false, false, false, true, true, true, true, true, false, false, false, false, false, false] rfl rfl (by kernel_rfl) (fun _ _ _ h => h) (Or.inl ⟨by rfl, ?_⟩) ?_ ?_
        rotate_left
        · intro w'
          go_simp
          with_reducible rfl
        rotate_left
        · simp only [Act.put, List.setIfInBounds_toArray, List.set_cons_zero, List.set_cons_succ, i64_w, i32_w]
          rfl
        refine pure_ (i := 7) (N := some 35) (v := ?_) (a' := ?_) #[true, true, true, true, true, true, true, true, true, true, true, true, true, false, false, false, false, true, true, true, true, true, false, false, false, false, true, true, true, true, true, false, false, false, false, false, false] rfl rfl (by kernel_rfl) (fun _ _ _ h => h) (Or.inl ⟨by rfl, ?_⟩) ?_ ?_
        rotate_left
        · intro w'
          go_simp
          with_reducible rfl
        rotate_left
        · simp only [Act.put, List.setIfInBounds_toArray, List.set_cons_zero, List.set_cons_succ, i64_w, i32_w]
          rfl
        refine take_ (i := 13) (N := some 41) (v := ?_) (a' := ?_) #[true, true, true, true, true, true, true, true, true, true, true, true, true, true, false, false, false, true, true, true, true, true, false, false, false, false, true, true, true, true, true, false, false, false, false, false, false] rfl rfl (by kernel_rfl) (fun _ _ _ h => h) (Or.inl ⟨by rfl, ?_⟩) hHeld ?_ ?_
        rotate_left
        · rintro w' ⟨s0, s1, s2, s3⟩
          go_simp
          with_reducible rfl
        rotate_left
        · simp only [Act.put, List.setIfInBounds_toArray, List.set_cons_zero, List.set_cons_succ, i64_w, i32_w]
          rfl
        refine pure_ (i := 14) (N := some 42) (v := ?_) (a' := ?_) #[true, true, true, true, true, true, true, true, true, true, true, true, true, true, true, false, false, true, true, true, true, true, false, false, false, false, true, true, true, true, true, false, false, false, false, false, false] rfl rfl (by kernel_rfl) (fun _ _ _ h => h) (Or.inl ⟨by rfl, ?_⟩) ?_ ?_
        rotate_left
        · intro w'
          go_simp
          with_reducible rfl
        rotate_left
        · simp only [Act.put, List.setIfInBounds_toArray, List.set_cons_zero, List.set_cons_succ, i64_w, i32_w]
          rfl
        refine pure_ (i := 15) (N := some 43) (v := ?_) (a' := ?_) #[true, true, true, true, true, true, true, true, true, true, true, true, true, true, true, true, false, true, true, true, true, true, false, false, false, false, true, true, true, true, true, false, false, false, false, false, false] rfl rfl (by kernel_rfl) (fun _ _ _ h => h) (Or.inl ⟨by rfl, ?_⟩) ?_ ?_
        rotate_left
        · intro w'
          go_simp
          with_reducible rfl
        rotate_left
        · simp only [Act.put, List.setIfInBounds_toArray, List.set_cons_zero, List.set_cons_succ, i64_w, i32_w]
          rfl
        refine pure_ (i := 16) (N := some 44) (v := ?_) (a' := ?_) #[true, true, true, true, true, true, true, true, true, true, true, true, true, true, true, true, true, true, true, true, true, true, false, false, false, false, true, true, true, true, true, false, false, false, false, false, false] rfl rfl (by kernel_rfl) (fun _ _ _ h => h) (Or.inl ⟨by rfl, ?_⟩) ?_ ?_
        rotate_left
        · intro w'
          go_simp
          with_reducible rfl
        rotate_left
        · simp only [Act.put, List.setIfInBounds_toArray, List.set_cons_zero, List.set_cons_succ, i64_w, i32_w]
          rfl
        refine take_ (i := 22) (N := some 50) (v := ?_) (a' := ?_) #[true, true, true, true, true, true, true, true, true, true, true, true, true, true, true, true, true, true, true, true, true, true, true, false, false, false, true, true, true, true, true, false, false, false, false, false, false] rfl rfl (by kernel_rfl) (fun _ _ _ h => h) (Or.inl ⟨by rfl, ?_⟩) hHeld ?_ ?_
        rotate_left
        · rintro w' ⟨s0, s1, s2, s3⟩
          go_simp
          with_reducible rfl
        rotate_left
        · simp only [Act.put, List.setIfInBounds_toArray, List.set_cons_zero, List.set_cons_succ, i64_w, i32_w]
          rfl
        refine pure_ (i := 23) (N := some 51) (v := ?_) (a' := ?_) #[true, true, true, true, true, true, true, true, true, true, true, true, true, true, true, true, true, true, true, true, true, true, true, true, false, false, true, true, true, true, true, false, false, false, false, false, false] rfl rfl (by kernel_rfl) (fun _ _ _ h => h) (Or.inl ⟨by rfl, ?_⟩) ?_ ?_
        rotate_left
        · intro w'
          go_simp
          with_reducible rfl
        rotate_left
        · simp only [Act.put, List.setIfInBounds_toArray, List.set_cons_zero, List.set_cons_succ, i64_w, i32_w]
          rfl
        refine pure_ (i := 24) (N := some 52) (v := ?_) (a' := ?_) #[true, true, true, true, true, true, true, true, true, true, true, true, true, true, true, true, true, true, true, true, true, true, true, true, true, false, true, true, true, true, true, false, false, false, false, false, false] rfl rfl (by kernel_rfl) (fun _ _ _ h => h) (Or.inl ⟨by rfl, ?_⟩) ?_ ?_
        rotate_left
        · intro w'
          go_simp
          with_reducible rfl
        rotate_left
        · simp only [Act.put, List.setIfInBounds_toArray, List.set_cons_zero, List.set_cons_succ, i64_w, i32_w]
          rfl
        refine pure_ (i := 25) (N := some 53) (v := ?_) (a' := ?_) #[true, true, true, true, true, true, true, true, true, true, true, true, true, true, true, true, true, true, true, true, true, true, true, true, true, true, true, true, true, true, true, false, false, false, false, false, false] rfl rfl (by kernel_rfl) (fun _ _ _ h => h) (Or.inl ⟨by rfl, ?_⟩) ?_ ?_
        rotate_left
        · intro w'
          go_simp
          with_reducible rfl
        rotate_left
        · simp only [Act.put, List.setIfInBounds_toArray, List.set_cons_zero, List.set_cons_succ, i64_w, i32_w]
          rfl
        refine take_ (i := 31) (N := some 59) (v := ?_) (a' := ?_) #[true, true, true, true, true, true, true, true, true, true, true, true, true, true, true, true, true, true, true, true, true, true, true, true, true, true, true, true, true, true, true, true, false, false, false, false, false] rfl rfl (by kernel_rfl) (fun _ _ _ h => h) (Or.inl ⟨by rfl, ?_⟩) hHeld ?_ ?_
        rotate_left
        · rintro w' ⟨s0, s1, s2, s3⟩
          go_simp
          with_reducible rfl
        rotate_left
        · simp only [Act.put, List.setIfInBounds_toArray, List.set_cons_zero, List.set_cons_succ, i64_w, i32_w]
          rfl
        refine pure_ (i := 32) (N := some 60) (v := ?_) (a' := ?_) #[true, true, true, true, true, true, true, true, true, true, true, true, true, true, true, true, true, true, true, true, true, true, true, true, true, true, true, true, true, true, true, true, true, false, false, false, false] rfl rfl (by kernel_rfl) (fun _ _ _ h => h) (Or.inl ⟨by rfl, ?_⟩) ?_ ?_
        rotate_left
        · intro w'
          go_simp
          with_reducible rfl
        rotate_left
        · simp only [Act.put, List.setIfInBounds_toArray, List.set_cons_zero, List.set_cons_succ, i64_w, i32_w]
          rfl
        refine pure_ (i := 33) (N := some 61) (v := ?_) (a' := ?_) #[true, true, true, true, true, true, true, true, true, true, true, true, true, true, true, true, true, true, true, true, true, true, true, true, true, true, true, true, true, true, true, true, true, true, false, false, false] rfl rfl (by kernel_rfl) (fun _ _ _ h => h) (Or.inl ⟨by rfl, ?_⟩) ?_ ?_
        rotate_left
        · intro w'
          go_simp
          with_reducible rfl
        rotate_left
        · simp only [Act.put, List.setIfInBounds_toArray, List.set_cons_zero, List.set_cons_succ, i64_w, i32_w]
          rfl
        refine one_ (i := 34) (N := some 62) #[true, true, true, true, true, true, true, true, true, true, true, true, true, true, true, true, true, true, true, true, true, true, true, true, true, true, true, true, true, true, true, true, true, true, true, false, false] rfl rfl (by kernel_rfl) (by decide) (fun K hK => ?_)
        have hh0 := hHeld
        refine lit_int_step (wrap64 (wrap64 (wrap64 (wrap64 (16777216 * wrap64 x0) + wrap64 (65536 * wrap64 x1)) + wrap64 (256 * wrap64 x2)) + wrap64 x3)) (by rfl) ?hr62 ?_
        case hr62 => first | (go_simp; done) | (go_simp; rfl)
        intro gl hgl w3 hbx hb
        have L3 := Aside0.mk hbx
        have Q3 := Aside0.mk (qi_below Q0.out hb)
        have X3 := Aside0.mk (blk_below X0.out hb)
        have Y3 := Aside0.mk (blk_below Y0.out hb)
        have B3 := Aside0.mk (below_step B0.out hb)
        have hh3 : w3.cell? ⟨b, o + q0, none⟩ = some (.int .u8 x0) ∧ w3.cell? ⟨b, o + q1, none⟩ = some (.int .u8 x1) ∧ w3.cell? ⟨b, o + q2, none⟩ = some (.int .u8 x2) ∧ w3.cell? ⟨b, o + q3, none⟩ = some (.int .u8 x3) := ⟨pw_cell_below hb hh0.1, pw_cell_below hb hh0.2.1, pw_cell_below hb hh0.2.2.1, pw_cell_below hb hh0.2.2.2⟩
        clear hgl hbx hb hh0
        refine hK.out _ _ ⟨hh3.1, hh3.2.1, hh3.2.2.1, hh3.2.2.2⟩ (fun hHeld => ?_)
        clear hK K
        refine norm_ (a' := ?_) ?_ ?_
        rotate_left
        · show Act.put _ (some 62) _ = _
          simp only [Act.put, List.setIfInBounds_toArray, List.set_cons_zero, List.set_cons_succ, i64_w, i32_w]
          rfl
        refine one_ (i := 35) (N := some 63) #[true, true, true, true, true, true, true, true, true, true, true, true, true, true, true, true, true, true, true, true, true, true, true, true, true, true, true, true, true, true, true, true, true, true, true, true, false] rfl rfl (by kernel_rfl) (by decide) (fun K hK => ?_)
        refine append_int_step (base := w.heap.size) (v := .slice A5 t c5) (rest := xs) (x := wrap64 (wrap64 (wrap64 (wrap64 (16777216 * wrap64 x0) + wrap64 (65536 * wrap64 x1)) + wrap64 (256 * wrap64 x2)) + wrap64 x3)) (g := gl) (by rfl) (.tmp 28) (.tmp 62) (by rfl) (by rfl) (by rfl) (by rw [HXL.out]; exact Q3.out) L3.out (by rw [HXL.out]; omega) B3.out.size ?_
        intro v4 w4 hq hg4 hat
        have hq1 : (xs ++ [wrap64 (wrap64 (wrap64 (wrap64 (16777216 * wrap64 x0) + wrap64 (65536 * wrap64 x1)) + wrap64 (256 * wrap64 x2)) + wrap64 x3)]).length = t + 1 := by rw [List.length_append, HXL.out]; rfl
        rw [hq1, show xs ++ [wrap64 (wrap64 (wrap64 (wrap64 (16777216 * wrap64 x0) + wrap64 (65536 * wrap64 x1)) + wrap64 (256 * wrap64 x2)) + wrap64 x3)] = wl l (t + 1) by rw [HX.out]; show _ = wl l t ++ [wnext l (wl l t) t]; unfold wnext; rw [if_pos h16, HBW.out]; congr 2; unfold wrap64; omega] at hq
        obtain ⟨A6, c6, hv4, _⟩ := q_slice hq
        subst hv4
        have Q4 := Aside0.mk hq
        have F4 := Frame.of_grown hg4
        have X4 := Aside0.mk (F4.blk X3.out (fun e => by obtain ⟨_, cc, hcc⟩ := q_typed Q3.out g2 e.symm; have := X3.out.symm.trans hcc; simp at this))
        have Y4 := Aside0.mk (F4.blk Y3.out (fun e => by obtain ⟨_, cc, hcc⟩ := q_typed Q3.out g4 e.symm; have := Y3.out.symm.trans hcc; simp at this))
        have B4 := Aside0.mk (B3.out.grown hg4 B3.out.size (fun j hj => (q_typed Q3.out j hj).1))
        have hh4 : w4.cell? ⟨b, o + q0, none⟩ = some (.int .u8 x0) ∧ w4.cell? ⟨b, o + q1, none⟩ = some (.int .u8 x1) ∧ w4.cell? ⟨b, o + q2, none⟩ = some (.int .u8 x2) ∧ w4.cell? ⟨b, o + q3, none⟩ = some (.int .u8 x3) := ⟨F4.cell hh3.1 (fun e => by have h1 := (q_typed Q3.out _ e.symm).1; have h2 : b < w.heap.size := World.block_lt_of_cell? w _ (HR.out 0 (by omega)); exact absurd h1 (by show ¬ w.heap.size ≤ b; omega)), F4.cell hh3.2.1 (fun e => by have h1 := (q_typed Q3.out _ e.symm).1; have h2 : b < w.heap.size := World.block_lt_of_cell? w _ (HR.out 0 (by omega)); exact absurd h1 (by show ¬ w.heap.size ≤ b; omega)), F4.cell hh3.2.2.1 (fun e => by have h1 := (q_typed Q3.out _ e.symm).1; have h2 : b < w.heap.size := World.block_lt_of_cell? w _ (HR.out 0 (by omega)); exact absurd h1 (by show ¬ w.heap.size ≤ b; omega)), F4.cell hh3.2.2.2 (fun e => by have h1 := (q_typed Q3.out _ e.symm).1; have h2 : b < w.heap.size := World.block_lt_of_cell? w _ (HR.out 0 (by omega)); exact absurd h1 (by show ¬ w.heap.size ≤ b; omega))⟩
        clear hq hq1 hg4 hat F4 hh3
        refine hK.out _ _ ⟨hh4.1, hh4.2.1, hh4.2.2.1, hh4.2.2.2⟩ (fun hHeld => ?_)
        clear hK K
        refine norm_ (a' := ?_) ?_ ?_
        rotate_left
        · show Act.put _ (some 63) _ = _
          simp only [Act.put, List.setIfInBounds_toArray, List.set_cons_zero, List.set_cons_succ, i64_w, i32_w]
          rfl
        refine pure_ (i := 36) (N := some 5) (v := ?_) (a' := ?_) #[true, true, true, true, true, true, true, true, true, true, true, true, true, true, true, true, true, true, true, true, true, true, true, true, true, true, true, true, true, true, true, true, true, true, true, true, true] rfl rfl (by kernel_rfl) (fun _ _ _ h => h) (Or.inl ⟨by rfl, ?_⟩) ?_ ?_
        rotate_left
        · intro w'
          go_simp
          with_reducible rfl
        rotate_left
        · simp only [Act.put, List.setIfInBounds_toArray, List.set_cons_zero, List.set_cons_succ, i64_w, i32_w]
          rfl
        refine done_ (by kernel_rfl) ?_
        go_wp2
        go_roundg (64 - (t + 1))
        case measure => have := HK.out; omega
        case rel => exact ⟨t + 1, A6, c6, wl l (t + 1), by omega, by go_num, rfl, ⟨rfl⟩, ⟨rfl⟩, Q4, X4, Y4, B4⟩
      · obtain ⟨m16, hm16⟩ : ∃ m, m + 16 = t := ⟨t - 16, by omega⟩
        obtain ⟨m15, hm15⟩ : ∃ m, m + 15 = t := ⟨t - 15, by omega⟩
        obtain ⟨m7, hm7⟩ : ∃ m, m + 7 = t := ⟨t - 7, by omega⟩
        obtain ⟨m2, hm2⟩ : ∃ m, m + 2 = t := ⟨t - 2, by omega⟩
        obtain ⟨g5, off5, rfl, hcc⟩ := qi_cell Q.out 0 (by rw [HXL.out]; omega)
        have CC := Aside0.mk hcc
        clear hcc
        have AW := Aside0.mk (show AllW xs by rw [HX.out]; exact wl_all l HA.out HL.out t (by omega))
        have z16 : 0 ≤ (m16 : Int) := by omega
        have l16 : (m16 : Int) < (t : Int) := by omega
        have z15 : 0 ≤ (m15 : Int) := by omega
        have l15 : (m15 : Int) < (t : Int) := by omega
        have z7 : 0 ≤ (m7 : Int) := by omega
        have l7 : (m7 : Int) < (t : Int) := by omega
        have z2 : 0 ≤ (m2 : Int) := by omega
        have l2 : (m2 : Int) < (t : Int) := by omega
        have i16 : wrap64 ((t : Int) - 16) = (m16 : Int) := by unfold wrap64; omega
        have i15 : wrap64 ((t : Int) - 15) = (m15 : Int) := by unfold wrap64; omega
        have i7 : wrap64 ((t : Int) - 7) = (m7 : Int) := by unfold wrap64; omega
        have i2 : wrap64 ((t : Int) - 2) = (m2 : Int) := by unfold wrap64; omega
        have e16 : IntKind.i64.wrap ((t : Int) - 16) = (m16 : Int) := (i64_w _).trans i16
        have e15 : IntKind.i64.wrap ((t : Int) - 15) = (m15 : Int) := (i64_w _).trans i15
        have e7 : IntKind.i64.wrap ((t : Int) - 7) = (m7 : Int) := (i64_w _).trans i7
        have e2 : IntKind.i64.wrap ((t : Int) - 2) = (m2 : Int) := (i64_w _).trans i2
        have s16 : (t : Int) - 16 = (m16 : Int) := by omega
        have s15 : (t : Int) - 15 = (m15 : Int) := by omega
        have s7 : (t : Int) - 7 = (m7 : Int) := by omega
        have s2 : (t : Int) - 2 = (m2 : Int) := by omega
        have hws := wsum_is (xs := xs) hm16 hm15 hm7 hm2
        have x16 := CC.out m16 (by rw [HXL.out]; omega)
        have x15 := CC.out m15 (by rw [HXL.out]; omega)
        have x7 := CC.out m7 (by rw [HXL.out]; omega)
        have x2 := CC.out m2 (by rw [HXL.out]; omega)
        have w16 := AW.out.at_ m16 (by rw [HXL.out]; omega)
        have w15 := AW.out.at_ m15 (by rw [HXL.out]; omega)
        have w7 := AW.out.at_ m7 (by rw [HXL.out]; omega)
        have w2_ := AW.out.at_ m2 (by rw [HXL.out]; omega)
        obtain ⟨y16, hy16⟩ : ∃ y, rd xs (m16 : Int) = y := ⟨_, rfl⟩
        obtain ⟨y15, hy15⟩ : ∃ y, rd xs (m15 : Int) = y := ⟨_, rfl⟩
        obtain ⟨y7, hy7⟩ : ∃ y, rd xs (m7 : Int) = y := ⟨_, rfl⟩
        obtain ⟨y2, hy2⟩ : ∃ y, rd xs (m2 : Int) = y := ⟨_, rfl⟩
        have HY16 := Aside0.mk hy16
        have HY7 := Aside0.mk hy7
        rw [hy16] at x16 w16 hws
        rw [hy15] at x15 w15 hws
        rw [hy7] at x7 w7 hws
        rw [hy2] at x2 w2_ hws
        have HXW := Aside0.mk w15
        have HYW := Aside0.mk w2_
        have HWS := Aside0.mk hws
        have HM := Aside0.mk (And.intro hm16 (And.intro hm15 (And.intro hm7 hm2)))
        obtain ⟨s0, hs0⟩ : ∃ s, Go.bits .xor .i64 (Go.bits .xor .i64 (tr y15 7) (tr y15 18)) (y15 / 8) = s := ⟨_, rfl⟩
        obtain ⟨s1, hs1⟩ : ∃ s, Go.bits .xor .i64 (Go.bits .xor .i64 (tr y2 17) (tr y2 19)) (y2 / 1024) = s := ⟨_, rfl⟩
        have HS0 := Aside0.mk (show sg0 y15 = s0 from (sg0_is w15).symm.trans hs0)
        have HS1 := Aside0.mk (show sg1 y2 = s1 from (sg1_is w2_).symm.trans hs1)
        have b0 : W32 s0 := by rw [← HS0.out]; exact w_sg0 w15
        have b1 : W32 s1 := by rw [← HS1.out]; exact w_sg1 w2_
        have HB01 := Aside0.mk (And.intro b0 (And.intro b1 (And.intro w16 w7)))
        clear hws hy16 hy15 hy7 hy2 hm16 hm15 hm7 hm2 w16 w15 w7 w2_ x16 x7 b0 b1
        go_wp2_with (go_at_call 20; refine (rturn_any (by first | exact HXW.out | exact HYW.out) (by decide) (by decide) _).mono ?_; rintro e w9 ⟨rfl, hm⟩; have hb := drew_below hm; have n_Q := Aside0.mk (qi_below Q.out hb); have n_X := Aside0.mk (blk_below X.out hb); have n_Y := Aside0.mk (blk_below Y.out hb); have n_C := Aside0.mk (fun j hj => pw_cell_below hb (CC.out j hj)); have n_B := Aside0.mk (below_step B.out hb); clear Q X Y CC B hm hb; have Q := n_Q; have X := n_X; have Y := n_Y; have CC := n_C; have B := n_B; clear n_Q n_X n_Y n_C n_B)
        have x16 := (CC.out m16 (by rw [HXL.out]; have := HM.out.1; omega))
        rw [HY16.out] at x16
        have x7 := (CC.out m7 (by rw [HXL.out]; have := HM.out.2.2.1; omega))
        rw [HY7.out] at x7
        clear hs0 hs1 x15 x2
        have r7 := wrap_nat (show m7 < 64 by have := HM.out; exact lt_of_lt_len this.2.2.1 hlt)
        have r16 := wrap_nat (show m16 < 64 by have := HM.out; exact lt_of_lt_len this.1 hlt)
        have Q0 := Aside0.mk (show QRow w9.drew w.heap.size 3 1 (.slice (some ⟨g5, off5, none⟩) t c5) t (nums .i64 xs) from Q.out)
        have X0 := Aside0.mk (blk_drew X.out)
        have Y0 := Aside0.mk (blk_drew Y.out)
        have B0 := Aside0.mk (below_drew1 B.out)
        refine start_ (n := 20) (S := fun w' => w'.cell? ⟨g5, off5 + m7, none⟩ = some (.int .i64 y7) ∧ w'.cell? ⟨g5, off5 + m16, none⟩ = some (.int .i64 y16)) (ds := [18]) #[false, false, false, false, false, false, false, false, false, false, false, false, false, false, false, false, false, false, false, false] (by kernel_rfl) rfl rfl ⟨x7, x16⟩ (fun hHeld => ?_)
        refine pure_ (i := 0) (N := some 90) (v := ?_) (a' := ?_) #[true, false, false, false, false, false, false, false, false, false, false, false, false, false, false, false, false, false, false, false] rfl rfl (by kernel_rfl) (fun _ _ _ h => h) (Or.inl ⟨by rfl, ?_⟩) ?_ ?_
        rotate_left
        · intro w'
          go_simp
          with_reducible rfl
        rotate_left
        · simp only [Act.put, List.setIfInBounds_toArray, List.set_cons_zero, List.set_cons_succ, i64_w, i32_w]
          rfl
        refine pure_ (i := 1) (N := some 91) (v := ?_) (a' := ?_) #[true, true, false, false, false, false, false, false, false, false, false, false, false, false, false, false, false, false, false, false] rfl rfl (by kernel_rfl) (fun _ _ _ h => h) (Or.inl ⟨by rfl, ?_⟩) ?_ ?_
        rotate_left
        · intro w'
          go_simp
          with_reducible rfl
        rotate_left
        · simp only [Act.put, List.setIfInBounds_toArray, List.set_cons_zero, List.set_cons_succ, i64_w, i32_w]
          rfl
        refine pure_ (i := 2) (N := some 92) (v := ?_) (a' := ?_) #[true, true, true, false, false, false, false, false, false, false, false, false, false, false, false, false, false, false, false, false] rfl rfl (by kernel_rfl) (fun _ _ _ h => h) (Or.inl ⟨by rfl, ?_⟩) ?_ ?_
        rotate_left
        · intro w'
          go_simp
          with_reducible rfl
        rotate_left
        · simp only [Act.put, List.setIfInBounds_toArray, List.set_cons_zero, List.set_cons_succ, i64_w, i32_w]
          rfl
        refine pure_ (i := 3) (N := some 93) (v := ?_) (a' := ?_) #[true, true, true, true, false, false, false, false, false, false, false, false, false, false, false, false, false, false, false, false] rfl rfl (by kernel_rfl) (fun _ _ _ h => h) (Or.inl ⟨by rfl, ?_⟩) ?_ ?_
        rotate_left
        · intro w'
          go_simp
          with_reducible rfl
        rotate_left
        · simp only [Act.put, List.setIfInBounds_toArray, List.set_cons_zero, List.set_cons_succ, i64_w, i32_w]
          rfl
        refine pure_ (i := 4) (N := some 94) (v := ?_) (a' := ?_) #[true, true, true, true, true, false, false, false, false, false, false, false, false, false, false, false, false, false, false, false] rfl rfl (by kernel_rfl) (fun _ _ _ h => h) (Or.inl ⟨by rfl, ?_⟩) ?_ ?_
        rotate_left
        · intro w'
          go_simp
          with_reducible rfl
        rotate_left
        · simp only [Act.put, List.setIfInBounds_toArray, List.set_cons_zero, List.set_cons_succ, i64_w, i32_w]
          rfl
        refine pure_ (i := 5) (N := some 95) (v := ?_) (a' := ?_) #[true, true, true, true, true, true, false, false, false, false, false, false, false, false, false, false, false, false, false, false] rfl rfl (by kernel_rfl) (fun _ _ _ h => h) (Or.inl ⟨by rfl, ?_⟩) ?_ ?_
        rotate_left
        · intro w'
          go_simp
          with_reducible rfl
        rotate_left
        · simp only [Act.put, List.setIfInBounds_toArray, List.set_cons_zero, List.set_cons_succ, i64_w, i32_w]
          rfl
        refine pure_ (i := 8) (N := some 98) (v := ?_) (a' := ?_) #[true, true, true, true, true, true, false, false, true, false, false, false, false, false, false, false, false, false, false, false] rfl rfl (by kernel_rfl) (fun _ _ _ h => h) (Or.inl ⟨by rfl, ?_⟩) ?_ ?_
        rotate_left
        · intro w'
          go_simp
          with_reducible rfl
        rotate_left
        · simp only [Act.put, List.setIfInBounds_toArray, List.set_cons_zero, List.set_cons_succ, i64_w, i32_w]
          rfl
        refine pure_ (i := 10) (N := some 100) (v := ?_) (a' := ?_) #[true, true, true, true, true, true, false, false, true, false, true, false, false, false, false, false, false, false, false, false] rfl rfl (by kernel_rfl) (fun _ _ _ h => h) (Or.inl ⟨by rfl, ?_⟩) ?_ ?_
        rotate_left
        · intro w'
          go_simp
          with_reducible rfl
        rotate_left
        · simp only [Act.put, List.setIfInBounds_toArray, List.set_cons_zero, List.set_cons_succ, i64_w, i32_w]
          rfl
        refine pure_ (i := 11) (N := some 101) (v := ?_) (a' := ?_) #[true, true, true, true, true, true, false, false, true, false, true, true, false, false, false, false, false, false, false, false] rfl rfl (by kernel_rfl) (fun _ _ _ h => h) (Or.inl ⟨by rfl, ?_⟩) ?_ ?_
        rotate_left
        · intro w'
          go_simp
          with_reducible rfl
        rotate_left
        · simp only [Act.put, List.setIfInBounds_toArray, List.set_cons_zero, List.set_cons_succ, i64_w, i32_w]
          rfl
        refine pure_ (i := 12) (N := some 102) (v := ?_) (a' := ?_) #[true, true, true, true, true, true, false, false, true, false, true, true, true, false, false, false, false, false, false, false] rfl rfl (by kernel_rfl) (fun _ _ _ h => h) (Or.inl ⟨by rfl, ?_⟩) ?_ ?_
        rotate_left
        · intro w'
          go_simp
          with_reducible rfl
        rotate_left
        · simp only [Act.put, List.setIfInBounds_toArray, List.set_cons_zero, List.set_cons_succ, i64_w, i32_w]
          rfl
        refine pure_ (i := 13) (N := some 103) (v := ?_) (a' := ?_) #[true, true, true, true, true, true, false, false, true, false, true, true, true, true, false, false, false, false, false, false] rfl rfl (by kernel_rfl) (fun _ _ _ h => h) (Or.inl ⟨by rfl, ?_⟩) ?_ ?_
        rotate_left
        · intro w'
          go_simp
          with_reducible rfl
        rotate_left
        · simp only [Act.put, List.setIfInBounds_toArray, List.set_cons_zero, List.set_cons_succ, i64_w, i32_w]
          rfl
        refine take_ (i := 6) (N := some 96) (v := ?_) (a' := ?_) #[true, true, true, true, true, true, true, false, true, false, true, true, true, true, false, false, false, false, false, false] rfl rfl (by kernel_rfl) (fun _ _ _ h => h) (Or.inl ⟨by rfl, ?_⟩) hHeld ?_ ?_
        rotate_left
        · rintro w' ⟨s0, s1⟩
          go_simp
          with_reducible rfl
        rotate_left
        · simp only [Act.put, List.setIfInBounds_toArray, List.set_cons_zero, List.set_cons_succ, i64_w, i32_w]
          rfl
        refine pure_ (i := 7) (N := some 97) (v := ?_) (a' := ?_) #[true, true, true, true, true, true, true, true, true, false, true, true, true, true, false, false, false, false, false, false] rfl rfl (by kernel_rfl) (fun _ _ _ h => h) (Or.inl ⟨by rfl, ?_⟩) ?_ ?_
        rotate_left
        · intro w'
          go_simp
          with_reducible rfl
        rotate_left
        · simp only [Act.put, List.setIfInBounds_toArray, List.set_cons_zero, List.set_cons_succ, i64_w, i32_w]
          rfl
        refine pure_ (i := 9) (N := some 99) (v := ?_) (a' := ?_) #[true, true, true, true, true, true, true, true, true, true, true, true, true, true, false, false, false, false, false, false] rfl rfl (by kernel_rfl) (fun _ _ _ h => h) (Or.inl ⟨by rfl, ?_⟩) ?_ ?_
        rotate_left
        · intro w'
          go_simp
          with_reducible rfl
        rotate_left
        · simp only [Act.put, List.setIfInBounds_toArray, List.set_cons_zero, List.set_cons_succ, i64_w, i32_w]
          rfl
        refine take_ (i := 14) (N := some 104) (v := ?_) (a' := ?_) #[true, true, true, true, true, true, true, true, true, true, true, true, true, true, true, false, false, false, false, false] rfl rfl (by kernel_rfl) (fun _ _ _ h => h) (Or.inl ⟨by rfl, ?_⟩) hHeld ?_ ?_
        rotate_left
        · rintro w' ⟨s0, s1⟩
          go_simp
          with_reducible rfl
        rotate_left
        · simp only [Act.put, List.setIfInBounds_toArray, List.set_cons_zero, List.set_cons_succ, i64_w, i32_w]
          rfl
        refine pure_ (i := 15) (N := some 105) (v := ?_) (a' := ?_) #[true, true, true, true, true, true, true, true, true, true, true, true, true, true, true, true, false, false, false, false] rfl rfl (by kernel_rfl) (fun _ _ _ h => h) (Or.inl ⟨by rfl, ?_⟩) ?_ ?_
        rotate_left
        · intro w'
          go_simp
          with_reducible rfl
        rotate_left
        · simp only [Act.put, List.setIfInBounds_toArray, List.set_cons_zero, List.set_cons_succ, i64_w, i32_w]
          rfl
        refine pure_ (i := 16) (N := some 106) (v := ?_) (a' := ?_) #[true, true, true, true, true, true, true, true, true, true, true, true, true, true, true, true, true, false, false, false] rfl rfl (by kernel_rfl) (fun _ _ _ h => h) (Or.inl ⟨by rfl, ?_⟩) ?_ ?_
        rotate_left
        · intro w'
          go_simp
          with_reducible rfl
        rotate_left
        · simp only [Act.put, List.setIfInBounds_toArray, List.set_cons_zero, List.set_cons_succ, i64_w, i32_w]
          rfl
        refine one_ (i := 17) (N := some 107) #[true, true, true, true, true, true, true, true, true, true, true, true, true, true, true, true, true, true, false, false] rfl rfl (by kernel_rfl) (by decide) (fun K hK => ?_)
        have hh0 := hHeld
        refine lit_int_step ((wrap64 (wrap64 (wrap64 (s1 + y7) + s0) + y16)).tmod 4294967296) (by rfl) ?hr107 ?_
        case hr107 => first | (go_simp; done) | (go_simp; rfl)
        intro gl hgl w3 hbx hb
        have L3 := Aside0.mk hbx
        have Q3 := Aside0.mk (qi_below Q0.out hb)
        have X3 := Aside0.mk (blk_below X0.out hb)
        have Y3 := Aside0.mk (blk_below Y0.out hb)
        have B3 := Aside0.mk (below_step B0.out hb)
        have hh3 : w3.cell? ⟨g5, off5 + m7, none⟩ = some (.int .i64 y7) ∧ w3.cell? ⟨g5, off5 + m16, none⟩ = some (.int .i64 y16) := ⟨pw_cell_below hb hh0.1, pw_cell_below hb hh0.2⟩
        clear hgl hbx hb hh0
        refine hK.out _ _ ⟨hh3.1, hh3.2⟩ (fun hHeld => ?_)
        clear hK K
        refine norm_ (a' := ?_) ?_ ?_
        rotate_left
        · show Act.put _ (some 107) _ = _
          simp only [Act.put, List.setIfInBounds_toArray, List.set_cons_zero, List.set_cons_succ, i64_w, i32_w]
          rfl
        refine last_ (i := 18) (N := some 108) #[true, true, true, true, true, true, true, true, true, true, true, true, true, true, true, true, true, true, true, false] rfl rfl (by kernel_rfl) (by decide) (fun K hK => ?_)
        clear i16 i15 i7 i2 e16 e15 e7 e2 s16 s15 s7 s2 r7 r16
        refine append_int_step (base := w.heap.size) (v := .slice (some ⟨g5, off5, none⟩) t c5) (rest := xs) (x := (wrap64 (wrap64 (wrap64 (s1 + y7) + s0) + y16)).tmod 4294967296) (g := gl) (by rfl) (.tmp 90) (.tmp 107) (by rfl) (by rfl) (by rfl) (by rw [HXL.out]; exact Q3.out) L3.out HX1.out B3.out.size ?_
        intro v4 w4 hq hg4 hat
        have hq1 : (xs ++ [(wrap64 (wrap64 (wrap64 (s1 + y7) + s0) + y16)).tmod 4294967296]).length = t + 1 := by rw [List.length_append, HXL.out]; rfl
        have hq2 : xs ++ [(wrap64 (wrap64 (wrap64 (s1 + y7) + s0) + y16)).tmod 4294967296] = wl l (t + 1) := by
          rw [show wl l (t + 1) = wl l t ++ [wnext l (wl l t) t] from rfl, ← HX.out]
          unfold wnext
          rw [if_neg h16, HWS.out, HS0.out, HS1.out, wsum_val HB01.out.2.1 HB01.out.2.2.2 HB01.out.1 HB01.out.2.2.1]
        rw [hq1, hq2] at hq
        obtain ⟨A6, c6, hv4, _⟩ := q_slice hq
        subst hv4
        have Q4 := Aside0.mk hq
        have F4 := Frame.of_grown hg4
        have X4 := Aside0.mk (F4.blk X3.out (fun e => by obtain ⟨_, cc, hcc⟩ := q_typed Q3.out g2 e.symm; have := X3.out.symm.trans hcc; simp at this))
        have Y4 := Aside0.mk (F4.blk Y3.out (fun e => by obtain ⟨_, cc, hcc⟩ := q_typed Q3.out g4 e.symm; have := Y3.out.symm.trans hcc; simp at this))
        have B4 := Aside0.mk (B3.out.grown hg4 B3.out.size (fun j hj => (q_typed Q3.out j hj).1))
        clear hq hq1 hq2 hg4 hat F4 hh3
        refine hK.out _ _ ?_
        clear hK K
        refine norm_ (a' := ?_) ?_ ?_
        rotate_left
        · show Act.put _ (some 108) _ = _
          simp only [Act.put, List.setIfInBounds_toArray, List.set_cons_zero, List.set_cons_succ, i64_w, i32_w]
          rfl
        refine pure_ (i := 19) (N := some 5) (v := ?_) (a' := ?_) #[true, true, true, true, true, true, true, true, true, true, true, true, true, true, true, true, true, true, true, true] rfl rfl (by kernel_rfl) (fun _ _ _ h => h) (Or.inl ⟨by rfl, ?_⟩) ?_ ?_
        rotate_left
        · intro w'
          go_simp
          with_reducible rfl
        rotate_left
        · simp only [Act.put, List.setIfInBounds_toArray, List.set_cons_zero, List.set_cons_succ, i64_w, i32_w]
          rfl
        refine done_ (by kernel_rfl) ?_
        go_wp2
        go_roundg (64 - (t + 1))
        case measure => have := HK.out; omega
        case rel => exact ⟨t + 1, A6, c6, wl l (t + 1), by omega, by go_num, rfl, ⟨rfl⟩, ⟨rfl⟩, Q4, X4, Y4, B4⟩
    · have ht64 : t = 64 := by omega
      subst ht64
      clear hlt ht
      obtain ⟨g5, off5, hA5, hcc⟩ := qi_cell Q.out 0 (by rw [HXL.out]; omega)
      subst hA5
      have CC := Aside0.mk hcc
      have AW := Aside0.mk (show AllW xs by rw [HX.out]; exact wl_all l HA.out HL.out 64 (by omega))
      clear hcc
      go_wp2_with ((with_reducible refine gate_dst (N := 109) rfl ?_); refine stop_here ?_)
      refine ⟨?_⟩
      refine wpList_load_row rfl 37 (.tmp 2) rfl g2 rfl 37 ⟨nums .i64 h⟩ (0, 0) _ X.out Try.underlying37 rfl (by rw [i64s_size _ HH.out]; rfl) ?_
      go_wp2_with ((with_reducible refine gate_dst (N := 11) rfl ?_); refine stop_here ?_)
      refine ⟨?_⟩
      refine box_event rfl (N := 11) rfl (cs := ⟨nums .i64 (zeros 8)⟩) (t := 37) ?hr11 ?_
      case hr11 => first | (go_simp; done) | (go_simp; rfl)
      intro g11 hg w3 hbox hb
      have G11 := Aside0.mk (show w.heap.size ≤ g11 by rw [hg]; exact B.out.size)
      have N2 := Aside0.mk (show g2 ≠ g11 by have := blk_lt X.out; omega)
      have N4 := Aside0.mk (show g4 ≠ g11 by have := blk_lt Y.out; omega)
      have N5 := Aside0.mk (show g5 ≠ g11 by have h9 : g5 < wr.heap.size := World.block_lt_of_cell? wr _ (CC.out 0 (by rw [HXL.out]; omega)); omega)
      have V3 := Aside0.mk hbox
      have X3 := Aside0.mk (blk_below X.out hb)
      have Y3 := Aside0.mk (blk_below Y.out hb)
      have C3 := Aside0.mk (fun j hj => pw_cell_below hb (CC.out j hj))
      have B3 := Aside0.mk (below_step B.out hb)
      clear hg hbox hb X Y Q CC B
      go_wp2_with ((with_reducible refine gate_store (t := 37) (p := 11) rfl ?_); refine stop_here ?_)
      refine ⟨?_⟩
      refine row_event rfl 37 (.tmp 11) (.tmp 109) rfl g11 ⟨nums .i64 h⟩ rfl rfl 37 _ V3.out (by rw [i64s_size _ HH.out]; rfl) (by rw [i64s_size _ HH.out]; rfl) (i64s_one _) ?_
      intro w4 hp
      have V := Aside0.mk hp.here
      have X := Aside0.mk (hp.far N2.out X3.out)
      have Y := Aside0.mk (hp.far N4.out Y3.out)
      have B := Aside0.mk (hp.below B3.out G11.out)
      have CC := Aside0.mk (show ∀ j, j < xs.length → w4.cell? ⟨g5, off5 + j, none⟩ = some (.int .i64 (rd xs (j : Int))) from fun j hj => cell_put hp N5.out (C3.out j hj))
      clear hp V3 X3 Y3 C3 B3
      go_wp2
      go_loopg [12] 64 (fun kq v12 w' => ∃ (t : Nat) (v : List Int), t ≤ 64 ∧ v12 = .int .i64 (t : Int) ∧ Aside0 (kq = 64 - t) ∧ Aside0 (v = vl xs h t) ∧ Aside0 (w'.heap[g11]? = some (.cells ⟨nums .i64 v⟩ 37 (0, 0))) ∧ Aside0 (w'.heap[g2]? = some (.cells ⟨nums .i64 h⟩ 37 (0, 0))) ∧ Aside0 (w'.heap[g4]? = some (.cells ⟨nums .i64 (zeros 8)⟩ 37 (0, 0))) ∧ Aside0 (∀ j, j < xs.length → w'.cell? ⟨g5, off5 + j, none⟩ = some (.int .i64 (rd xs (j : Int)))) ∧ Aside0 (Below w.heap.size w w'))
      case atStart => exact ⟨0, h, by omega, rfl, ⟨rfl⟩, ⟨rfl⟩, V, X, Y, CC, B⟩
      case round =>
        clear V X Y CC B
        obtain ⟨t, v, ht, rfl, HK, HV, V, X, Y, CC, B⟩ := hrel
        have AV := Aside0.mk (show AllW v by rw [HV.out]; exact vl_all xs h HW.out t)
        have LV := Aside0.mk (show v.length = 8 by rw [HV.out]; exact vl_length xs h HH.out t)
        by_cases hlt : t < 64
        · obtain ⟨v0, v1, v2, v3, v4, v5, v6, v7, hv8⟩ : ∃ v0 v1 v2 v3 v4 v5 v6 v7, v = [v0, v1, v2, v3, v4, v5, v6, v7] := by
            match v, LV.out with
            | [a, b, c, d, e, f, g, i], _ => exact ⟨a, b, c, d, e, f, g, i, rfl⟩
          subst hv8
          have K0 : W32 v0 := AV.out v0 (by simp)
          have K1 : W32 v1 := AV.out v1 (by simp)
          have K2 : W32 v2 := AV.out v2 (by simp)
          have K3 : W32 v3 := AV.out v3 (by simp)
          have K4 : W32 v4 := AV.out v4 (by simp)
          have K5 : W32 v5 := AV.out v5 (by simp)
          have K6 : W32 v6 := AV.out v6 (by simp)
          have K7 : W32 v7 := AV.out v7 (by simp)
          have hkw := (rkay_f hlt).2
          have hwt := AW.out.at_ t (by rw [HXL.out]; exact hlt)
          have xt := CC.out t (by rw [HXL.out]; exact hlt)
          obtain ⟨wt, hwt_⟩ : ∃ y, rd xs (t : Int) = y := ⟨_, rfl⟩
          rw [hwt_] at hwt xt
          have HWT := Aside0.mk hwt_
          clear hwt_
          have c0 := (blk_cell V.out 0).trans (show _ = some (Value.int .i64 v0) from rfl)
          have c1 := (blk_cell V.out 1).trans (show _ = some (Value.int .i64 v1) from rfl)
          have c2 := (blk_cell V.out 2).trans (show _ = some (Value.int .i64 v2) from rfl)
          have c3 := (blk_cell V.out 3).trans (show _ = some (Value.int .i64 v3) from rfl)
          have c4 := (blk_cell V.out 4).trans (show _ = some (Value.int .i64 v4) from rfl)
          have c5_ := (blk_cell V.out 5).trans (show _ = some (Value.int .i64 v5) from rfl)
          have c6 := (blk_cell V.out 6).trans (show _ = some (Value.int .i64 v6) from rfl)
          have c7 := (blk_cell V.out 7).trans (show _ = some (Value.int .i64 v7) from rfl)
          have zt : 0 ≤ (t : Int) := by omega
          have lt : (t : Int) < 64 := by omega
          obtain ⟨ne, hne⟩ : ∃ e, 4294967295 - v4 = e := ⟨_, rfl⟩
          have KN : W32 ne := by rw [← hne]; unfold W32 at *; omega
          have HNE := Aside0.mk hne
          have en := (i64_w (4294967295 - v4)).trans (wrap_id (by rw [hne]; exact KN.1) (by rw [hne]; have := KN.2; omega)) |>.trans hne
          have wn := (wrap_id (x := 4294967295 - v4) (by rw [hne]; exact KN.1) (by rw [hne]; have := KN.2; omega)).trans hne
          obtain ⟨s1, hs1⟩ : ∃ s, Go.bits .xor .i64 (Go.bits .xor .i64 (tr v4 6) (tr v4 11)) (tr v4 25) = s := ⟨_, rfl⟩
          obtain ⟨ch, hch⟩ : ∃ s, Go.bits .xor .i64 (Go.bits .and .u32 v4 v5) (Go.bits .and .u32 ne v6) = s := ⟨_, rfl⟩
          obtain ⟨s0, hs0⟩ : ∃ s, Go.bits .xor .i64 (Go.bits .xor .i64 (tr v0 2) (tr v0 13)) (tr v0 22) = s := ⟨_, rfl⟩
          obtain ⟨ma, hma⟩ : ∃ s, Go.bits .xor .i64 (Go.bits .xor .i64 (Go.bits .and .u32 v0 v1) (Go.bits .and .u32 v0 v2)) (Go.bits .and .u32 v1 v2) = s := ⟨_, rfl⟩
          have P1 := Aside0.mk ((big_is K4 (by decide) (by decide) (by decide)).1.symm.trans hs1)
          have P0 := Aside0.mk ((big_is K0 (by decide) (by decide) (by decide)).1.symm.trans hs0)
          have PC := Aside0.mk (show ch = Go.bits .xor .u32 (Go.bits .and .u32 v4 v5) (Go.bits .and .u32 (4294967295 - v4) v6) by rw [← hch, hne, xor_i64 (w_and K4 K5) (w_and KN K6)])
          have PM := Aside0.mk (show ma = Go.bits .xor .u32 (Go.bits .xor .u32 (Go.bits .and .u32 v0 v1) (Go.bits .and .u32 v0 v2)) (Go.bits .and .u32 v1 v2) by rw [← hma, xor_i64 (w_and K0 K1) (w_and K0 K2), xor_i64 (w_xor (w_and K0 K1) (w_and K0 K2)) (w_and K1 K2)])
          have hxv := xv_is K4 K5 K6 K7 hkw hwt P1.out.symm PC.out
          have hyv := yv_is K0 K1 K2 P0.out.symm PM.out
          have KA := Aside0.mk (And.intro K0 (And.intro K1 (And.intro K2 (And.intro K3 (And.intro K4 (And.intro K5 (And.intro K6 (And.intro K7 KN))))))))
          have HXV := Aside0.mk hxv
          have HYV := Aside0.mk hyv
          clear hne hxv hyv K0 K1 K2 K3 K4 K5 K6 K7 KN hkw hwt
          obtain ⟨x, hxx⟩ : ∃ x, (wrap64 (wrap64 (wrap64 (wrap64 (v7 + s1) + ch) + kay t) + wt)).tmod 4294967296 = x := ⟨_, rfl⟩
          obtain ⟨y, hyy⟩ : ∃ x, (wrap64 (s0 + ma)).tmod 4294967296 = x := ⟨_, rfl⟩
          have PX := Aside0.mk (show x = xv v4 v5 v6 v7 (kay t) wt ∧ W32 (xv v4 v5 v6 v7 (kay t) wt) from ⟨hxx.symm.trans HXV.out.1, HXV.out.2⟩)
          have PY := Aside0.mk (show y = yv v0 v1 v2 % 4294967296 from hyy.symm.trans HYV.out)
          go_upto_region 19 with (first | (go_at_call 20; refine (rturn_any (by first | exact KA.out.2.2.2.2.1 | exact KA.out.1) (by decide) (by decide) _).mono ?_; rintro e w9 ⟨rfl, hm⟩; have hb := drew_below hm; clear hm; replace c0 := pw_cell_below hb c0; replace c1 := pw_cell_below hb c1; replace c2 := pw_cell_below hb c2; replace c3 := pw_cell_below hb c3; replace c4 := pw_cell_below hb c4; replace c5_ := pw_cell_below hb c5_; replace c6 := pw_cell_below hb c6; replace c7 := pw_cell_below hb c7; replace xt := pw_cell_below hb xt; have n_V := Aside0.mk (blk_below V.out hb); have n_X := Aside0.mk (blk_below X.out hb); have n_Y := Aside0.mk (blk_below Y.out hb); have n_C := Aside0.mk (fun j hj => pw_cell_below hb (CC.out j hj)); have n_B := Aside0.mk (below_step B.out hb); clear V X Y CC B hb; have V := n_V; have X := n_X; have Y := n_Y; have CC := n_C; have B := n_B; clear n_V n_X n_Y n_C n_B))
          go_quiet (((go_at_call 21; exact Calls.quiet_of (rboth_calls (by first | exact KA.out.2.2.2.2.1 | exact KA.out.2.2.2.2.2.2.2.2 | exact KA.out.1 | exact KA.out.2.1) (by first | exact KA.out.2.2.2.2.2.1 | exact KA.out.2.2.2.2.2.2.1 | exact KA.out.2.1 | exact KA.out.2.2.1) _))))
          have hb := pw_below_drewN (Below.refl w9.heap.size w9) nq
          obtain ⟨wa, hw⟩ : ∃ w', w9.drewN nq = w' := ⟨_, rfl⟩
          rw [hw] at hb ⊢
          clear hw
          replace c0 := pw_cell_below hb c0; replace c1 := pw_cell_below hb c1; replace c2 := pw_cell_below hb c2; replace c3 := pw_cell_below hb c3; replace c4 := pw_cell_below hb c4; replace c5_ := pw_cell_below hb c5_; replace c6 := pw_cell_below hb c6; replace c7 := pw_cell_below hb c7; replace xt := pw_cell_below hb xt; have n_V := Aside0.mk (blk_below V.out hb); have n_X := Aside0.mk (blk_below X.out hb); have n_Y := Aside0.mk (blk_below Y.out hb); have n_C := Aside0.mk (fun j hj => pw_cell_below hb (CC.out j hj)); have n_B := Aside0.mk (below_step B.out hb); clear V X Y CC B hb; have V := n_V; have X := n_X; have Y := n_Y; have CC := n_C; have B := n_B; clear n_V n_X n_Y n_C n_B
          go_wp2
          go_quiet (((go_at_call 15; exact Calls.quiet_of (rkay_calls t hlt C HC _))))
          have hb := pw_below_drewN (Below.refl wa.heap.size wa) nq
          obtain ⟨wb, hw⟩ : ∃ w', wa.drewN nq = w' := ⟨_, rfl⟩
          rw [hw] at hb ⊢
          clear hw
          replace c0 := pw_cell_below hb c0; replace c1 := pw_cell_below hb c1; replace c2 := pw_cell_below hb c2; replace c3 := pw_cell_below hb c3; replace c4 := pw_cell_below hb c4; replace c5_ := pw_cell_below hb c5_; replace c6 := pw_cell_below hb c6; replace c7 := pw_cell_below hb c7; replace xt := pw_cell_below hb xt; have n_V := Aside0.mk (blk_below V.out hb); have n_X := Aside0.mk (blk_below X.out hb); have n_Y := Aside0.mk (blk_below Y.out hb); have n_C := Aside0.mk (fun j hj => pw_cell_below hb (CC.out j hj)); have n_B := Aside0.mk (below_step B.out hb); clear V X Y CC B hb; have V := n_V; have X := n_X; have Y := n_Y; have CC := n_C; have B := n_B; clear n_V n_X n_Y n_C n_B
          go_upto_region 22 with (first | (go_at_call 20; refine (rturn_any (by first | exact KA.out.2.2.2.2.1 | exact KA.out.1) (by decide) (by decide) _).mono ?_; rintro e w9 ⟨rfl, hm⟩; have hb := drew_below hm; clear hm; replace c0 := pw_cell_below hb c0; replace c1 := pw_cell_below hb c1; replace c2 := pw_cell_below hb c2; replace c3 := pw_cell_below hb c3; replace c4 := pw_cell_below hb c4; replace c5_ := pw_cell_below hb c5_; replace c6 := pw_cell_below hb c6; replace c7 := pw_cell_below hb c7; replace xt := pw_cell_below hb xt; have n_V := Aside0.mk (blk_below V.out hb); have n_X := Aside0.mk (blk_below X.out hb); have n_Y := Aside0.mk (blk_below Y.out hb); have n_C := Aside0.mk (fun j hj => pw_cell_below hb (CC.out j hj)); have n_B := Aside0.mk (below_step B.out hb); clear V X Y CC B hb; have V := n_V; have X := n_X; have Y := n_Y; have CC := n_C; have B := n_B; clear n_V n_X n_Y n_C n_B))
          go_quiet (((go_at_call 21; exact Calls.quiet_of (rboth_calls (by first | exact KA.out.2.2.2.2.1 | exact KA.out.2.2.2.2.2.2.2.2 | exact KA.out.1 | exact KA.out.2.1) (by first | exact KA.out.2.2.2.2.2.1 | exact KA.out.2.2.2.2.2.2.1 | exact KA.out.2.1 | exact KA.out.2.2.1) _))))
          have hb := pw_below_drewN (Below.refl w9.heap.size w9) nq
          obtain ⟨wc, hw⟩ : ∃ w', w9.drewN nq = w' := ⟨_, rfl⟩
          rw [hw] at hb ⊢
          clear hw
          replace c0 := pw_cell_below hb c0; replace c1 := pw_cell_below hb c1; replace c2 := pw_cell_below hb c2; replace c3 := pw_cell_below hb c3; replace c4 := pw_cell_below hb c4; replace c5_ := pw_cell_below hb c5_; replace c6 := pw_cell_below hb c6; replace c7 := pw_cell_below hb c7; replace xt := pw_cell_below hb xt; have n_V := Aside0.mk (blk_below V.out hb); have n_X := Aside0.mk (blk_below X.out hb); have n_Y := Aside0.mk (blk_below Y.out hb); have n_C := Aside0.mk (fun j hj => pw_cell_below hb (CC.out j hj)); have n_B := Aside0.mk (below_step B.out hb); clear V X Y CC B hb; have V := n_V; have X := n_X; have Y := n_Y; have CC := n_C; have B := n_B; clear n_V n_X n_Y n_C n_B
          go_wp2_with ((with_reducible refine gate_store (t := 37) (p := 11) rfl ?_); refine stop_here ?_)
          refine ⟨?_⟩
          refine row_event rfl 37 (.tmp 11) (.tmp 199) rfl g11 ⟨nums .i64 [(wrap64 (x + y)).tmod 4294967296, v0, v1, v2, (wrap64 (v3 + x)).tmod 4294967296, v4, v5, v6]⟩ rfl rfl 37 _ V.out rfl rfl (i64s_one _) ?_
          intro wd hp
          have Vd := Aside0.mk hp.here
          have Xd := Aside0.mk (hp.far N2.out X.out)
          have Yd := Aside0.mk (hp.far N4.out Y.out)
          have Bd := Aside0.mk (hp.below B.out G11.out)
          have Cd := Aside0.mk (show ∀ j, j < xs.length → wd.cell? ⟨g5, off5 + j, none⟩ = some (.int .i64 (rd xs (j : Int))) from fun j hj => cell_put hp N5.out (CC.out j hj))
          have hv9 : vl xs h (t + 1) = [(wrap64 (x + y)).tmod 4294967296, v0, v1, v2, (wrap64 (v3 + x)).tmod 4294967296, v4, v5, v6] := by
            rw [vnew_is PX.out.1 PX.out.2 PY.out, vnew2_is KA.out.2.2.2.1 PX.out.1 PX.out.2]
            show vstep (vl xs h t) (kay t) (rd xs (t : Int)) = _
            rw [← HV.out, HWT.out]; rfl
          have HV9 := Aside0.mk hv9
          clear hp V X Y CC B hs1 hch hs0 hma hxx hyy en wn hv9 c0 c1 c2 c3 c4 c5_ c6 c7 xt
          go_wp2
          go_roundg (64 - (t + 1))
          case measure => have := HK.out; omega
          case rel => exact ⟨t + 1, _, by omega, by go_num, ⟨rfl⟩, ⟨rfl⟩, by rw [HV9.out]; exact Vd, Xd, Yd, Cd, Bd⟩
        · have ht64 : t = 64 := by omega
          subst ht64
          clear hlt ht CC AW
          go_wp2
          go_loopg [21] 8 (fun kq v21 w' => ∃ (j : Nat), j ≤ 8 ∧ v21 = .int .i64 (j : Int) ∧ Aside0 (kq = 8 - j) ∧ Aside0 (w'.heap[g11]? = some (.cells ⟨nums .i64 (addN v h j)⟩ 37 (0, 0))) ∧ Aside0 (w'.heap[g2]? = some (.cells ⟨nums .i64 h⟩ 37 (0, 0))) ∧ Aside0 (w'.heap[g4]? = some (.cells ⟨nums .i64 (zeros 8)⟩ 37 (0, 0))) ∧ Aside0 (Below w.heap.size w w'))
          case atStart => exact ⟨0, by omega, rfl, ⟨rfl⟩, V, X, Y, B⟩
          case round =>
            clear V X Y B
            obtain ⟨j, hj, rfl, HK, V, X, Y, B⟩ := hrel
            have LA := Aside0.mk (show (addN v h j).length = 8 by rw [addN_length]; exact LV.out)
            by_cases hlt : j < 8
            · have zt : 0 ≤ (j : Int) := by omega
              have lt : (j : Int) < 8 := by omega
              have cp := (blk_cell V.out j).trans (i64s_at (addN v h j) (show j < (addN v h j).length by rw [LA.out]; exact hlt))
              have cq := (blk_cell X.out j).trans (i64s_at h (show j < h.length by rw [HH.out]; exact hlt))
              have fp := blk_frozen V.out j
              have kp := (addN_all (v := h) AV.out j).at_ j (by rw [LA.out]; exact hlt)
              have kq_ := HW.out.at_ j (by rw [HH.out]; exact hlt)
              have hst := sum_tmod kp kq_
              have HST := Aside0.mk hst
              have V0 := Aside0.mk (blk_drew V.out)
              have X0 := Aside0.mk (blk_drew X.out)
              have Y0 := Aside0.mk (blk_drew Y.out)
              have B0 := Aside0.mk (below_drew1 B.out)
              obtain ⟨p, hp⟩ : ∃ p, rd (addN v h j) (j : Int) = p := ⟨_, rfl⟩
              obtain ⟨q, hq⟩ : ∃ p, rd h (j : Int) = p := ⟨_, rfl⟩
              rw [hp] at cp
              rw [hq] at cq
              have HP := Aside0.mk hp
              have HQ := Aside0.mk hq
              clear hp hq hst kp kq_
              go_wp2
              refine start_ (n := 11) (S := fun w' => w'.cell? ⟨g11, j, none⟩ = some (.int .i64 p) ∧ w'.cell? ⟨g2, j, none⟩ = some (.int .i64 q)) (ds := [10]) #[false, false, false, false, false, false, false, false, false, false, false] (by kernel_rfl) rfl rfl ⟨cp, cq⟩ (fun hHeld => ?_)
              refine pure_ (i := 0) (N := some 204) (v := ?_) (a' := ?_) #[true, false, false, false, false, false, false, false, false, false, false] rfl rfl (by kernel_rfl) (fun _ _ _ h => h) (Or.inl ⟨by rfl, ?_⟩) ?_ ?_
              rotate_left
              · intro w'
                go_simp
                with_reducible rfl
              rotate_left
              · simp only [Act.put, List.setIfInBounds_toArray, List.set_cons_zero, List.set_cons_succ, i64_w, i32_w]
                rfl
              refine pure_ (i := 1) (N := some 205) (v := ?_) (a' := ?_) #[true, true, false, false, false, false, false, false, false, false, false] rfl rfl (by kernel_rfl) (fun _ _ _ h => h) (Or.inl ⟨by rfl, ?_⟩) ?_ ?_
              rotate_left
              · intro w'
                go_simp
                with_reducible rfl
              rotate_left
              · simp only [Act.put, List.setIfInBounds_toArray, List.set_cons_zero, List.set_cons_succ, i64_w, i32_w]
                rfl
              refine pure_ (i := 2) (N := some 206) (v := ?_) (a' := ?_) #[true, true, true, false, false, false, false, false, false, false, false] rfl rfl (by kernel_rfl) (fun _ _ _ h => h) (Or.inl ⟨by rfl, ?_⟩) ?_ ?_
              rotate_left
              · intro w'
                go_simp
                with_reducible rfl
              rotate_left
              · simp only [Act.put, List.setIfInBounds_toArray, List.set_cons_zero, List.set_cons_succ, i64_w, i32_w]
                rfl
              refine pure_ (i := 4) (N := some 208) (v := ?_) (a' := ?_) #[true, true, true, false, true, false, false, false, false, false, false] rfl rfl (by kernel_rfl) (fun _ _ _ h => h) (Or.inl ⟨by rfl, ?_⟩) ?_ ?_
              rotate_left
              · intro w'
                go_simp
                with_reducible rfl
              rotate_left
              · simp only [Act.put, List.setIfInBounds_toArray, List.set_cons_zero, List.set_cons_succ, i64_w, i32_w]
                rfl
              refine pure_ (i := 5) (N := some 209) (v := ?_) (a' := ?_) #[true, true, true, false, true, true, false, false, false, false, false] rfl rfl (by kernel_rfl) (fun _ _ _ h => h) (Or.inl ⟨by rfl, ?_⟩) ?_ ?_
              rotate_left
              · intro w'
                go_simp
                with_reducible rfl
              rotate_left
              · simp only [Act.put, List.setIfInBounds_toArray, List.set_cons_zero, List.set_cons_succ, i64_w, i32_w]
                rfl
              refine take_ (i := 3) (N := some 207) (v := ?_) (a' := ?_) #[true, true, true, true, true, true, false, false, false, false, false] rfl rfl (by kernel_rfl) (fun _ _ _ h => h) (Or.inl ⟨by rfl, ?_⟩) hHeld ?_ ?_
              rotate_left
              · rintro w' ⟨s0, s1⟩
                go_simp
                with_reducible rfl
              rotate_left
              · simp only [Act.put, List.setIfInBounds_toArray, List.set_cons_zero, List.set_cons_succ, i64_w, i32_w]
                rfl
              refine take_ (i := 6) (N := some 210) (v := ?_) (a' := ?_) #[true, true, true, true, true, true, true, false, false, false, false] rfl rfl (by kernel_rfl) (fun _ _ _ h => h) (Or.inl ⟨by rfl, ?_⟩) hHeld ?_ ?_
              rotate_left
              · rintro w' ⟨s0, s1⟩
                go_simp
                with_reducible rfl
              rotate_left
              · simp only [Act.put, List.setIfInBounds_toArray, List.set_cons_zero, List.set_cons_succ, i64_w, i32_w]
                rfl
              refine pure_ (i := 7) (N := some 211) (v := ?_) (a' := ?_) #[true, true, true, true, true, true, true, true, false, false, false] rfl rfl (by kernel_rfl) (fun _ _ _ h => h) (Or.inl ⟨by rfl, ?_⟩) ?_ ?_
              rotate_left
              · intro w'
                go_simp
                with_reducible rfl
              rotate_left
              · simp only [Act.put, List.setIfInBounds_toArray, List.set_cons_zero, List.set_cons_succ, i64_w, i32_w]
                rfl
              refine pure_ (i := 8) (N := some 212) (v := ?_) (a' := ?_) #[true, true, true, true, true, true, true, true, true, false, false] rfl rfl (by kernel_rfl) (fun _ _ _ h => h) (Or.inl ⟨by rfl, ?_⟩) ?_ ?_
              rotate_left
              · intro w'
                go_simp
                with_reducible rfl
              rotate_left
              · simp only [Act.put, List.setIfInBounds_toArray, List.set_cons_zero, List.set_cons_succ, i64_w, i32_w]
                rfl
              refine pure_ (i := 9) (N := some 213) (v := ?_) (a' := ?_) #[true, true, true, true, true, true, true, true, true, true, false] rfl rfl (by kernel_rfl) (fun _ _ _ h => h) (Or.inl ⟨by rfl, ?_⟩) ?_ ?_
              rotate_left
              · intro w'
                go_simp
                with_reducible rfl
              rotate_left
              · simp only [Act.put, List.setIfInBounds_toArray, List.set_cons_zero, List.set_cons_succ, i64_w, i32_w]
                rfl
              refine last_ (i := 10) (N := none) #[true, true, true, true, true, true, true, true, true, true, true] rfl rfl (by kernel_rfl) (by decide) (fun K hK => ?_)
              have fq := blk_frozen V0.out j
              have hcell := hHeld.1
              refine skip_ (w1 := ?_) (by rfl) rfl ?_ ?_
              rotate_left
              · go_simp
                rfl
              refine hK.out _ _ ?_
              clear hK K
              refine done_ (by kernel_rfl) ?_
              have V1 := Aside0.mk ((blk_set V0.out j (.int .i64 ((wrap64 (p + q)).tmod 4294967296))).trans (by
                rw [i64s_set _ (show j < (addN v h j).length by rw [LA.out]; exact hlt), ← HP.out, ← HQ.out, HST.out]; rfl : _ = some (.cells ⟨nums .i64 (addN v h (j + 1))⟩ 37 (0, 0))))
              have X1 := Aside0.mk (blk_far X0.out (p := ⟨g11, j, none⟩) N2.out (.int .i64 ((wrap64 (p + q)).tmod 4294967296)))
              have Y1 := Aside0.mk (blk_far Y0.out (p := ⟨g11, j, none⟩) N4.out (.int .i64 ((wrap64 (p + q)).tmod 4294967296)))
              have B1 := Aside0.mk (below_set (j := j) (v := .int .i64 ((wrap64 (p + q)).tmod 4294967296)) B0.out G11.out)
              clear fq hcell hHeld cp cq fp V X Y B
              go_wp2
              go_roundg (8 - (j + 1))
              case measure => have := HK.out; omega
              case rel => exact ⟨j + 1, by omega, by go_num, ⟨rfl⟩, V1, X1, Y1, B1⟩
            · have hj8 : j = 8 := by omega
              subst hj8
              have VF := Aside0.mk (show wr.heap[g11]? = some (.cells ⟨nums .i64 (blockL l h)⟩ 37 (0, 0)) by
                rw [V.out]; unfold blockL; rw [← HX.out, ← HV.out, addN_sym HH.out LV.out])
              have LB := Aside0.mk (show (blockL l h).length = 8 by rw [blockL_length]; exact HH.out)
              clear V
              go_wp2_with ((with_reducible refine gate_dst (N := 214) rfl ?_); refine stop_here ?_)
              refine ⟨?_⟩
              refine wpList_load_row rfl 37 (.tmp 11) rfl g11 rfl 37 ⟨nums .i64 (blockL l h)⟩ (0, 0) _ VF.out Try.underlying37 rfl (by rw [i64s_size _ LB.out]; rfl) ?_
              go_wp2_with ((with_reducible refine gate_store (t := 37) (p := 4) rfl ?_); refine stop_here ?_)
              refine ⟨?_⟩
              refine row_event rfl 37 (.tmp 4) (.tmp 214) rfl g4 ⟨nums .i64 (blockL l h)⟩ rfl rfl 37 _ Y.out (by rw [i64s_size _ LB.out]; rfl) (by rw [i64s_size _ LB.out]; rfl) (i64s_one _) ?_
              intro we hp
              have BF := Aside0.mk (hp.below B.out G4.out)
              have YF := Aside0.mk hp.here
              clear hp
              go_wp2
              exact bodyPost_ret (results_cell_row rfl _ _ g4 37 ⟨nums .i64 (blockL l h)⟩ (0, 0) _ rfl YF.out Try.underlying37 rfl (by rw [i64s_size _ LB.out]; rfl)) rfl ⟨rfl, BF.out⟩
end Go.Proofs.Ytlniejfbkcgneaa.HashT

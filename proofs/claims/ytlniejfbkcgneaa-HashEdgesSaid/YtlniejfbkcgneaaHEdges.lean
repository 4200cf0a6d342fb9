/- Proved: the law HashEdges answers true; conditions: the theorems' own premises. -/
import Derived.Test.YtlniejfbkcgneaaHROf
namespace Go.Proofs.Ytlniejfbkcgneaa.HashT
open Go.RowKit Go.Proofs.Ytlniejfbkcgneaa.YHash Go.Proofs.YtlniejfbkcgneaaW.PrintWords Go.Proofs.YtlniejfbkcgneaaW.PrintLast Go.Proofs.YtlniejfbkcgneaaW.PrintMore
set_option linter.unusedVariables false
set_option linter.unusedSimpArgs false
theorem allB_snoc {T : List Int} (h : AllB T) : AllB (T ++ [0]) := by
  intro x hx
  rcases List.mem_append.1 hx with h1 | h1
  · exact h x h1
  · have h2 : x = 0 := by simpa using h1
    subst h2; omega
set_option maxHeartbeats 8000000 in
set_option maxRecDepth 100000 in
theorem edges_calls (nn ch : Int) (w : World) (hn0 : 0 ≤ nn) (hn1 : nn ≤ 255) (hc0 : 0 ≤ ch) (hc1 : ch ≤ 255) :
    Calls Try.prog 5 #[.int .u8 nn, .int .u8 ch] w fun e w' => e = .returned (.bool true) ∧ Below w.heap.size w w' := by
  obtain ⟨n, rfl⟩ := Int.eq_ofNat_of_zero_le hn0
  have HC := Aside0.mk (And.intro hc0 hc1)
  have hn255 : n ≤ 255 := by omega
  clear hc0 hc1 hn0 hn1
  have HB := Aside0.mk (Below.refl w.heap.size w)
  go_enter Try.func5, Try.ntmps5
  go_wp2_with (go_at_call 8; refine (awake_calls _).mono ?_; rintro e w1 ⟨rfl, hb1⟩; have n1_ := Aside0.mk (below_step HB.out hb1); clear HB hb1; have HB := n1_; clear n1_)
  go_loopg [5, 6] n (fun kq v5 v6 w' => ∃ (i : Nat) (At : Option Addr) (ct : Nat), i ≤ n ∧ v6 = .int .i64 (i : Int) ∧ v5 = .slice At i ct ∧ Aside0 (kq = n - i) ∧ Aside0 (QRow w' w.heap.size 5 1 (.slice At i ct) (List.replicate i ch).length (nums .u8 (List.replicate i ch))) ∧ Aside0 (Below w.heap.size w w'))
  case atStart => exact ⟨0, none, 0, by omega, rfl, rfl, ⟨rfl⟩, ⟨nil_row _ _⟩, HB⟩
  case round =>
    clear HB
    obtain ⟨i, At, ct, hi, rfl, rfl, HK, Q, B⟩ := hrel
    by_cases hlt : i < n
    · have zt : 0 ≤ (i : Int) := by omega
      have lt : (i : Int) < (n : Int) := by omega
      go_wp2_with ((with_reducible refine gate_dst (N := 17) rfl ?_); refine stop_here ?_)
      refine ⟨?_⟩
      refine lit_event rfl [ch] 1 ?hr17 ?_
      case hr17 => first | (go_simp; done) | (go_simp; rfl)
      intro gl hgl w7 hbx hb
      have L7 := Aside0.mk (q_bytes (lit_run_row (base := w.heap.size) hbx (by rw [hgl]; exact B.out.size) rfl (by simp)))
      have Q7 := Aside0.mk (q_below Q.out hb)
      have B7 := Aside0.mk (below_step B.out hb)
      clear hgl hbx hb Q B
      go_wp2_with (at_builtin; refine stop_here ?_)
      refine ⟨?_⟩
      refine append_event (base := w.heap.size) (v := .slice At i ct) (rest := List.replicate i ch) (p := [ch]) (A := some ⟨gl, 0, none⟩) (c := 1) rfl (.tmp 15) (.tmp 17) rfl rfl rfl Q7.out L7.out (by simp; omega) B7.out.size ?_
      intro v8 w8 hq hg8 hat
      rw [← List.replicate_succ'] at hq
      have hq2 := hq
      rw [List.length_replicate] at hq2
      obtain ⟨At8, ct8, hv8, _⟩ := q_slice hq2
      subst hv8
      have Q8 := Aside0.mk hq
      have B8 := Aside0.mk (B7.out.grown hg8 B7.out.size (fun j hj => (q_typed Q7.out j hj).1))
      clear hq hq2 hg8 hat L7 Q7 B7
      go_wp2
      go_roundg (n - (i + 1))
      case measure => have := HK.out; omega
      case rel => exact ⟨i + 1, At8, ct8, by omega, by go_num, rfl, ⟨rfl⟩, Q8, B8⟩
    · have hin : i = n := by omega
      subst hin
      obtain ⟨T, hT⟩ : ∃ T, List.replicate i ch = T := ⟨_, rfl⟩
      have LT := Aside0.mk (show T.length ≤ 255 by rw [← hT, List.length_replicate]; exact hn255)
      have TA := Aside0.mk (show AllB T by rw [← hT]; intro x hx; rw [(List.mem_replicate.1 hx).2]; exact HC.out)
      have hTl : i = T.length := by rw [← hT, List.length_replicate]
      have hQ := Q.out
      rw [hT] at hQ
      have Q0 := Aside0.mk hQ
      clear hQ hT Q HC HK hlt hi
      subst hTl
      have hQ := Q0.out
      have hcap : T.length ≤ ct := by obtain ⟨_, _, hh, hle⟩ := q_slice hQ; injection hh with _ h1 h2; omega
      have HCT := Aside0.mk hcap
      have Q := Aside0.mk hQ
      have keq := fun w' => eq_array (digest T) (digest_len _) w'
      obtain ⟨U, hU⟩ : ∃ U, U = T ++ [0] := ⟨_, rfl⟩
      have HU := Aside0.mk hU
      have keq2 := fun w' => eq_array (digest U) (digest_len _) w'
      have T0A := Aside0.mk (show AllB U by rw [hU]; exact allB_snoc TA.out)
      have LT0 := Aside0.mk (show U.length ≤ 256 by have := LT.out; rw [hU, List.length_append]; simp; omega)
      clear hU
      clear hQ Q0 hcap hn255
      have hbT : T.length ≤ 255 := LT.out
      go_wp2_with ((with_reducible refine gate_dst (N := 20) rfl ?_); refine stop_here ?_)
      refine ⟨?_⟩
      refine slices_event rfl #[.slice At T.length ct] 1 ?hr20 ?_
      case hr20 => first | (go_simp; done) | (go_simp; rfl)
      intro gp hgp wz hbx hb
      have X := Aside0.mk hbx
      have n_Q := Aside0.mk (q_below Q.out hb)
      have n_B := Aside0.mk (below_step B.out hb)
      clear B Q hb
      have Q := n_Q
      clear n_Q
      have B := n_B
      clear n_B
      clear hgp hbx
      go_wp2_with (go_at_call 9; refine stop_here ?_)
      refine ⟨?_⟩
      have hc := of_law (n := 1) ([(At, ct, T)] : List (Option Addr × Nat × List Int)) B.out X.out rfl (List.forall_mem_cons.2 ⟨q_bytes Q.out, fun _ h => by cases h⟩) (by have := LT.out; simp; omega) (by decide)
      rw [show (([(At, ct, T)] : List (Option Addr × Nat × List Int)).map (·.2.2)).flatten = T by simp] at hc
      refine hc.mono ?_
      clear hc
      rintro e wz ⟨rfl, _, hb⟩
      clear X
      have n_Q := Aside0.mk (q_below Q.out hb)
      have n_B := Aside0.mk (below_step B.out hb)
      clear B Q hb
      have Q := n_Q
      clear n_Q
      have B := n_B
      clear n_B
      go_wp2_with (go_at_call 10; refine stop_here ?_)
      refine ⟨?_⟩
      refine (rof_calls At ct T _ (q_bytes Q.out) TA.out (by have := LT.out; omega) HCT.out).mono ?_
      rintro e wz ⟨rfl, hb⟩
      have n_Q := Aside0.mk (q_below Q.out hb)
      have n_B := Aside0.mk (below_step B.out hb)
      clear B Q hb
      have Q := n_Q
      clear n_Q
      have B := n_B
      clear n_B
      go_wp2_with ((with_reducible refine gate_dst (N := 26) rfl ?_); refine stop_here ?_)
      refine ⟨?_⟩
      refine gate_guard (by rfl) ?_
      dsimp only
      refine lit_event rfl [] 0 ?hr26 ?_
      case hr26 => first | (go_simp; done) | (go_simp; rfl)
      intro ge hge wz hbx hb
      have QL := Aside0.mk (lit_run_row (base := w.heap.size) hbx (by rw [hge]; exact B.out.size) rfl (by simp))
      have NE := Aside0.mk (show ∀ j, (Value.slice At T.length ct).ownBlock = some j → ge ≠ j from fun j hj => by have := q_lt Q.out j hj; omega)
      clear hbx hge
      have n_Q := Aside0.mk (q_below Q.out hb)
      have n_B := Aside0.mk (below_step B.out hb)
      clear B Q hb
      have Q := n_Q
      clear n_Q
      have B := n_B
      clear n_B
      have QE := QL
      clear QL
      go_wp2_with (at_builtin; refine stop_here ?_)
      refine ⟨?_⟩
      refine gate_guard (by rfl) ?_
      dsimp only
      refine append_event (base := w.heap.size) (v := .slice (some ⟨ge, 0, none⟩) 0 0) (rest := []) (p := T) (A := At) (c := ct) rfl (.tmp 26) (.tmp 27) rfl rfl rfl QE.out (q_bytes Q.out) (by have := LT.out; simp; omega) B.out.size ?_
      intro vz wz hq hg hat
      rw [List.nil_append] at hq
      obtain ⟨Ac, cc, hvz, hz⟩ := q_slice hq
      subst hvz
      have QC := Aside0.mk hq
      have ND := Aside0.mk (own_apart (u := .slice At T.length ct) hat (fun k hk h => NE.out k h (Option.some.inj hk)) (fun j hj => q_lt Q.out j hj))
      have n_Q := Aside0.mk (q_keep Q.out (Frame.of_grown hg) (fun j hj h => by have h1 := Option.some.inj h; exact NE.out j hj h1.symm))
      have n_B := Aside0.mk (B.out.grown hg B.out.size (fun j hj => (q_typed QE.out j hj).1))
      clear Q B QE hq hg hat hz
      have Q := n_Q
      have B := n_B
      clear n_Q n_B NE
      go_wp2_with ((with_reducible refine gate_dst (N := 29) rfl ?_); refine stop_here ?_)
      refine ⟨?_⟩
      refine gate_guard (by rfl) ?_
      dsimp only
      refine lit_event rfl [0] 1 ?hr29 ?_
      case hr29 => first | (go_simp; done) | (go_simp; rfl)
      intro gz hge wz hbx hb
      have QL := Aside0.mk (lit_run_row (base := w.heap.size) hbx (by rw [hge]; exact B.out.size) rfl (by simp))
      clear hbx hge
      have n_Q := Aside0.mk (q_below Q.out hb)
      have n_QC := Aside0.mk (q_below QC.out hb)
      have n_B := Aside0.mk (below_step B.out hb)
      clear B Q QC hb
      have Q := n_Q
      clear n_Q
      have QC := n_QC
      clear n_QC
      have B := n_B
      clear n_B
      have QZ := QL
      clear QL
      go_wp2_with (at_builtin; refine stop_here ?_)
      refine ⟨?_⟩
      refine gate_guard (by rfl) ?_
      dsimp only
      refine append_event (base := w.heap.size) (v := .slice Ac T.length cc) (rest := T) (p := [0]) (A := some ⟨gz, 0, none⟩) (c := 1) rfl (.tmp 28) (.tmp 29) rfl rfl rfl QC.out (q_bytes QZ.out) (by have := LT.out; simp; omega) B.out.size ?_
      intro vz wz hq hg hat
      rw [← HU.out] at hq
      obtain ⟨Az, cz, hvz, hz⟩ := q_slice hq
      subst hvz
      have QT := Aside0.mk hq
      have HZC := Aside0.mk hz
      have n_Q := Aside0.mk (q_keep Q.out (Frame.of_grown hg) (fun j hj h => ND.out j h.symm hj))
      have n_B := Aside0.mk (B.out.grown hg B.out.size (fun j hj => (q_typed QC.out j hj).1))
      clear Q B QC QZ hq hg hat hz ND
      have Q := n_Q
      have B := n_B
      clear n_Q n_B
      go_wp2_with ((with_reducible refine gate_dst (N := 31) rfl ?_); refine stop_here ?_)
      refine ⟨?_⟩
      refine gate_guard (by rfl) ?_
      dsimp only
      refine slices_event rfl #[.slice Az U.length cz] 1 ?hr31 ?_
      case hr31 => first | (go_simp; done) | (go_simp; rfl)
      intro gp hgp wz hbx hb
      have X := Aside0.mk hbx
      have n_Q := Aside0.mk (q_below Q.out hb)
      have n_QT := Aside0.mk (q_below QT.out hb)
      have n_B := Aside0.mk (below_step B.out hb)
      clear B Q QT hb
      have Q := n_Q
      clear n_Q
      have QT := n_QT
      clear n_QT
      have B := n_B
      clear n_B
      clear hgp hbx
      go_wp2_with (go_at_call 9; refine stop_here ?_)
      refine ⟨?_⟩
      have hc := of_law (n := 1) ([(Az, cz, U)] : List (Option Addr × Nat × List Int)) B.out X.out rfl (List.forall_mem_cons.2 ⟨q_bytes QT.out, fun _ h => by cases h⟩) (by have := LT0.out; simp; omega) (by decide)
      rw [show (([(Az, cz, U)] : List (Option Addr × Nat × List Int)).map (·.2.2)).flatten = U by simp] at hc
      refine hc.mono ?_
      clear hc
      rintro e wz ⟨rfl, _, hb⟩
      clear X
      have n_Q := Aside0.mk (q_below Q.out hb)
      have n_QT := Aside0.mk (q_below QT.out hb)
      have n_B := Aside0.mk (below_step B.out hb)
      clear B Q QT hb
      have Q := n_Q
      clear n_Q
      have QT := n_QT
      clear n_QT
      have B := n_B
      clear n_B
      clear QT HZC
      go_wp2_with ((with_reducible refine gate_dst (N := 33) rfl ?_); refine stop_here ?_)
      refine ⟨?_⟩
      refine gate_guard (by rfl) ?_
      dsimp only
      refine lit_event rfl [] 0 ?hr33 ?_
      case hr33 => first | (go_simp; done) | (go_simp; rfl)
      intro ge hge wz hbx hb
      have QL := Aside0.mk (lit_run_row (base := w.heap.size) hbx (by rw [hge]; exact B.out.size) rfl (by simp))
      have NE := Aside0.mk (show ∀ j, (Value.slice At T.length ct).ownBlock = some j → ge ≠ j from fun j hj => by have := q_lt Q.out j hj; omega)
      clear hbx hge
      have n_Q := Aside0.mk (q_below Q.out hb)
      have n_B := Aside0.mk (below_step B.out hb)
      clear B Q hb
      have Q := n_Q
      clear n_Q
      have B := n_B
      clear n_B
      have QE := QL
      clear QL
      go_wp2_with (at_builtin; refine stop_here ?_)
      refine ⟨?_⟩
      refine gate_guard (by rfl) ?_
      dsimp only
      refine append_event (base := w.heap.size) (v := .slice (some ⟨ge, 0, none⟩) 0 0) (rest := []) (p := T) (A := At) (c := ct) rfl (.tmp 33) (.tmp 34) rfl rfl rfl QE.out (q_bytes Q.out) (by have := LT.out; simp; omega) B.out.size ?_
      intro vz wz hq hg hat
      rw [List.nil_append] at hq
      obtain ⟨Ac, cc, hvz, hz⟩ := q_slice hq
      subst hvz
      have QC := Aside0.mk hq
      have ND := Aside0.mk (own_apart (u := .slice At T.length ct) hat (fun k hk h => NE.out k h (Option.some.inj hk)) (fun j hj => q_lt Q.out j hj))
      have n_Q := Aside0.mk (q_keep Q.out (Frame.of_grown hg) (fun j hj h => by have h1 := Option.some.inj h; exact NE.out j hj h1.symm))
      have n_B := Aside0.mk (B.out.grown hg B.out.size (fun j hj => (q_typed QE.out j hj).1))
      clear Q B QE hq hg hat hz
      have Q := n_Q
      have B := n_B
      clear n_Q n_B NE
      go_wp2_with ((with_reducible refine gate_dst (N := 36) rfl ?_); refine stop_here ?_)
      refine ⟨?_⟩
      refine gate_guard (by rfl) ?_
      dsimp only
      refine lit_event rfl [0] 1 ?hr36 ?_
      case hr36 => first | (go_simp; done) | (go_simp; rfl)
      intro gz hge wz hbx hb
      have QL := Aside0.mk (lit_run_row (base := w.heap.size) hbx (by rw [hge]; exact B.out.size) rfl (by simp))
      clear hbx hge
      have n_Q := Aside0.mk (q_below Q.out hb)
      have n_QC := Aside0.mk (q_below QC.out hb)
      have n_B := Aside0.mk (below_step B.out hb)
      clear B Q QC hb
      have Q := n_Q
      clear n_Q
      have QC := n_QC
      clear n_QC
      have B := n_B
      clear n_B
      have QZ := QL
      clear QL
      go_wp2_with (at_builtin; refine stop_here ?_)
      refine ⟨?_⟩
      refine gate_guard (by rfl) ?_
      dsimp only
      refine append_event (base := w.heap.size) (v := .slice Ac T.length cc) (rest := T) (p := [0]) (A := some ⟨gz, 0, none⟩) (c := 1) rfl (.tmp 35) (.tmp 36) rfl rfl rfl QC.out (q_bytes QZ.out) (by have := LT.out; simp; omega) B.out.size ?_
      intro vz wz hq hg hat
      rw [← HU.out] at hq
      obtain ⟨Az, cz, hvz, hz⟩ := q_slice hq
      subst hvz
      have QT := Aside0.mk hq
      have HZC := Aside0.mk hz
      have n_Q := Aside0.mk (q_keep Q.out (Frame.of_grown hg) (fun j hj h => ND.out j h.symm hj))
      have n_B := Aside0.mk (B.out.grown hg B.out.size (fun j hj => (q_typed QC.out j hj).1))
      clear Q B QC QZ hq hg hat hz ND
      have Q := n_Q
      have B := n_B
      clear n_Q n_B
      go_wp2_with (go_at_call 10; refine stop_here ?_)
      refine ⟨?_⟩
      refine (rof_calls Az cz U _ (q_bytes QT.out) T0A.out (by have := LT0.out; omega) HZC.out).mono ?_
      rintro e wz ⟨rfl, hb⟩
      have n_Q := Aside0.mk (q_below Q.out hb)
      have n_QT := Aside0.mk (q_below QT.out hb)
      have n_B := Aside0.mk (below_step B.out hb)
      clear B Q QT hb
      have Q := n_Q
      clear n_Q
      have QT := n_QT
      clear n_QT
      have B := n_B
      clear n_B
      clear QT HZC
      go_wp2
      go_ret
      exact ⟨rfl, B.out⟩
end Go.Proofs.Ytlniejfbkcgneaa.HashT

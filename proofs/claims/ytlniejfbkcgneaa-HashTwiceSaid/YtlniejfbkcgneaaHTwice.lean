/- Proved: the law HashTwice answers true; conditions: the theorems' own premises. -/
import Derived.Test.YtlniejfbkcgneaaHLaw
namespace Go.Proofs.Ytlniejfbkcgneaa.HashT
open Go.RowKit Go.Proofs.Ytlniejfbkcgneaa.YHash Go.Proofs.YtlniejfbkcgneaaW.PrintWords Go.Proofs.YtlniejfbkcgneaaW.PrintLast Go.Proofs.YtlniejfbkcgneaaW.PrintMore
set_option linter.unusedVariables false
set_option linter.unusedSimpArgs false
set_option maxHeartbeats 4000000 in
set_option maxRecDepth 100000 in
theorem twice_far (A1 A2 : Option Addr) (c1 c2 : Nat) (t u : List Int) (w : World) (h : 300 < t.length ∨ 300 < u.length) (hl : t.length ≤ 140737488351232) (hl2 : u.length ≤ 140737488351232) :
    Calls Try.prog 7 #[.slice A1 t.length c1, .slice A2 u.length c2] w fun e w' => e = .returned (.bool true) ∧ Below w.heap.size w w' := by
  obtain ⟨n1, hn1⟩ : ∃ n, t.length = n := ⟨_, rfl⟩
  obtain ⟨n2, hn2⟩ : ∃ n, u.length = n := ⟨_, rfl⟩
  rw [hn1, hn2] at h ⊢
  rw [hn1] at hl
  rw [hn2] at hl2
  clear hn1 hn2
  have HB := Aside0.mk (Below.refl w.heap.size w)
  by_cases h1 : 300 < n1
  · clear h
    go_enter Try.func7, Try.ntmps7
    go_wp2_with (go_at_call 8; refine (awake_calls _).mono ?_; rintro e w1 ⟨rfl, hb1⟩; have n1_ := Aside0.mk (below_step HB.out hb1); clear HB hb1; have HB := n1_; clear n1_)
    go_ret
    exact ⟨rfl, HB.out⟩
  · have h2 : 300 < n2 := by omega
    clear h
    go_enter Try.func7, Try.ntmps7
    go_wp2_with (go_at_call 8; refine (awake_calls _).mono ?_; rintro e w1 ⟨rfl, hb1⟩; have n1_ := Aside0.mk (below_step HB.out hb1); clear HB hb1; have HB := n1_; clear n1_)
    go_ret
    exact ⟨rfl, HB.out⟩
set_option maxHeartbeats 4000000 in
set_option maxRecDepth 100000 in
theorem twice_calls (A1 A2 : Option Addr) (c1 c2 : Nat) (t u : List Int) (w : World) (h1 : t.length ≤ 300) (h2 : u.length ≤ 300) (hb1 : Bytes w A1 t) (hb2 : Bytes w A2 u) :
    Calls Try.prog 7 #[.slice A1 t.length c1, .slice A2 u.length c2] w fun e w' => e = .returned (.bool true) ∧ Below w.heap.size w w' := by
  have Y1 := Aside0.mk hb1
  have Y2 := Aside0.mk hb2
  clear hb1 hb2
  have k1 : ¬ (300 < t.length) := by omega
  have k2 : ¬ (300 < u.length) := by omega
  have L1 := Aside0.mk h1
  have L2 := Aside0.mk h2
  have HB := Aside0.mk (Below.refl w.heap.size w)
  have keq := fun w' => eq_array (digest (t ++ (t ++ u))) (digest_len _) w'
  go_enter Try.func7, Try.ntmps7
  go_wp2_with (first
    | (go_at_call 8; refine (awake_calls _).mono ?_; rintro e w1 ⟨rfl, hb1⟩; have n1_ := Aside0.mk (below_step HB.out hb1); clear HB hb1; have HB := n1_; clear n1_)
    | (go_at_call 11; refine stop_here ?_))
  refine ⟨?_⟩
  refine (new_law HB.out).mono ?_
  rintro e w_1 ⟨ga, rfl, hge, hs, hB, hb⟩
  have n_Sa := Aside0.mk hs
  have n_HB := Aside0.mk (hB)
  clear HB
  have HB := n_HB
  clear n_HB
  have Sa := n_Sa
  clear n_Sa hge hs hB hb
  go_wp2_with (go_at_call 11; refine stop_here ?_)
  refine ⟨?_⟩
  refine (new_law HB.out).mono ?_
  rintro e w_2 ⟨gb, rfl, hge, hs, hB, hb⟩
  have n_Sb := Aside0.mk hs
  have APab := Aside0.mk (apart_new Sa.out hge)
  have n_Sa := Aside0.mk (Sa.out.below hb)
  have n_HB := Aside0.mk (hB)
  clear Sa HB
  have Sa := n_Sa
  clear n_Sa
  have HB := n_HB
  clear n_HB
  have Sb := n_Sb
  clear n_Sb hge hs hB hb
  go_wp2_with ((with_reducible refine gate_dst (N := 30) rfl ?_); refine stop_here ?_)
  refine ⟨?_⟩
  refine slices_event rfl #[.slice A1 (t).length c1] 1 ?hr30 ?_
  case hr30 => first | (go_simp; done) | (go_simp; rfl)
  intro gp hgp w_3 hbx hb
  have hFa := foot_fresh Sa.out hgp
  have hFb := foot_fresh Sb.out hgp
  have X := Aside0.mk hbx
  have Fa := Aside0.mk hFa
  clear hFa
  have Fb := Aside0.mk hFb
  clear hFb
  have n_Sa := Aside0.mk (Sa.out.below hb)
  have n_Sb := Aside0.mk (Sb.out.below hb)
  have n_HB := Aside0.mk (below_step HB.out hb)
  clear Sa Sb HB
  have Sa := n_Sa
  clear n_Sa
  have Sb := n_Sb
  clear n_Sb
  have HB := n_HB
  clear n_HB
  clear hgp hbx hb
  go_wp2_with (go_at_call 12; refine stop_here ?_)
  refine ⟨?_⟩
  have hall : ∀ s ∈ ([(A1, c1, t)] : List (Option Addr × Nat × List Int)), Bytes w s.1 s.2.2 := (List.forall_mem_cons.2 ⟨Y1.out, (fun _ h => by cases h)⟩)
  refine (add_law (n := 1) ([(A1, c1, t)] : List (Option Addr × Nat × List Int)) HB.out Sa.out X.out rfl Fa.out hall (by have := L1.out; have := L2.out; simp; omega) (by decide)).mono ?_
  rintro e w_4 ⟨rfl, ra_, hs, hr, hf, hB⟩
  clear hall
  rw [show [] ++ (([(A1, c1, t)] : List (Option Addr × Nat × List Int)).map (·.2.2)).flatten = t from by simp] at hs
  have n_Sa := Aside0.mk hs
  have n_Sb := Aside0.mk (Sb.out.frame hf APab.out.symm)
  have n_APab := Aside0.mk (APab.out.grow Sb.out hr)
  have n_HB := Aside0.mk (hB)
  clear Sa Sb APab HB
  have Sa := n_Sa
  clear n_Sa
  have Sb := n_Sb
  clear n_Sb
  have APab := n_APab
  clear n_APab
  have HB := n_HB
  clear n_HB
  clear hs hr hf hB X Fa Fb
  go_wp2_with (go_at_call 13; refine stop_here ?_)
  refine ⟨?_⟩
  refine (end_law HB.out Sa.out (by have := L1.out; omega)).mono ?_
  rintro e w_5 ⟨rfl, hB, hb⟩
  have n_Sa := Aside0.mk (Sa.out.below hb)
  have n_Sb := Aside0.mk (Sb.out.below hb)
  have n_HB := Aside0.mk (hB)
  clear Sa Sb HB
  have Sa := n_Sa
  clear n_Sa
  have Sb := n_Sb
  clear n_Sb
  have HB := n_HB
  clear n_HB
  clear hB hb
  go_wp2_with ((with_reducible refine gate_dst (N := 37) rfl ?_); refine stop_here ?_)
  refine ⟨?_⟩
  refine slices_event rfl #[.slice A1 (t).length c1, .slice A2 (u).length c2] 2 ?hr37 ?_
  case hr37 => first | (go_simp; done) | (go_simp; rfl)
  intro gp hgp w_6 hbx hb
  have hFa := foot_fresh Sa.out hgp
  have hFb := foot_fresh Sb.out hgp
  have X := Aside0.mk hbx
  have Fa := Aside0.mk hFa
  clear hFa
  have Fb := Aside0.mk hFb
  clear hFb
  have n_Sa := Aside0.mk (Sa.out.below hb)
  have n_Sb := Aside0.mk (Sb.out.below hb)
  have n_HB := Aside0.mk (below_step HB.out hb)
  clear Sa Sb HB
  have Sa := n_Sa
  clear n_Sa
  have Sb := n_Sb
  clear n_Sb
  have HB := n_HB
  clear n_HB
  clear hgp hbx hb
  go_wp2_with (go_at_call 12; refine stop_here ?_)
  refine ⟨?_⟩
  have hall : ∀ s ∈ ([(A1, c1, t), (A2, c2, u)] : List (Option Addr × Nat × List Int)), Bytes w s.1 s.2.2 := (List.forall_mem_cons.2 ⟨Y1.out, (List.forall_mem_cons.2 ⟨Y2.out, (fun _ h => by cases h)⟩)⟩)
  refine (add_law (n := 2) ([(A1, c1, t), (A2, c2, u)] : List (Option Addr × Nat × List Int)) HB.out Sa.out X.out rfl Fa.out hall (by have := L1.out; have := L2.out; simp; omega) (by decide)).mono ?_
  rintro e w_7 ⟨rfl, ra_, hs, hr, hf, hB⟩
  clear hall
  rw [show t ++ (([(A1, c1, t), (A2, c2, u)] : List (Option Addr × Nat × List Int)).map (·.2.2)).flatten = t ++ (t ++ u) from by simp] at hs
  have n_Sa := Aside0.mk hs
  have n_Sb := Aside0.mk (Sb.out.frame hf APab.out.symm)
  have n_APab := Aside0.mk (APab.out.grow Sb.out hr)
  have n_HB := Aside0.mk (hB)
  clear Sa Sb APab HB
  have Sa := n_Sa
  clear n_Sa
  have Sb := n_Sb
  clear n_Sb
  have APab := n_APab
  clear n_APab
  have HB := n_HB
  clear n_HB
  clear hs hr hf hB X Fa Fb
  go_wp2_with ((with_reducible refine gate_dst (N := 42) rfl ?_); refine stop_here ?_)
  refine ⟨?_⟩
  refine slices_event rfl #[.slice A1 (t).length c1, .slice A1 (t).length c1] 2 ?hr42 ?_
  case hr42 => first | (go_simp; done) | (go_simp; rfl)
  intro gp hgp w_8 hbx hb
  have hFa := foot_fresh Sa.out hgp
  have hFb := foot_fresh Sb.out hgp
  have X := Aside0.mk hbx
  have Fa := Aside0.mk hFa
  clear hFa
  have Fb := Aside0.mk hFb
  clear hFb
  have n_Sa := Aside0.mk (Sa.out.below hb)
  have n_Sb := Aside0.mk (Sb.out.below hb)
  have n_HB := Aside0.mk (below_step HB.out hb)
  clear Sa Sb HB
  have Sa := n_Sa
  clear n_Sa
  have Sb := n_Sb
  clear n_Sb
  have HB := n_HB
  clear n_HB
  clear hgp hbx hb
  go_wp2_with (go_at_call 12; refine stop_here ?_)
  refine ⟨?_⟩
  have hall : ∀ s ∈ ([(A1, c1, t), (A1, c1, t)] : List (Option Addr × Nat × List Int)), Bytes w s.1 s.2.2 := (List.forall_mem_cons.2 ⟨Y1.out, (List.forall_mem_cons.2 ⟨Y1.out, (fun _ h => by cases h)⟩)⟩)
  refine (add_law (n := 2) ([(A1, c1, t), (A1, c1, t)] : List (Option Addr × Nat × List Int)) HB.out Sb.out X.out rfl Fb.out hall (by have := L1.out; have := L2.out; simp; omega) (by decide)).mono ?_
  rintro e w_9 ⟨rfl, rb_, hs, hr, hf, hB⟩
  clear hall
  rw [show [] ++ (([(A1, c1, t), (A1, c1, t)] : List (Option Addr × Nat × List Int)).map (·.2.2)).flatten = t ++ t from by simp] at hs
  have n_Sb := Aside0.mk hs
  have n_Sa := Aside0.mk (Sa.out.frame hf APab.out)
  have n_APab := Aside0.mk (((APab.out.symm).grow Sa.out hr).symm)
  have n_HB := Aside0.mk (hB)
  clear Sb Sa APab HB
  have Sb := n_Sb
  clear n_Sb
  have Sa := n_Sa
  clear n_Sa
  have APab := n_APab
  clear n_APab
  have HB := n_HB
  clear n_HB
  clear hs hr hf hB X Fa Fb
  go_wp2_with ((with_reducible refine gate_dst (N := 45) rfl ?_); refine stop_here ?_)
  refine ⟨?_⟩
  refine slices_event rfl #[.slice A2 (u).length c2] 1 ?hr45 ?_
  case hr45 => first | (go_simp; done) | (go_simp; rfl)
  intro gp hgp w_10 hbx hb
  have hFa := foot_fresh Sa.out hgp
  have hFb := foot_fresh Sb.out hgp
  have X := Aside0.mk hbx
  have Fa := Aside0.mk hFa
  clear hFa
  have Fb := Aside0.mk hFb
  clear hFb
  have n_Sa := Aside0.mk (Sa.out.below hb)
  have n_Sb := Aside0.mk (Sb.out.below hb)
  have n_HB := Aside0.mk (below_step HB.out hb)
  clear Sa Sb HB
  have Sa := n_Sa
  clear n_Sa
  have Sb := n_Sb
  clear n_Sb
  have HB := n_HB
  clear n_HB
  clear hgp hbx hb
  go_wp2_with (go_at_call 12; refine stop_here ?_)
  refine ⟨?_⟩
  have hall : ∀ s ∈ ([(A2, c2, u)] : List (Option Addr × Nat × List Int)), Bytes w s.1 s.2.2 := (List.forall_mem_cons.2 ⟨Y2.out, (fun _ h => by cases h)⟩)
  refine (add_law (n := 1) ([(A2, c2, u)] : List (Option Addr × Nat × List Int)) HB.out Sb.out X.out rfl Fb.out hall (by have := L1.out; have := L2.out; simp; omega) (by decide)).mono ?_
  rintro e w_11 ⟨rfl, rb_, hs, hr, hf, hB⟩
  clear hall
  rw [show (t ++ t) ++ (([(A2, c2, u)] : List (Option Addr × Nat × List Int)).map (·.2.2)).flatten = t ++ (t ++ u) from by simp] at hs
  have n_Sb := Aside0.mk hs
  have n_Sa := Aside0.mk (Sa.out.frame hf APab.out)
  have n_APab := Aside0.mk (((APab.out.symm).grow Sa.out hr).symm)
  have n_HB := Aside0.mk (hB)
  clear Sb Sa APab HB
  have Sb := n_Sb
  clear n_Sb
  have Sa := n_Sa
  clear n_Sa
  have APab := n_APab
  clear n_APab
  have HB := n_HB
  clear n_HB
  clear hs hr hf hB X Fa Fb
  go_wp2_with (go_at_call 13; refine stop_here ?_)
  refine ⟨?_⟩
  refine (end_law HB.out Sa.out (by have := L1.out; have := L2.out; simp; omega)).mono ?_
  rintro e w_12 ⟨rfl, hB, hb⟩
  have n_Sa := Aside0.mk (Sa.out.below hb)
  have n_Sb := Aside0.mk (Sb.out.below hb)
  have n_HB := Aside0.mk (hB)
  clear Sa Sb HB
  have Sa := n_Sa
  clear n_Sa
  have Sb := n_Sb
  clear n_Sb
  have HB := n_HB
  clear n_HB
  clear hB hb
  go_wp2_with (go_at_call 13; refine stop_here ?_)
  refine ⟨?_⟩
  refine (end_law HB.out Sb.out (by have := L1.out; have := L2.out; simp; omega)).mono ?_
  rintro e w_13 ⟨rfl, hB, hb⟩
  have n_Sa := Aside0.mk (Sa.out.below hb)
  have n_Sb := Aside0.mk (Sb.out.below hb)
  have n_HB := Aside0.mk (hB)
  clear Sa Sb HB
  have Sa := n_Sa
  clear n_Sa
  have Sb := n_Sb
  clear n_Sb
  have HB := n_HB
  clear n_HB
  clear hB hb
  go_wp2_with (go_at_call 13; refine stop_here ?_)
  refine ⟨?_⟩
  refine (end_law HB.out Sa.out (by have := L1.out; have := L2.out; simp; omega)).mono ?_
  rintro e w_14 ⟨rfl, hB, hb⟩
  have n_Sa := Aside0.mk (Sa.out.below hb)
  have n_Sb := Aside0.mk (Sb.out.below hb)
  have n_HB := Aside0.mk (hB)
  clear Sa Sb HB
  have Sa := n_Sa
  clear n_Sa
  have Sb := n_Sb
  clear n_Sb
  have HB := n_HB
  clear n_HB
  clear hB hb
  go_wp2_with ((with_reducible refine gate_dst (N := 58) rfl ?_); refine stop_here ?_)
  refine ⟨?_⟩
  refine gate_guard (by rfl) ?_
  dsimp only
  refine slices_event rfl #[.slice A1 (t).length c1, .slice A1 (t).length c1, .slice A2 (u).length c2] 3 ?hr58 ?_
  case hr58 => first | (go_simp; done) | (go_simp; rfl)
  intro gp hgp w_15 hbx hb
  have hFa := foot_fresh Sa.out hgp
  have hFb := foot_fresh Sb.out hgp
  have X := Aside0.mk hbx
  have Fa := Aside0.mk hFa
  clear hFa
  have Fb := Aside0.mk hFb
  clear hFb
  have n_Sa := Aside0.mk (Sa.out.below hb)
  have n_Sb := Aside0.mk (Sb.out.below hb)
  have n_HB := Aside0.mk (below_step HB.out hb)
  clear Sa Sb HB
  have Sa := n_Sa
  clear n_Sa
  have Sb := n_Sb
  clear n_Sb
  have HB := n_HB
  clear n_HB
  clear hgp hbx hb
  go_wp2_with (go_at_call 9; refine stop_here ?_)
  refine ⟨?_⟩
  have hall : ∀ s ∈ ([(A1, c1, t), (A1, c1, t), (A2, c2, u)] : List (Option Addr × Nat × List Int)), Bytes _ s.1 s.2.2 := (List.forall_mem_cons.2 ⟨(Y1.out.below HB.out), (List.forall_mem_cons.2 ⟨(Y1.out.below HB.out), (List.forall_mem_cons.2 ⟨(Y2.out.below HB.out), (fun _ h => by cases h)⟩)⟩)⟩)
  have hc := of_law (n := 3) ([(A1, c1, t), (A1, c1, t), (A2, c2, u)] : List (Option Addr × Nat × List Int)) HB.out X.out rfl hall (by have := L1.out; have := L2.out; simp; omega) (by decide)
  rw [show (([(A1, c1, t), (A1, c1, t), (A2, c2, u)] : List (Option Addr × Nat × List Int)).map (·.2.2)).flatten = t ++ (t ++ u) from by simp] at hc
  refine hc.mono ?_
  clear hc hall
  rintro e w_16 ⟨rfl, hB, hb⟩
  have n_Sa := Aside0.mk (Sa.out.below hb)
  have n_Sb := Aside0.mk (Sb.out.below hb)
  have n_HB := Aside0.mk (hB)
  clear Sa Sb HB
  have Sa := n_Sa
  clear n_Sa
  have Sb := n_Sb
  clear n_Sb
  have HB := n_HB
  clear n_HB
  clear hB hb X Fa Fb
  go_wp2
  go_ret
  exact ⟨rfl, HB.out⟩
theorem twice_law (A1 A2 : Option Addr) (c1 c2 : Nat) (t u : List Int) (w : World) (hb1 : Bytes w A1 t) (hb2 : Bytes w A2 u) (hl : t.length * 1 ≤ 140737488351232) (hl2 : u.length * 1 ≤ 140737488351232) :
    Calls Try.prog 7 #[.slice A1 t.length c1, .slice A2 u.length c2] w fun e w' => e = .returned (.bool true) ∧ Below w.heap.size w w' := by
  by_cases h1 : t.length ≤ 300
  · by_cases h2 : u.length ≤ 300
    · exact twice_calls A1 A2 c1 c2 t u w h1 h2 hb1 hb2
    · exact twice_far A1 A2 c1 c2 t u w (.inr (by omega)) (by omega) (by omega)
  · exact twice_far A1 A2 c1 c2 t u w (.inl (by omega)) (by omega) (by omega)
end Go.Proofs.Ytlniejfbkcgneaa.HashT

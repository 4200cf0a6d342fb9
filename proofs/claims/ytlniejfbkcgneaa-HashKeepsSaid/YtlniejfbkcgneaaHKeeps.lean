/- Proved: the law HashKeeps answers true; conditions: the theorems' own premises. -/
import Derived.Test.YtlniejfbkcgneaaHSame
namespace Go.Proofs.Ytlniejfbkcgneaa.HashT
open Go.RowKit Go.Proofs.Ytlniejfbkcgneaa.YHash Go.Proofs.YtlniejfbkcgneaaW.PrintWords Go.Proofs.YtlniejfbkcgneaaW.PrintLast Go.Proofs.YtlniejfbkcgneaaW.PrintMore
set_option linter.unusedVariables false
set_option linter.unusedSimpArgs false
set_option maxHeartbeats 4000000 in
set_option maxRecDepth 100000 in
theorem keeps_far (A1 A2 : Option Addr) (c1 c2 : Nat) (t u : List Int) (w : World) (h : 300 < t.length ∨ 300 < u.length) (hl : t.length ≤ 140737488351232) (hl2 : u.length ≤ 140737488351232) :
    Calls Try.prog 6 #[.slice A1 t.length c1, .slice A2 u.length c2] w fun e w' => e = .returned (.bool true) ∧ Below w.heap.size w w' := by
  obtain ⟨n1, hn1⟩ : ∃ n, t.length = n := ⟨_, rfl⟩
  obtain ⟨n2, hn2⟩ : ∃ n, u.length = n := ⟨_, rfl⟩
  rw [hn1, hn2] at h ⊢
  rw [hn1] at hl
  rw [hn2] at hl2
  clear hn1 hn2
  have HB := Aside0.mk (Below.refl w.heap.size w)
  by_cases h1 : 300 < n1
  · clear h
    go_enter Try.func6, Try.ntmps6
    go_wp2_with (go_at_call 8; refine (awake_calls _).mono ?_; rintro e w1 ⟨rfl, hb1⟩; have n1_ := Aside0.mk (below_step HB.out hb1); clear HB hb1; have HB := n1_; clear n1_)
    go_ret
    exact ⟨rfl, HB.out⟩
  · have h2 : 300 < n2 := by omega
    clear h
    go_enter Try.func6, Try.ntmps6
    go_wp2_with (go_at_call 8; refine (awake_calls _).mono ?_; rintro e w1 ⟨rfl, hb1⟩; have n1_ := Aside0.mk (below_step HB.out hb1); clear HB hb1; have HB := n1_; clear n1_)
    go_ret
    exact ⟨rfl, HB.out⟩
theorem bytes_frame {w0 W W1 : World} {g : Nat} {r : Option Nat} {T : List Int} (h : Held w0 W g r T) {A : Option Addr} {p : List Int} (hb : Bytes w0 A p) (hB : Below w0.heap.size w0 W) (hf : Frame W W1 (Foot g r)) : Bytes W1 A p :=
  (hb.below hB).frame hf (fun h0 ad e h1 => by
    have := hb.lt h0 ad e
    have := (h.foot h1).1
    omega)
/-- Bytes of one's own, whatever they are. -/
def OwnCells (w : World) (A : Option Addr) (n : Nat) : Prop := 0 < n → ∃ g off cur, A = some ⟨g, off, none⟩ ∧ w.heap[g]? = some (.cells cur 5 (0, 0)) ∧ ∀ i, i < n → ∃ x, cur[off + i]? = some (.int .u8 x)
theorem own_cells {w : World} {base c : Nat} {A : Option Addr} {l : List Int} (h : QRow w base 5 1 (.slice A l.length c) l.length (nums .u8 l)) : OwnCells w A l.length := by
  intro hn
  rcases h.2 with ⟨h0, _⟩ | ⟨g, off, cap, cur, he, hb, hh, hnc, hm, hcs, ht⟩
  · omega
  · injection he with ha _ hc
    subst ha
    refine ⟨g, off * 1, cur, rfl, hh, fun i hi => ⟨l[i], ?_⟩⟩
    have h1 : (nums .u8 l)[i]? = some (.int .u8 l[i]) := by unfold nums; rw [List.getElem?_map, List.getElem?_eq_getElem hi]; rfl
    rw [← ht, List.getElem?_take] at h1
    split at h1
    · rw [List.getElem?_drop] at h1
      rw [← Array.getElem?_toList]; exact h1
    · cases h1
theorem Held.off {w0 W W1 : World} {g : Nat} {r : Option Nat} {T : List Int} {S : Nat → Prop} (h : Held w0 W g r T) (hf : Frame W W1 S) (hd : ∀ k, S k → ¬ Foot g r k) : Held w0 W1 g r T :=
  ⟨h.sum.keep hf (fun h1 => hd g h1 (.inl rfl)) (fun k hk h1 => hd k h1 (.inr hk.symm)), h.ge⟩
theorem own_off {W : World} {base g n : Nat} {r r1 : Option Nat} {v : Value} {xs : List Value} (h : ∀ j, v.ownBlock = some j → ¬ Foot g r j) (hr : r1 = r ∨ ∃ k, r1 = some k ∧ W.heap.size ≤ k) (hq : QRow W base 5 1 v n xs) : ∀ j, v.ownBlock = some j → ¬ Foot g r1 j := by
  intro j hj hk
  rcases hr with rfl | ⟨q, rfl, hq1⟩
  · exact h j hj hk
  · rcases hk with hk | hk
    · exact h j hj (.inl hk)
    · injection hk with hk
      have := q_lt hq j hj
      omega
set_option maxHeartbeats 8000000 in
set_option maxRecDepth 100000 in
theorem keeps_calls (A1 A2 : Option Addr) (c1 c2 : Nat) (t u : List Int) (w : World) (h1 : t.length ≤ 300) (h2 : u.length ≤ 300) (hb1 : Bytes w A1 t) (hb2 : Bytes w A2 u) :
    Calls Try.prog 6 #[.slice A1 t.length c1, .slice A2 u.length c2] w fun e w' => e = .returned (.bool true) ∧ Below w.heap.size w w' := by
  have Y1 := Aside0.mk hb1
  have Y2 := Aside0.mk hb2
  clear hb1 hb2
  have k1 : ¬ (300 < t.length) := by omega
  have k2 : ¬ (300 < u.length) := by omega
  have L1 := Aside0.mk h1
  have L2 := Aside0.mk h2
  have HB := Aside0.mk (Below.refl w.heap.size w)
  have keq := fun w' => eq_array (digest (t ++ u)) (digest_len _) w'
  go_enter Try.func6, Try.ntmps6
  go_wp2_with (first
    | (go_at_call 8; refine (awake_calls _).mono ?_; rintro e w1 ⟨rfl, hb1⟩; have n1_ := Aside0.mk (below_step HB.out hb1); clear HB hb1; have HB := n1_; clear n1_)
    | ((with_reducible refine gate_dst (N := 23) rfl ?_); refine stop_here ?_))
  refine ⟨?_⟩
  refine lit_event rfl [] 0 ?hr23 ?_
  case hr23 => first | (go_simp; done) | (go_simp; rfl)
  intro ge hge w2 hbx hb
  have Q := Aside0.mk (lit_run_row (base := w.heap.size) hbx (by rw [hge]; exact HB.out.size) rfl (by decide))
  have n_HB := Aside0.mk (below_step HB.out hb)
  clear HB hge hbx hb
  have HB := n_HB
  clear n_HB
  go_wp2_with (at_builtin; refine stop_here ?_)
  refine ⟨?_⟩
  refine append_event (base := w.heap.size) (v := .slice (some ⟨ge, 0, none⟩) 0 0) (rest := []) (p := t) (A := A1) (c := c1) rfl (.tmp 23) (.tmp 24) rfl rfl rfl Q.out (Y1.out.below HB.out) (by have := L1.out; simp; omega) HB.out.size ?_
  intro v3 w3 hq hg3 hat
  rw [List.nil_append] at hq
  obtain ⟨Ao, co, hv3, hle3⟩ := q_slice hq
  subst hv3
  have n_Q := Aside0.mk hq
  have n_HB := Aside0.mk (HB.out.grown hg3 HB.out.size (fun j hj => (q_typed Q.out j hj).1))
  clear Q HB hq hg3 hat hle3
  have Q := n_Q
  have HB := n_HB
  clear n_Q n_HB
  -- from here on: mkkeeps.py
  go_wp2_with (go_at_call 11; refine stop_here ?_)
  refine ⟨?_⟩
  refine (new_law HB.out).mono ?_
  rintro e w_1 ⟨ga, rfl, hge, hs, hB, hb⟩
  have Sa := Aside0.mk hs
  have Da := Aside0.mk (show ∀ j, (Value.slice Ao t.length co).ownBlock = some j → ¬ Foot ga none j from fun j hj hk => by
    rcases hk with hk | hk
    · have := q_lt Q.out j hj; omega
    · cases hk)
  have n_Q := Aside0.mk (q_below Q.out hb)
  have n_HB := Aside0.mk hB
  clear Q HB hge hs hB hb
  have Q := n_Q
  have HB := n_HB
  clear n_Q n_HB
  go_wp2_with (go_at_call 11; refine stop_here ?_)
  refine ⟨?_⟩
  refine (new_law HB.out).mono ?_
  rintro e w_2 ⟨gb, rfl, hge, hs, hB, hb⟩
  have Sb := Aside0.mk hs
  have APab := Aside0.mk (apart_new Sa.out hge)
  have Db := Aside0.mk (show ∀ j, (Value.slice Ao t.length co).ownBlock = some j → ¬ Foot gb none j from fun j hj hk => by
    rcases hk with hk | hk
    · have := q_lt Q.out j hj; omega
    · cases hk)
  have n_Sa := Aside0.mk (Sa.out.below hb)
  have n_Q := Aside0.mk (q_below Q.out hb)
  have n_HB := Aside0.mk hB
  clear Q HB Sa hge hs hB hb
  have Sa := n_Sa
  have Q := n_Q
  have HB := n_HB
  clear n_Q n_HB n_Sa
  go_wp2_with ((with_reducible refine gate_dst (N := 36) rfl ?_); refine stop_here ?_)
  refine ⟨?_⟩
  refine slices_event rfl #[.slice Ao (t).length co] 1 ?hr36 ?_
  case hr36 => first | (go_simp; done) | (go_simp; rfl)
  intro gp hgp w_3 hbx hb
  have hFa := foot_fresh Sa.out hgp
  have hFb := foot_fresh Sb.out hgp
  have X := Aside0.mk hbx
  have Fa := Aside0.mk hFa
  clear hFa
  have Fb := Aside0.mk hFb
  clear hFb
  have n_Sa := Aside0.mk (Sa.out.below hb)
  have n_Sb := Aside0.mk (Sb.out.below hb)
  have n_Q := Aside0.mk (q_below Q.out hb)
  have n_HB := Aside0.mk (below_step HB.out hb)
  clear Sa Sb Q HB
  have Sa := n_Sa
  clear n_Sa
  have Sb := n_Sb
  clear n_Sb
  have Q := n_Q
  clear n_Q
  have HB := n_HB
  clear n_HB
  clear hgp hbx hb
  go_wp2_with (go_at_call 12; refine stop_here ?_)
  refine ⟨?_⟩
  have hp : PartsAt _ (some ⟨gp, 0, none⟩) [t] (Foot ga none) := parts_one X.out rfl (q_bytes Q.out) Fa.out (fun _ ad e h => Da.out ad.block (by rw [e]; rfl) h)
  refine (add_calls ga w.heap.size none [] _ 1 1 [t] _ rfl HB.out.size Sa.out.sum hp (by have := L1.out; simp; omega) (by decide)).mono ?_
  clear hp
  rintro e w_8 ⟨rfl, ra_, hs, hr, hf⟩
  rw [show [] ++ [t].flatten = t by simp] at hs
  have n_Sa := Aside0.mk (show Held w w_8 ga ra_ t from ⟨hs, Sa.out.ge⟩)
  have n_Sb := Aside0.mk (Sb.out.frame hf APab.out.symm)
  have n_APab := Aside0.mk (APab.out.grow Sb.out hr)
  have n_Q := Aside0.mk (q_keep Q.out hf (fun j hj => Da.out j hj))
  have n_Da := Aside0.mk (own_off Da.out hr Q.out)
  have n_HB := Aside0.mk (below_frame HB.out hf HB.out.size (fun k h => (Sa.out.foot h).1))
  clear Sa Sb APab Q Da HB hs hr hf X Fa Fb
  have Sa := n_Sa
  clear n_Sa
  have Sb := n_Sb
  clear n_Sb
  have APab := n_APab
  clear n_APab
  have Q := n_Q
  clear n_Q
  have Da := n_Da
  clear n_Da
  have HB := n_HB
  clear n_HB
  go_wp2_with ((with_reducible refine gate_dst (N := 41) rfl ?_); refine stop_here ?_)
  refine ⟨?_⟩
  refine slices_event rfl #[.slice A1 (t).length c1, .slice A2 (u).length c2] 2 ?hr41 ?_
  case hr41 => first | (go_simp; done) | (go_simp; rfl)
  intro gp hgp w_4 hbx hb
  have hFa := foot_fresh Sa.out hgp
  have hFb := foot_fresh Sb.out hgp
  have X := Aside0.mk hbx
  have Fa := Aside0.mk hFa
  clear hFa
  have Fb := Aside0.mk hFb
  clear hFb
  have n_Sa := Aside0.mk (Sa.out.below hb)
  have n_Sb := Aside0.mk (Sb.out.below hb)
  have n_Q := Aside0.mk (q_below Q.out hb)
  have n_Db := Aside0.mk (Db.out)
  have n_HB := Aside0.mk (below_step HB.out hb)
  clear Sa Sb Q Db HB
  have Sa := n_Sa
  clear n_Sa
  have Sb := n_Sb
  clear n_Sb
  have Q := n_Q
  clear n_Q
  have Db := n_Db
  clear n_Db
  have HB := n_HB
  clear n_HB
  clear hgp hbx hb
  go_wp2_with (go_at_call 12; refine stop_here ?_)
  refine ⟨?_⟩
  have hall : ∀ s ∈ ([(A1, c1, t), (A2, c2, u)] : List (Option Addr × Nat × List Int)), Bytes w s.1 s.2.2 := (List.forall_mem_cons.2 ⟨Y1.out, (List.forall_mem_cons.2 ⟨Y2.out, (fun _ h => by cases h)⟩)⟩)
  refine (add_law (n := 2) ([(A1, c1, t), (A2, c2, u)] : List (Option Addr × Nat × List Int)) HB.out Sb.out X.out rfl Fb.out hall (by have := L1.out; have := L2.out; simp; omega) (by decide)).mono ?_
  rintro e w_5 ⟨rfl, rb_, hs, hr, hf, hB⟩
  clear hall
  rw [show [] ++ (([(A1, c1, t), (A2, c2, u)] : List (Option Addr × Nat × List Int)).map (·.2.2)).flatten = t ++ u from by simp] at hs
  have n_Sb := Aside0.mk hs
  have n_Sa := Aside0.mk (Sa.out.frame hf APab.out)
  have n_APab := Aside0.mk (((APab.out.symm).grow Sa.out hr).symm)
  have n_Q := Aside0.mk (q_keep Q.out hf (fun j hj => Db.out j hj))
  have n_Db := Aside0.mk (own_off Db.out hr Q.out)
  have n_HB := Aside0.mk (hB)
  clear Sb Sa APab Q Db HB
  have Sb := n_Sb
  clear n_Sb
  have Sa := n_Sa
  clear n_Sa
  have APab := n_APab
  clear n_APab
  have Q := n_Q
  clear n_Q
  have Db := n_Db
  clear n_Db
  have HB := n_HB
  clear n_HB
  clear hs hr hf hB X Fa Fb
  go_wp2_with (go_at_call 14; refine stop_here ?_)
  refine ⟨?_⟩
  refine (same_calls Ao A1 co c1 t _ (q_bytes Q.out) (Y1.out.below HB.out) (by have := L1.out; omega)).mono ?_
  rintro e w_20 ⟨rfl, ms, rfl⟩
  have n_OC := Aside0.mk (own_cells Q.out)
  have OC := Aside0.mk (show OwnCells _ Ao t.length from n_OC.out)
  have n_Sa := Aside0.mk (Sa.out.below (pw_below_drewN (Below.refl _ _) ms))
  have n_Sb := Aside0.mk (Sb.out.below (pw_below_drewN (Below.refl _ _) ms))
  have n_HB := Aside0.mk (pw_below_drewN HB.out ms)
  have n_OC2 := Aside0.mk (show OwnCells (World.drewN _ ms) Ao t.length from OC.out)
  have OB := Aside0.mk (show ∀ j, (Value.slice Ao t.length co).ownBlock = some j → w.heap.size ≤ j from fun j hj => (q_typed Q.out j hj).1)
  clear Sa Sb HB Q OC n_OC
  have Sa := n_Sa
  have Sb := n_Sb
  have HB := n_HB
  have OC := n_OC2
  clear n_Sa n_Sb n_HB n_OC2
  obtain ⟨n, hn⟩ : ∃ n, t.length = n := ⟨_, rfl⟩
  have HN := Aside0.mk hn
  rw [hn] at OC OB Da Db k1 ⊢
  clear hn
  go_wp2
  go_loopg [9] n (fun kq v9 w' => ∃ (i : Nat), i ≤ n ∧ v9 = .int .i64 (i : Int) ∧ Aside0 (kq = n - i) ∧ Aside0 (OwnCells w' Ao n) ∧ Aside0 (Held w w' ga ra_ t) ∧ Aside0 (Held w w' gb rb_ (t ++ u)) ∧ Aside0 (Below w.heap.size w w'))
  case atStart => exact ⟨0, by omega, rfl, ⟨rfl⟩, OC, Sa, Sb, HB⟩
  case round =>
    clear OC Sa Sb HB
    obtain ⟨i, hi, rfl, HK, OC, Sa, Sb, HB⟩ := hrel
    by_cases hlt : i < n
    · obtain ⟨g, off, cur, rfl, hh, hx⟩ := OC.out (by omega)
      obtain ⟨x, hxi⟩ := hx i hlt
      have ci := (blk_cell hh (off + i)).trans hxi
      have fi := blk_frozen hh (off + i)
      have zt : 0 ≤ (i : Int) := by omega
      have lt : (i : Int) < (n : Int) := by omega
      have HH := Aside0.mk hh
      have HX := Aside0.mk hx
      clear hh hx hxi
      have NA := Aside0.mk (show ∀ k, k = g → ¬ Foot ga ra_ k from fun k hk => by subst hk; exact Da.out k rfl)
      have NB := Aside0.mk (show ∀ k, k = g → ¬ Foot gb rb_ k from fun k hk => by subst hk; exact Db.out k rfl)
      have GB := Aside0.mk (OB.out g rfl)
      go_wp2
      clear ci fi
      go_roundg (n - (i + 1))
      case measure => have := HK.out; omega
      case rel => exact ⟨i + 1, by omega, by go_num, ⟨rfl⟩, ⟨fun _ => ⟨g, off, _, rfl, blk_set HH.out (off + i) _, fun j hj => by
        by_cases e : j = i
        · subst e; obtain ⟨y, hy⟩ := HX.out j hj; exact ⟨_, by rw [Array.getElem?_setIfInBounds_self]; rw [if_pos (Array.getElem?_eq_some_iff.1 hy).1]⟩
        · obtain ⟨y, hy⟩ := HX.out j hj; exact ⟨y, by rw [Array.getElem?_setIfInBounds_ne (by omega)]; exact hy⟩⟩⟩, ⟨Sa.out.off (Frame.of_set wr g (off + i) _) NA.out⟩, ⟨Sb.out.off (Frame.of_set wr g (off + i) _) NB.out⟩, ⟨below_set HB.out GB.out⟩⟩
    · clear OC OB Da Db
      go_wp2_with ((with_reducible refine gate_dst (N := 62) rfl ?_); refine stop_here ?_)
      refine ⟨?_⟩
      refine slices_event rfl #[.slice A2 (u).length c2] 1 ?hr62 ?_
      case hr62 => first | (go_simp; done) | (go_simp; rfl)
      intro gp hgp w_31 hbx hb
      have hFa := foot_fresh Sa.out hgp
      have hFb := foot_fresh Sb.out hgp
      have X := Aside0.mk hbx
      have Fa := Aside0.mk hFa
      clear hFa
      have Fb := Aside0.mk hFb
      clear hFb
      have n_Sa := Aside0.mk (Sa.out.below hb)
      have n_Sb := Aside0.mk (Sb.out.below hb)
      have n_HB := Aside0.mk (below_step HB.out hb)
      clear Sa Sb HB
      have Sa := n_Sa
      clear n_Sa
      have Sb := n_Sb
      clear n_Sb
      have HB := n_HB
      clear n_HB
      clear hgp hbx hb
      go_wp2_with (go_at_call 12; refine stop_here ?_)
      refine ⟨?_⟩
      have hall : ∀ s ∈ ([(A2, c2, u)] : List (Option Addr × Nat × List Int)), Bytes w s.1 s.2.2 := (List.forall_mem_cons.2 ⟨Y2.out, (fun _ h => by cases h)⟩)
      refine (add_law (n := 1) ([(A2, c2, u)] : List (Option Addr × Nat × List Int)) HB.out Sa.out X.out rfl Fa.out hall (by have := L1.out; have := L2.out; simp; omega) (by decide)).mono ?_
      rintro e w_32 ⟨rfl, ra_, hs, hr, hf, hB⟩
      clear hall
      rw [show t ++ (([(A2, c2, u)] : List (Option Addr × Nat × List Int)).map (·.2.2)).flatten = t ++ u from by simp] at hs
      have n_Sa := Aside0.mk hs
      have n_Sb := Aside0.mk (Sb.out.frame hf APab.out.symm)
      have n_APab := Aside0.mk (APab.out.grow Sb.out hr)
      have n_HB := Aside0.mk (hB)
      clear Sa Sb APab HB
      have Sa := n_Sa
      clear n_Sa
      have Sb := n_Sb
      clear n_Sb
      have APab := n_APab
      clear n_APab
      have HB := n_HB
      clear n_HB
      clear hs hr hf hB X Fa Fb
      go_wp2_with (go_at_call 13; refine stop_here ?_)
      refine ⟨?_⟩
      refine (end_law HB.out Sa.out (by have := L1.out; have := L2.out; simp; omega)).mono ?_
      rintro e w_33 ⟨rfl, hB, hb⟩
      have n_Sa := Aside0.mk (Sa.out.below hb)
      have n_Sb := Aside0.mk (Sb.out.below hb)
      have n_HB := Aside0.mk (hB)
      clear Sa Sb HB
      have Sa := n_Sa
      clear n_Sa
      have Sb := n_Sb
      clear n_Sb
      have HB := n_HB
      clear n_HB
      clear hB hb
      go_wp2_with (go_at_call 13; refine stop_here ?_)
      refine ⟨?_⟩
      refine (end_law HB.out Sb.out (by have := L1.out; have := L2.out; simp; omega)).mono ?_
      rintro e w_34 ⟨rfl, hB, hb⟩
      have n_Sa := Aside0.mk (Sa.out.below hb)
      have n_Sb := Aside0.mk (Sb.out.below hb)
      have n_HB := Aside0.mk (hB)
      clear Sa Sb HB
      have Sa := n_Sa
      clear n_Sa
      have Sb := n_Sb
      clear n_Sb
      have HB := n_HB
      clear n_HB
      clear hB hb
      go_wp2
      go_ret
      exact ⟨rfl, HB.out⟩
theorem keeps_law (A1 A2 : Option Addr) (c1 c2 : Nat) (t u : List Int) (w : World) (hb1 : Bytes w A1 t) (hb2 : Bytes w A2 u) (hl : t.length * 1 ≤ 140737488351232) (hl2 : u.length * 1 ≤ 140737488351232) :
    Calls Try.prog 6 #[.slice A1 t.length c1, .slice A2 u.length c2] w fun e w' => e = .returned (.bool true) ∧ Below w.heap.size w w' := by
  by_cases h1 : t.length ≤ 300
  · by_cases h2 : u.length ≤ 300
    · exact keeps_calls A1 A2 c1 c2 t u w h1 h2 hb1 hb2
    · exact keeps_far A1 A2 c1 c2 t u w (.inr (by omega)) (by omega) (by omega)
  · exact keeps_far A1 A2 c1 c2 t u w (.inl (by omega)) (by omega) (by omega)
end Go.Proofs.Ytlniejfbkcgneaa.HashT

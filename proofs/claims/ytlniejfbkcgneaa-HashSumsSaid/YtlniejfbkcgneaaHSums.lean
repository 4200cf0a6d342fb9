/- Proved: the law HashSums answers true; conditions: the theorems' own premises. -/
import Derived.Test.YtlniejfbkcgneaaHROf
namespace Go.Proofs.Ytlniejfbkcgneaa.HashT
open Go.RowKit Go.Proofs.Ytlniejfbkcgneaa.YHash Go.Proofs.YtlniejfbkcgneaaW.PrintWords Go.Proofs.YtlniejfbkcgneaaW.PrintLast Go.Proofs.YtlniejfbkcgneaaW.PrintMore
set_option linter.unusedVariables false
set_option linter.unusedSimpArgs false
theorem parts_two {w : World} {gp : Nat} {A B : Option Addr} {p q : List Int} {n m c d : Nat} (hg : w.heap[gp]? = some (.cells #[.slice A n c, .slice B m d] 22 (0, 0))) (hn : p.length = n) (hm : q.length = m) (ha : Bytes w A p) (hb : Bytes w B q) : PartsAt w (some ⟨gp, 0, none⟩) [p, q] (fun _ => False) := by
  subst hn hm
  intro _
  refine ⟨gp, 0, rfl, fun h => h, fun i hi => ?_⟩
  match i, hi with
  | 0, _ => exact ⟨A, c, (blk_cell hg 0).trans rfl, ha, fun _ _ _ h => h⟩
  | 1, _ => exact ⟨B, d, (blk_cell hg 1).trans rfl, hb, fun _ _ _ h => h⟩
theorem nums_take (l : List Int) (k : Nat) : nums .u8 (l.take k) = (nums .u8 l).take k := by unfold nums; rw [List.map_take]
theorem nums_drop (l : List Int) (k : Nat) : nums .u8 (l.drop k) = (nums .u8 l).drop k := by unfold nums; rw [List.map_drop]
theorem Bytes.take {w : World} {A : Option Addr} {l : List Int} (h : Bytes w A l) (k : Nat) : Bytes w A (l.take k) := fun h0 => by
  obtain ⟨ad, e, hc⟩ := h (by rw [List.length_take] at h0; omega)
  refine ⟨ad, e, fun j u hu => hc j u ?_⟩
  rw [nums_take, List.getElem?_take] at hu
  split at hu
  · exact hu
  · cases hu
theorem add_add_ (a : Addr) (k j : Nat) : (a.add (k * 1)).add j = a.add (k + j) := by
  unfold Addr.add
  by_cases hk : k = 0
  · subst hk; simp
  · by_cases hj : j = 0
    · subst hj; simp
    · rw [if_neg hj, if_neg (by omega), if_neg (by omega)]
      simp [Nat.add_assoc]
theorem Bytes.drop {w : World} {A A4 : Option Addr} {l : List Int} {c k : Nat} (h : Bytes w A l) (hc : l.length ≤ c) (h4 : (if c = k then A else A.map (·.add (k * 1))) = A4) : Bytes w A4 (l.drop k) := fun h0 => by
  rw [List.length_drop] at h0
  obtain ⟨ad, rfl, hcell⟩ := h (by omega)
  rw [if_neg (by omega)] at h4
  refine ⟨ad.add (k * 1), h4.symm, fun j u hu => ?_⟩
  rw [nums_drop, List.getElem?_drop] at hu
  rw [add_add_]
  exact hcell _ u hu
theorem slices_step {ops : Array Oper} {o : Oper} {a : Act} {Q' : Exit → Act → World → Prop} {Kc : Act → World → Prop} {W : World} (cs : Array Value) (n : Nat) (hw : Region.wanted o (yielded ops a.tmps) = true)
    (hrun : (execOp a.eval o).run Try.prog W = .ok (.value (.slice (some ⟨W.heap.size, 0, none⟩) n n)) (W.alloc (.cells cs 22 (0, 0))))
    (h : ∀ g, g = W.heap.size → ∀ w1, w1.heap[g]? = some (.cells cs 22 (0, 0)) → Below W.heap.size W w1 → Kc (a.put o.dst (.slice (some ⟨g, 0, none⟩) n n)) w1) :
    if Region.wanted o (yielded ops a.tmps) = true then Oper.wp Try.prog o a W Kc Q' else Kc (a.put o.dst undef) W :=
  event_step hw hrun (h _ rfl _ (blk_new W _) (below_alloc (Below.refl _ _) _))
set_option maxHeartbeats 4000000 in
set_option maxRecDepth 100000 in
theorem sums_far (A : Option Addr) (n c : Nat) (cut : Int) (w : World) (h : 500 < n) (hl : n ≤ 140737488351232) :
    Calls Try.prog 3 #[.slice A n c, .int .u16 cut] w fun e w' => e = .returned (.bool true) ∧ Below w.heap.size w w' := by
  have HB := Aside0.mk (Below.refl w.heap.size w)
  go_enter Try.func3, Try.ntmps3
  go_wp2_with (go_at_call 8; refine (awake_calls _).mono ?_; rintro e w1 ⟨rfl, hb1⟩; have n1_ := Aside0.mk (below_step HB.out hb1); clear HB hb1; have HB := n1_; clear n1_)
  go_ret
  exact ⟨rfl, HB.out⟩
set_option maxHeartbeats 8000000 in
set_option maxRecDepth 100000 in
theorem sums_calls (A : Option Addr) (n c : Nat) (cut : Int) (t : List Int) (w : World) (hn : t.length = n) (h : n ≤ 500) (hcap : n ≤ c) (hb : Bytes w A t) (hall : AllB t) (h0 : 0 ≤ cut) (h1 : cut ≤ 65535) :
    Calls Try.prog 3 #[.slice A n c, .int .u16 cut] w fun e w' => e = .returned (.bool true) ∧ Below w.heap.size w w' := by
  have HY := Aside0.mk hb
  have HA := Aside0.mk hall
  have HN := Aside0.mk hn
  have HCap := Aside0.mk hcap
  have k1 : ¬ (500 < n) := by omega
  obtain ⟨k, hk⟩ : ∃ k : Nat, cut % ((n : Int) + 1) = (k : Int) := Int.eq_ofNat_of_zero_le (Int.emod_nonneg _ (by omega))
  have hkn : k ≤ n := by have := Int.emod_lt_of_pos cut (show (0 : Int) < (n : Int) + 1 by omega); omega
  have hk2 : cut.tmod ((n : Int) + 1) = (k : Int) := by rw [Int.tmod_eq_emod_of_nonneg h0]; exact hk
  have z0 : 0 ≤ (k : Int) := by omega
  have zl : (k : Int) ≤ (n : Int) := by omega
  obtain ⟨A4, hA4⟩ : ∃ A4, (if c = k then A else A.map (·.add (k * 1))) = A4 := ⟨_, rfl⟩
  obtain ⟨i0, hi0, hzz⟩ := Option.map_eq_some_iff.1 info5
  simp only [Prod.mk.injEq] at hzz
  have kt := cut_to (P := Try.prog) 22 5 .i64 Try.underlying22 hi0 A n c k z0 zl hcap
  have kf := cut_from (P := Try.prog) 22 5 .i64 Try.underlying22 hi0 1 hzz.2.1 A n c k z0 zl
  rw [Int.toNat_natCast] at kt kf
  rw [hA4] at kf
  have HP1 := Aside0.mk (show Bytes w A (t.take k) from hb.take k)
  have HP2 := Aside0.mk (show Bytes w A4 (t.drop k) from hb.drop (by rw [hn]; exact hcap) hA4)
  have HL1 := Aside0.mk (show (t.take k).length = k by rw [List.length_take]; omega)
  have HL2 := Aside0.mk (show (t.drop k).length = n - k by rw [List.length_drop, hn])
  have HFl := Aside0.mk (show [t.take k, t.drop k].flatten = t by simp)
  have HLe := Aside0.mk (show t.length ≤ 500 by omega)
  have keq := fun w' => eq_array (digest t) (digest_len _) w'
  have HB := Aside0.mk (Below.refl w.heap.size w)
  clear hb hall hn hcap hA4 hi0 hzz
  go_enter Try.func3, Try.ntmps3
  go_wp2_with (go_at_call 8; refine (awake_calls _).mono ?_; rintro e w1 ⟨rfl, hb1⟩; have n1_ := Aside0.mk (below_step HB.out hb1); clear HB hb1; have HB := n1_; clear n1_)
  have n_HB := Aside0.mk (below_drew1 HB.out)
  clear HB
  have HB := n_HB
  clear n_HB
  refine start_ (n := 12) (S := fun w' => True) (ds := []) #[false, false, false, false, false, false, false, false, false, false, false, false] (by kernel_rfl) rfl rfl trivial (fun hHeld => ?_)
  refine pure_ (i := 0) (N := some 20) (v := ?_) (a' := ?_) #[true, false, false, false, false, false, false, false, false, false, false, false] rfl rfl (by kernel_rfl) (fun _ _ _ h => h) (Or.inl ⟨by rfl, ?_⟩) ?_ ?_
  rotate_left
  · intro w'
    go_simp
    with_reducible rfl
  rotate_left
  · simp only [Act.put, List.setIfInBounds_toArray, List.set_cons_zero, List.set_cons_succ, i64_w, i32_w]
    rfl
  refine pure_ (i := 1) (N := some 21) (v := ?_) (a' := ?_) #[true, true, false, false, false, false, false, false, false, false, false, false] rfl rfl (by kernel_rfl) (fun _ _ _ h => h) (Or.inl ⟨by rfl, ?_⟩) ?_ ?_
  rotate_left
  · intro w'
    go_simp
    with_reducible rfl
  rotate_left
  · simp only [Act.put, List.setIfInBounds_toArray, List.set_cons_zero, List.set_cons_succ, i64_w, i32_w]
    rfl
  refine pure_ (i := 2) (N := some 22) (v := ?_) (a' := ?_) #[true, true, true, false, false, false, false, false, false, false, false, false] rfl rfl (by kernel_rfl) (fun _ _ _ h => h) (Or.inl ⟨by rfl, ?_⟩) ?_ ?_
  rotate_left
  · intro w'
    go_simp
    with_reducible rfl
  rotate_left
  · simp only [Act.put, List.setIfInBounds_toArray, List.set_cons_zero, List.set_cons_succ, i64_w, i32_w]
    rfl
  refine pure_ (i := 3) (N := some 23) (v := ?_) (a' := ?_) #[true, true, true, true, false, false, false, false, false, false, false, false] rfl rfl (by kernel_rfl) (fun _ _ _ h => h) (Or.inl ⟨by rfl, ?_⟩) ?_ ?_
  rotate_left
  · intro w'
    go_simp
    with_reducible rfl
  rotate_left
  · simp only [Act.put, List.setIfInBounds_toArray, List.set_cons_zero, List.set_cons_succ, i64_w, i32_w]
    rfl
  refine pure_ (i := 4) (N := some 24) (v := ?_) (a' := ?_) #[true, true, true, true, true, false, false, false, false, false, false, false] rfl rfl (by kernel_rfl) (fun _ _ _ h => h) (Or.inl ⟨by rfl, ?_⟩) ?_ ?_
  rotate_left
  · intro w'
    go_simp
    with_reducible rfl
  rotate_left
  · simp only [Act.put, List.setIfInBounds_toArray, List.set_cons_zero, List.set_cons_succ, i64_w, i32_w]
    rfl
  refine pure_ (i := 5) (N := some 25) (v := ?_) (a' := ?_) #[true, true, true, true, true, true, false, false, false, false, false, false] rfl rfl (by kernel_rfl) (fun _ _ _ h => h) (Or.inl ⟨by rfl, ?_⟩) ?_ ?_
  rotate_left
  · intro w'
    go_simp
    with_reducible rfl
  rotate_left
  · simp only [Act.put, List.setIfInBounds_toArray, List.set_cons_zero, List.set_cons_succ, i64_w, i32_w]
    rfl
  refine pure_ (i := 8) (N := some 28) (v := ?_) (a' := ?_) #[true, true, true, true, true, true, false, false, true, false, false, false] rfl rfl (by kernel_rfl) (fun _ _ _ h => h) (Or.inl ⟨by rfl, ?_⟩) ?_ ?_
  rotate_left
  · intro w'
    go_simp
    with_reducible rfl
  rotate_left
  · simp only [Act.put, List.setIfInBounds_toArray, List.set_cons_zero, List.set_cons_succ, i64_w, i32_w]
    rfl
  refine one_ (i := 6) (N := some 26) #[true, true, true, true, true, true, true, false, true, false, false, false] rfl rfl (by kernel_rfl) (by decide) (fun K hK => ?_)
  refine slices_step #[.slice A k c, .slice A4 (n - k) (c - k)] 2 (by rfl) ?hr6 ?_
  case hr6 => first | (go_simp; done) | (go_simp; rfl)
  intro gp hgp wz hbx hb
  have X := Aside0.mk hbx
  have n_HB := Aside0.mk (below_step HB.out hb)
  clear HB hb hgp hbx
  have HB := n_HB
  clear n_HB
  refine hK.out _ _ trivial (fun hHeld => ?_)
  clear hK K
  refine norm_ (a' := ?_) ?_ ?_
  rotate_left
  · show Act.put _ (some 26) _ = _
    simp only [Act.put, List.setIfInBounds_toArray, List.set_cons_zero, List.set_cons_succ, i64_w, i32_w]
    rfl
  refine one_ (i := 7) (N := some 27) #[true, true, true, true, true, true, true, true, true, false, false, false] rfl rfl (by kernel_rfl) (by decide) (fun K hK => ?_)
  refine goes_ Try.func9 (by kernel_rfl) rfl #[.slice (some ⟨gp, 0, none⟩) 2 2] (by rfl) rfl rfl (by simp only [List.map_toArray, List.map_cons, List.map_nil]; rfl) ?_
  have hc := of_calls (some ⟨gp, 0, none⟩) 2 2 [t.take k, t.drop k] _ rfl (parts_two X.out HL1.out HL2.out (HP1.out.below HB.out) (HP2.out.below HB.out)) (by rw [HFl.out]; have := HLe.out; omega) (by decide)
  rw [HFl.out] at hc
  refine hc.mono ?_
  clear hc
  rintro e wz ⟨rfl, hb⟩
  refine ⟨_, rfl, ?_⟩
  have n_HB := Aside0.mk (below_step HB.out hb)
  clear HB hb X
  have HB := n_HB
  clear n_HB
  refine hK.out _ _ trivial (fun hHeld => ?_)
  clear hK K
  refine norm_ (a' := ?_) ?_ ?_
  rotate_left
  · show Act.put _ (some 27) _ = _
    simp only [Act.put, List.setIfInBounds_toArray, List.set_cons_zero, List.set_cons_succ, i64_w, i32_w]
    rfl
  refine one_ (i := 9) (N := some 29) #[true, true, true, true, true, true, true, true, true, true, false, false] rfl rfl (by kernel_rfl) (by decide) (fun K hK => ?_)
  refine goes_ Try.func10 (by kernel_rfl) rfl #[.slice A n c] (by rfl) rfl rfl (by simp only [List.map_toArray, List.map_cons, List.map_nil]; rfl) ?_
  have hc := rof_calls A c t _ (HY.out.below HB.out) HA.out (by have := HLe.out; omega) (by rw [HN.out]; exact HCap.out)
  rw [HN.out] at hc
  refine hc.mono ?_
  clear hc
  rintro e wz ⟨rfl, hb⟩
  refine ⟨_, rfl, ?_⟩
  have n_HB := Aside0.mk (below_step HB.out hb)
  try (have n_X := Aside0.mk (blk_below X.out hb); clear X; have X := n_X; clear n_X)
  clear HB hb
  have HB := n_HB
  clear n_HB
  refine hK.out _ _ trivial (fun hHeld => ?_)
  clear hK K
  refine norm_ (a' := ?_) ?_ ?_
  rotate_left
  · show Act.put _ (some 29) _ = _
    simp only [Act.put, List.setIfInBounds_toArray, List.set_cons_zero, List.set_cons_succ, i64_w, i32_w]
    rfl
  refine pure_ (i := 10) (N := some 30) (v := ?_) (a' := ?_) #[true, true, true, true, true, true, true, true, true, true, true, false] rfl rfl (by kernel_rfl) (fun _ _ _ h => h) (Or.inl ⟨by rfl, ?_⟩) ?_ ?_
  rotate_left
  · intro w'
    go_simp
    with_reducible rfl
  rotate_left
  · simp only [Act.put, List.setIfInBounds_toArray, List.set_cons_zero, List.set_cons_succ, i64_w, i32_w]
    rfl
  refine pure_ (i := 11) (N := some 4) (v := ?_) (a' := ?_) #[true, true, true, true, true, true, true, true, true, true, true, true] rfl rfl (by kernel_rfl) (fun _ _ _ h => h) (Or.inl ⟨by rfl, ?_⟩) ?_ ?_
  rotate_left
  · intro w'
    go_simp
    with_reducible rfl
  rotate_left
  · simp only [Act.put, List.setIfInBounds_toArray, List.set_cons_zero, List.set_cons_succ, i64_w, i32_w]
    rfl
  refine done_ (by kernel_rfl) ?_
  go_wp2
  go_ret
  exact ⟨rfl, HB.out⟩
theorem sums_law (A : Option Addr) (n c : Nat) (cut : Int) (t : List Int) (w : World) (hn : t.length = n) (hl : n * 1 ≤ 140737488351232) (hcap : n ≤ c) (hb : Bytes w A t) (hall : AllB t) (h0 : 0 ≤ cut) (h1 : cut ≤ 65535) :
    Calls Try.prog 3 #[.slice A n c, .int .u16 cut] w fun e w' => e = .returned (.bool true) ∧ Below w.heap.size w w' := by
  by_cases h : n ≤ 500
  · exact sums_calls A n c cut t w hn h hcap hb hall h0 h1
  · exact sums_far A n c cut w (by omega) (by omega)
end Go.Proofs.Ytlniejfbkcgneaa.HashT

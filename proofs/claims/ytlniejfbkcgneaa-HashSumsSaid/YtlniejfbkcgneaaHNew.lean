/- Proved: hash.New begins a sum; conditions: the theorems' own premises. -/
import Derived.Test.YtlniejfbkcgneaaHAdd
namespace Go.Proofs.Ytlniejfbkcgneaa.HashT
open Go.RowKit Go.Proofs.Ytlniejfbkcgneaa.YHash Go.Proofs.YtlniejfbkcgneaaW.PrintWords Go.Proofs.YtlniejfbkcgneaaW.PrintLast Go.Proofs.YtlniejfbkcgneaaW.PrintMore
set_option linter.unusedVariables false
set_option linter.unusedSimpArgs false
def begins : ByteArray := ⟨#[54, 97, 48, 57, 101, 54, 54, 55, 98, 98, 54, 55, 97, 101, 56, 53, 51, 99, 54, 101, 102, 51, 55, 50, 97, 53, 52, 102, 102, 53, 51, 97, 53, 49, 48, 101, 53, 50, 55, 102, 57, 98, 48, 53, 54, 56, 56, 99, 49, 102, 56, 51, 100, 57, 97, 98, 53, 98, 101, 48, 99, 100, 49, 57]⟩
theorem begins_size : begins.size = 64 := by kernel_rfl
def word (t : Nat) : Int := digN (begins.extract (8 * t) (8 * t + 8)) 8
theorem words_are : (List.range 8).map word = h0 := by decide +kernel
theorem begin_calls (t : Nat) (ht : t < 8) (C : Value) (hC : Aside0 (.string begins = C)) (w : World) : Calls Try.prog 18 #[C, .int .i64 (t : Int)] w fun e w' => e = .returned (.int .u32 (word t)) ∧ Below w.heap.size w w' := by
  obtain ⟨rfl⟩ := hC
  exact digits_calls begins t w (by rw [begins_size]; omega) (by rw [begins_size]; omega)
theorem nil_row (w : World) (base : Nat) : QRow w base 5 1 (.slice none 0 0) ([] : List Int).length (nums .u8 []) := ⟨rfl, .inl ⟨rfl, none, rfl, fun a ha => by cases ha⟩⟩
set_option maxHeartbeats 4000000 in
set_option maxRecDepth 100000 in
theorem new_calls (w : World) : Calls Try.prog 11 #[] w fun e w' => ∃ g, e = .returned (.pointer (some ⟨g, 0, none⟩)) ∧ w.heap.size ≤ g ∧ SumAt w' w.heap.size g none [] ∧ Below w.heap.size w w' := by
  have HB := Aside0.mk (Below.refl w.heap.size w)
  go_enter Try.func11, Try.ntmps11
  obtain ⟨C, hC⟩ : ∃ C, Value.string begins = C := ⟨_, rfl⟩
  have HC := Aside0.mk hC
  unfold begins at hC
  rw [hC]
  clear hC
  go_wp2_with ((with_reducible refine gate_dst (N := 4) rfl ?_); refine stop_here ?_)
  refine ⟨?_⟩
  refine box_event rfl (N := 4) rfl (cs := ⟨sumCells (zeros 8) (.slice none 0 0) 0⟩) (t := 46) ?hr ?_
  case hr => first | (go_simp; done) | (go_simp; rfl)
  intro g hg w1 hbox hb
  have HG := Aside0.mk (show w.heap.size ≤ g by rw [hg]; exact Nat.le_refl _)
  have HX := Aside0.mk hbox
  have HB1 := Aside0.mk (below_step HB.out hb)
  clear HB hg hbox hb
  go_wp2
  go_loopg [5] 8 (fun kq v5 w' => ∃ (t : Nat) (xs : List Int), t ≤ 8 ∧ v5 = .int .i64 (t : Int) ∧ Aside0 (kq = 8 - t) ∧ Aside0 (xs = (List.range t).map word ++ zeros (8 - t)) ∧ Aside0 (w'.heap[g]? = some (.cells ⟨sumCells xs (.slice none 0 0) 0⟩ 46 (0, 0))) ∧ Aside0 (Below w.heap.size w w'))
  case atStart => exact ⟨0, zeros 8, by omega, rfl, ⟨rfl⟩, ⟨rfl⟩, HX, HB1⟩
  case round =>
    clear HX HB1
    obtain ⟨t, xs, ht, rfl, HK, HW, HX, HB⟩ := hrel
    have HL := Aside0.mk (show xs.length = 8 by rw [HW.out]; unfold zeros; simp; omega)
    by_cases hlt : t < 8
    · have zt : 0 ≤ (t : Int) := by omega
      have lt : (t : Int) < 8 := by omega
      go_wp2
      have X0 := Aside0.mk (blk_drew HX.out)
      have B0 := Aside0.mk (below_drew1 HB.out)
      clear HX HB
      refine start_ (n := 8) (S := fun w' => True) (ds := []) #[false, false, false, false, false, false, false, false] (by kernel_rfl) rfl rfl (trivial) (fun hHeld => ?_)
      refine pure_ (i := 0) (N := some 8) (v := ?_) (a' := ?_) #[true, false, false, false, false, false, false, false] rfl rfl (by kernel_rfl) (fun _ _ _ h => h) (Or.inl ⟨by rfl, ?_⟩) ?_ ?_
      rotate_left
      · intro w'
        go_simp
        with_reducible rfl
      rotate_left
      · simp only [Act.put, List.setIfInBounds_toArray, List.set_cons_zero, List.set_cons_succ, i64_w, i32_w]
        rfl
      refine pure_ (i := 1) (N := some 9) (v := ?_) (a' := ?_) #[true, true, false, false, false, false, false, false] rfl rfl (by kernel_rfl) (fun _ _ _ h => h) (Or.inl ⟨by rfl, ?_⟩) ?_ ?_
      rotate_left
      · intro w'
        go_simp
        with_reducible rfl
      rotate_left
      · simp only [Act.put, List.setIfInBounds_toArray, List.set_cons_zero, List.set_cons_succ, i64_w, i32_w]
        rfl
      refine pure_ (i := 2) (N := some 10) (v := ?_) (a' := ?_) #[true, true, true, false, false, false, false, false] rfl rfl (by kernel_rfl) (fun _ _ _ h => h) (Or.inl ⟨by rfl, ?_⟩) ?_ ?_
      rotate_left
      · intro w'
        go_simp
        with_reducible rfl
      rotate_left
      · simp only [Act.put, List.setIfInBounds_toArray, List.set_cons_zero, List.set_cons_succ, i64_w, i32_w]
        rfl
      refine pure_ (i := 4) (N := some 12) (v := ?_) (a' := ?_) #[true, true, true, false, true, false, false, false] rfl rfl (by kernel_rfl) (fun _ _ _ h => h) (Or.inl ⟨by rfl, ?_⟩) ?_ ?_
      rotate_left
      · intro w'
        go_simp
        with_reducible rfl
      rotate_left
      · simp only [Act.put, List.setIfInBounds_toArray, List.set_cons_zero, List.set_cons_succ, i64_w, i32_w]
        rfl
      refine pure_ (i := 5) (N := some 13) (v := ?_) (a' := ?_) #[true, true, true, false, true, true, false, false] rfl rfl (by kernel_rfl) (fun _ _ _ h => h) (Or.inl ⟨by rfl, ?_⟩) ?_ ?_
      rotate_left
      · intro w'
        go_simp
        with_reducible rfl
      rotate_left
      · simp only [Act.put, List.setIfInBounds_toArray, List.set_cons_zero, List.set_cons_succ, i64_w, i32_w]
        rfl
      refine one_ (i := 3) (N := some 11) #[true, true, true, true, true, true, false, false] rfl rfl (by kernel_rfl) (by decide) (fun K hK => ?_)
      refine goes_ Try.func18 (by kernel_rfl) rfl #[C, .int .i64 (t : Int)] (by rfl) rfl rfl (by simp only [List.map_toArray, List.map_cons, List.map_nil]; rfl) ?_
      with_reducible refine (begin_calls t hlt C HC _).mono ?_
      rintro e w3 ⟨rfl, hb⟩
      refine ⟨_, rfl, ?_⟩
      have X1 := Aside0.mk (blk_below X0.out hb)
      have B1 := Aside0.mk (below_step B0.out hb)
      clear X0 B0 hb
      refine hK.out _ _ (trivial) (fun hHeld => ?_)
      clear hK K
      refine norm_ (a' := ?_) ?_ ?_
      rotate_left
      · show Act.put _ (some 11) _ = _
        simp only [Act.put, List.setIfInBounds_toArray, List.set_cons_zero, List.set_cons_succ, i64_w, i32_w]
        rfl
      refine pure_ (i := 6) (N := some 14) (v := ?_) (a' := ?_) #[true, true, true, true, true, true, true, false] rfl rfl (by kernel_rfl) (fun _ _ _ h => h) (Or.inl ⟨by rfl, ?_⟩) ?_ ?_
      rotate_left
      · intro w'
        go_simp
        with_reducible rfl
      rotate_left
      · simp only [Act.put, List.setIfInBounds_toArray, List.set_cons_zero, List.set_cons_succ, i64_w, i32_w]
        rfl
      refine one_ (i := 7) (N := none) #[true, true, true, true, true, true, true, true] rfl rfl (by kernel_rfl) (by decide) (fun K hK => ?_)
      have f0 := blk_frozen X1.out t
      have c0 := (blk_cell X1.out t).trans (sum_at xs (.slice none 0 0) 0 (show t < xs.length by rw [HL.out]; exact hlt))
      refine skip_ (w1 := ?_) (by rfl) rfl ?_ ?_
      rotate_left
      · go_simp
        rfl
      clear f0 c0
      have X2 := Aside0.mk ((blk_set X1.out t (.int .u32 (word t))).trans (by rw [sum_set xs _ _ (show t < xs.length by rw [HL.out]; exact hlt)]))
      have B2 := Aside0.mk (below_set (j := t) (v := .int .u32 (word t)) B1.out HG.out)
      clear X1 B1
      refine hK.out _ _ (trivial) (fun hHeld => ?_)
      clear hK K
      refine done_ (by kernel_rfl) ?_
      go_wp2
      go_roundg (7 - t)
      case measure => have := HK.out; omega
      case rel => exact ⟨t + 1, xs.set t (word t), by omega, by go_num, ⟨by omega⟩, ⟨by
        rw [HW.out]
        have hz : zeros (8 - t) = 0 :: zeros (8 - (t + 1)) := by rw [← zeros_succ]; congr 1; omega
        have hlen : ((List.range t).map word).length = t := by simp
        rw [hz, List.set_append_right _ _ (by rw [hlen]; exact Nat.le_refl _), hlen, Nat.sub_self, List.set_cons_zero, List.range_succ, List.map_append, List.append_assoc]
        rfl⟩, X2, B2⟩
    · have HT : Aside0 (t = 8) := ⟨by omega⟩
      go_wp2
      go_ret
      refine ⟨g, rfl, HG.out, ⟨.slice none 0 0, rfl, ?_⟩, HB.out⟩
      have e : xs = h0 := by rw [HW.out, HT.out, words_are]; simp [zeros]
      rw [full_nil]
      refine ⟨?_, nil_row _ _, rfl⟩
      rw [← e]
      exact HX.out
end Go.Proofs.Ytlniejfbkcgneaa.HashT

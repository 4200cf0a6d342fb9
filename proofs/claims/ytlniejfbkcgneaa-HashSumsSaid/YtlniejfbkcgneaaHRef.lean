/- Proved: the reference's words and its filling; conditions: the theorems' own premises. -/
import Derived.Test.YtlniejfbkcgneaaHBits
namespace Go.Proofs.Ytlniejfbkcgneaa.HashT
open Go.RowKit Go.Proofs.Ytlniejfbkcgneaa.YHash Go.Proofs.YtlniejfbkcgneaaW.PrintWords Go.Proofs.YtlniejfbkcgneaaW.PrintLast Go.Proofs.YtlniejfbkcgneaaW.PrintMore
set_option linter.unusedVariables false
set_option linter.unusedSimpArgs false
theorem rkay_all : (List.range 64).all (fun t => decide (shutterref01_Word.f 20 rounds (t : Int) = some (kay t)) && decide (0 ≤ kay t) && decide (kay t < 4294967296)) = true := by decide +kernel
theorem rword_all : (List.range 8).all (fun t => decide (shutterref01_Word.f 20 begins (t : Int) = some (word t))) = true := by decide +kernel
theorem rkay_f {t : Nat} (ht : t < 64) : shutterref01_Word.f 20 rounds (t : Int) = some (kay t) ∧ W32 (kay t) := by
  have h := List.all_eq_true.1 rkay_all t (List.mem_range.2 ht)
  simp only [Bool.and_eq_true, decide_eq_true_eq] at h
  exact ⟨h.1.1, h.1.2, h.2⟩
theorem rword_f {t : Nat} (ht : t < 8) : shutterref01_Word.f 20 begins (t : Int) = some (word t) := by
  have h := List.all_eq_true.1 rword_all t (List.mem_range.2 ht)
  simpa using h
theorem rkay_calls (t : Nat) (ht : t < 64) (C : Value) (hC : Aside0 (.string rounds = C)) (w : World) : Calls Try.prog 15 #[C, .int .i64 (t : Int)] w fun e w' => e = .returned (.int .i64 (kay t)) ∧ ∃ m, w' = w.drewN m := by
  obtain ⟨rfl⟩ := hC
  exact (shutterref01_Word.calls 20 rounds t _ w (rkay_f ht).1).mono fun _ _ ⟨he, hw⟩ => ⟨he, hw.out⟩
theorem rword_calls (t : Nat) (ht : t < 8) (C : Value) (hC : Aside0 (.string begins = C)) (w : World) : Calls Try.prog 15 #[C, .int .i64 (t : Int)] w fun e w' => e = .returned (.int .i64 (word t)) ∧ ∃ m, w' = w.drewN m := by
  obtain ⟨rfl⟩ := hC
  exact (shutterref01_Word.calls 20 begins t _ w (rword_f ht)).mono fun _ _ ⟨he, hw⟩ => ⟨he, hw.out⟩
theorem rbyte {n i : Nat} (hn : n ≤ 1000000) (hi : i < 8) : (Go.bits .and .i64 (shr .i64 (8 * (n : Int)) (IntKind.u64.wrap (wrap64 (56 - (wrap64 (8 * (i : Int))))))) 255) % 256 = byte8 n i := by
  have k1 : wrap64 (8 * (i : Int)) = 8 * (i : Int) := by unfold wrap64; omega
  have k2 : wrap64 (56 - 8 * (i : Int)) = ((56 - 8 * i : Nat) : Int) := by unfold wrap64; omega
  have k3 : IntKind.u64.wrap ((56 - 8 * i : Nat) : Int) = ((56 - 8 * i : Nat) : Int) := by simp [IntKind.wrap, IntKind.bits, IntKind.signed]; omega
  rw [k1, k2, k3]
  have e1 : shr .i64 (8 * (n : Int)) ((56 - 8 * i : Nat) : Int) = ((8 * n / 2 ^ (56 - 8 * i) : Nat) : Int) := by
    unfold shr
    rw [Int.toNat_natCast, show IntKind.i64.bits = 64 from rfl, Nat.min_eq_left (show 56 - 8 * i ≤ 64 by omega), Int.natCast_ediv, Int.natCast_pow]; rfl
  have h2 : 8 * n / 2 ^ (56 - 8 * i) < 2 ^ 63 := Nat.lt_of_le_of_lt (Nat.div_le_self _ _) (by omega)
  have hm : (255 : Int) = ((2 ^ 8 - 1 : Nat) : Int) := by decide
  rw [e1, hm, i64_and h2 (by decide), Nat.and_two_pow_sub_one_eq_mod]
  unfold byte8
  generalize 8 * n / 2 ^ (56 - 8 * i) = q
  omega
theorem rfill_tail (l : List Int) (hl : l.length ≤ 1000) (d : Nat) : ∀ i : Nat, i ≤ 8 → 8 - i = d → Ev (fun k => shutterref01_Fill.l1 k (l ++ tailB (padN l.length) l.length i) (8 * (l.length : Int)) (i : Int)) (l ++ tailOf l.length) := by
  induction d with
  | zero =>
    intro i hi hd
    obtain rfl : i = 8 := by omega
    refine Ev.step (f := fun _ => some (l ++ tailOf l.length)) (fun k => ?_) (Ev.now _)
    rw [shutterref01_Fill.l1, if_neg (by omega), tailB_of]
  | succ d ih =>
    intro i hi hd
    have h2 := ih (i + 1) (by omega) (by omega)
    refine Ev.step (fun k => ?_) h2
    have hlen : (l ++ tailB (padN l.length) l.length i).length < 140737488355328 := by rw [List.length_append, tailB_len]; have := padN_lt l.length; omega
    have k1 : wrap64 (8 * (i : Int)) = 8 * (i : Int) := by unfold wrap64; omega
    have k2 : wrap64 (56 - 8 * (i : Int)) = ((56 - 8 * i : Nat) : Int) := by unfold wrap64; omega
    have k3 : IntKind.u64.wrap ((56 - 8 * i : Nat) : Int) = ((56 - 8 * i : Nat) : Int) := by simp [IntKind.wrap, IntKind.bits, IntKind.signed]; omega
    have k4 : wrap64 ((i : Int) + 1) = ((i + 1 : Nat) : Int) := by unfold wrap64; omega
    rw [shutterref01_Fill.l1, if_pos (by omega), if_pos (by rw [k1, k2, k3]; exact Int.natCast_nonneg _), if_pos hlen, rbyte (by omega) (by omega), k4, tailB_succ, List.append_assoc]
theorem rfill_zeros (l : List Int) (hl : l.length ≤ 1000) (d : Nat) : ∀ j : Nat, j ≤ padN l.length → padN l.length - j = d → Ev (fun k => shutterref01_Fill.l0 k l (l ++ ((128 : Int) :: List.replicate j 0))) (l ++ tailOf l.length) := by
  induction d with
  | zero =>
    intro j hj hd
    obtain rfl : j = padN l.length := by omega
    refine Ev.step (fun k => ?_) (rfill_tail l hl 8 0 (by omega) rfl)
    have hlen : ((l ++ ((128 : Int) :: List.replicate (padN l.length) 0)).length : Int) % 64 = 56 := by
      rw [List.length_append, tail_len]
      have := padN_at l.length
      omega
    have k1 : wrap64 (8 * (l.length : Int)) = 8 * (l.length : Int) := by unfold wrap64; omega
    rw [shutterref01_Fill.l0, if_pos hlen, k1, tailB_zero]; rfl
  | succ d ih =>
    intro j hj hd
    have h2 := ih (j + 1) (by omega) (by omega)
    refine Ev.step (fun k => ?_) h2
    have hlen : ¬ (((l ++ ((128 : Int) :: List.replicate j 0)).length : Int) % 64 = 56) := by
      rw [List.length_append, tail_len]
      have := padN_ne l.length j (by omega)
      omega
    have hlt : (l ++ ((128 : Int) :: List.replicate j 0)).length < 140737488355328 := by rw [List.length_append, tail_len]; have := padN_lt l.length; omega
    rw [shutterref01_Fill.l0, if_neg hlen, if_pos hlt, List.append_assoc, tail_more]
theorem rfill_ev (l : List Int) (hl : l.length ≤ 1000) : Ev (fun k => shutterref01_Fill.f k l) (l ++ tailOf l.length) := by
  have h := rfill_zeros l hl (padN l.length) 0 (by omega) (by omega)
  refine Ev.congr (fun k => ?_) h
  unfold shutterref01_Fill.f
  simp only [Option.bind_some, List.nil_append]
  rw [if_pos (by simp; omega), if_pos (by omega)]
  rfl
end Go.Proofs.Ytlniejfbkcgneaa.HashT

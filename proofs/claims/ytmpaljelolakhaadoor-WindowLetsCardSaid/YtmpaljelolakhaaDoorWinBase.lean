/- Proved: what the printed functions of the window answer, said by bits of natural numbers; conditions: the theorems' own premises. -/
import Derived.Test.YtmpaljelolakhaaDoorYWinx
import Derived.Laws.BitsAllLaws
namespace Go.Proofs.YtmpaljelolakhaaDoor.WinBase
open Go.RowKit Go.Proofs.YtmpaljelolakhaaDoor.YWin Go.Proofs.YtmpaljelolakhaaDoorW.PrintWords Go.Proofs.YtmpaljelolakhaaDoorW.PrintLast Go.Proofs.YtmpaljelolakhaaDoorW.PrintMore
set_option linter.unusedVariables false

/-- The greatest number. -/
def most : Nat := 4611686018427387904
theorem wrap_in {x : Int} (h1 : -9223372036854775808 ≤ x) (h2 : x ≤ 9223372036854775807) : wrap64 x = x := by unfold wrap64; omega

theorem and_one (a : Nat) (ha : a < 18446744073709551616) : Go.bits .and .u64 (a : Int) 1 = ((a % 2 : Nat) : Int) := by
  have h := u64_and_nat a 1 ha (by omega)
  rw [nat_mask1] at h
  exact h
theorem shr_nat (B : Nat) (j : Nat) (hj : j ≤ 64) : shr .u64 (B : Int) (j : Int) = ((B / 2 ^ j : Nat) : Int) := by
  unfold shr
  have e : min (j : Int).toNat IntKind.u64.bits = j := by
    show min (j : Int).toNat 64 = j
    omega
  rw [e, Int.natCast_ediv, Int.natCast_pow]; rfl
theorem div_lt (B : Nat) (hB : B < 18446744073709551616) (j : Nat) : B / 2 ^ j < 18446744073709551616 := Nat.lt_of_le_of_lt (Nat.div_le_self _ _) hB
theorem bit_at (B : Nat) (hB : B < 18446744073709551616) (j : Nat) (hj : j < 64) : Go.bits .and .u64 (shr .u64 (B : Int) (j : Int)) 1 = if B.testBit j then 1 else 0 := by
  rw [shr_nat B j (by omega), and_one _ (div_lt B hB j)]
  rw [Nat.testBit_eq_decide_div_mod_eq]
  have := Nat.mod_two_eq_zero_or_one (B / 2 ^ j)
  rcases this with h | h <;> simp [h]

/-- n is among the numbers that were seen. -/
def has (T B : Nat) (n : Int) : Bool := decide (1 ≤ n ∧ n ≤ T ∧ (T : Int) - n < 64) && B.testBit ((T : Int) - n).toNat
theorem has_eq (T B : Nat) (n : Int) (hT : T ≤ most) (hB : B < 18446744073709551616) (h1 : -9223372036854775808 ≤ n) (h2 : n ≤ 9223372036854775807) : window_Has.f T B n = some (has T B n) := by
  unfold most at hT
  unfold window_Has.f has
  by_cases c1 : n ≥ 1
  · rw [if_pos c1]
    by_cases c2 : n ≤ (T : Int)
    · rw [if_pos c2, wrap_in (by omega) (by omega)]
      by_cases c3 : (T : Int) - n < 64
      · rw [if_pos c3, if_pos (by omega)]
        obtain ⟨j, hj⟩ := Int.eq_ofNat_of_zero_le (show 0 ≤ (T : Int) - n by omega)
        rw [hj, bit_at B hB j (by omega), Int.toNat_natCast]
        rw [decide_eq_true (by omega : 1 ≤ n ∧ n ≤ (T : Int) ∧ (j : Int) < 64)]
        cases B.testBit j <;> rfl
      · rw [if_neg c3, decide_eq_false (by omega)]; rfl
    · rw [if_neg c2, decide_eq_false (by omega)]; rfl
  · rw [if_neg c1, decide_eq_false (by omega)]; rfl

/-- What is right. -/
def right (T B : Nat) : Bool := if T = 0 then decide (B = 0) else B.testBit 0 && (decide (64 ≤ T) || decide (B < 2 ^ T))
theorem right_eq (T B : Nat) (hT : T ≤ most) (hB : B < 18446744073709551616) : window_Right.f T B = some (right T B) := by
  unfold most at hT
  unfold window_Right.f right
  by_cases c0 : T = 0
  · subst c0
    rw [if_pos (by rfl), if_pos rfl]
    congr 1
    by_cases h : B = 0
    · subst h; rfl
    · rw [decide_eq_false h]; exact beq_eq_false_iff_ne.2 (by omega)
  · rw [if_neg (by omega), if_neg (by omega), if_neg (by omega), if_neg c0, and_one B hB, Nat.testBit_zero]
    rcases Nat.mod_two_eq_zero_or_one B with h | h
    · rw [if_pos (by omega), h]; rfl
    · rw [if_neg (by omega), h]
      by_cases c : T ≥ 64
      · rw [if_pos (by omega), decide_eq_true (by omega : 64 ≤ T)]; rfl
      · rw [if_neg (by omega), if_pos (by omega), shr_nat B T (by omega), decide_eq_false (by omega : ¬ 64 ≤ T)]
        congr 1
        by_cases hb : B < 2 ^ T
        · rw [Nat.div_eq_of_lt hb, decide_eq_true hb]; rfl
        · have h1 : 0 < B / 2 ^ T := Nat.div_pos (by omega) (Nat.two_pow_pos T)
          rw [decide_eq_false hb]
          exact beq_eq_false_iff_ne.2 (by omega)
theorem right_out (t : Int) (B : Nat) (h : t < 0 ∨ 4611686018427387904 < t) : window_Right.f t B = some false := by
  unfold window_Right.f
  rw [if_neg (by omega)]
  by_cases c : t < 0
  · rw [if_pos c]
  · rw [if_neg c, if_pos (by omega)]

/-- What is seen behind a number. -/
def letS (T B : Nat) (n : Int) : Int × Int × Option Int :=
  if n < 1 ∨ 4611686018427387904 < n then ((T : Int), (B : Int), some 1)
  else if n > T then (n, (((B * 2 ^ (n - T).toNat) % 18446744073709551616 ||| 1 : Nat) : Int), none)
  else if (T : Int) - n ≥ 64 then ((T : Int), (B : Int), some 12)
  else if B.testBit ((T : Int) - n).toNat then ((T : Int), (B : Int), some 12)
  else ((T : Int), ((B ||| 2 ^ ((T : Int) - n).toNat : Nat) : Int), none)

theorem shl_nat (B s : Nat) : shl .u64 (B : Int) (s : Int) = ((B * 2 ^ s % 18446744073709551616 : Nat) : Int) := by
  unfold shl
  have hw : ∀ x : Int, IntKind.u64.wrap x = x % 18446744073709551616 := fun x => IntKind.wrap_u64 x
  rw [hw]
  show ((B : Int) * 2 ^ min (s : Int).toNat 64) % 18446744073709551616 = _
  rw [Int.toNat_natCast]
  by_cases h : s ≤ 64
  · rw [Nat.min_eq_left h, Int.natCast_emod, Int.natCast_mul, Int.natCast_pow]; rfl
  · rw [Nat.min_eq_right (by omega)]
    obtain ⟨d, rfl⟩ : ∃ d, s = 64 + d := ⟨s - 64, by omega⟩
    have e1 : B * 2 ^ (64 + d) % 18446744073709551616 = 0 := by
      rw [Nat.pow_add, show (2 : Nat) ^ 64 = 18446744073709551616 from rfl, ← Nat.mul_assoc, Nat.mul_comm B, Nat.mul_assoc, Nat.mul_mod_right]
    rw [e1, show ((2 : Int) ^ 64) = 18446744073709551616 from rfl, Int.mul_emod_left]; rfl
theorem or_nat (a b : Nat) (ha : a < 18446744073709551616) (hb : b < 18446744073709551616) : Go.bits .or .u64 (a : Int) (b : Int) = ((a ||| b : Nat) : Int) := u64_or_nat a b ha hb
theorem pow_lt (s : Nat) (h : s < 64) : 2 ^ s < 18446744073709551616 := by
  have := Nat.pow_lt_pow_right (show 1 < 2 by omega) h
  simpa using this

theorem let_eq (k T B : Nat) (n : Int) (hT : T ≤ most) (hB : B < 18446744073709551616) (h1 : -9223372036854775808 ≤ n) (h2 : n ≤ 9223372036854775807) : window_Let.f (k + 1) T B n = some (letS T B n) := by
  have hT' := hT
  unfold most at hT
  unfold window_Let.f letS
  by_cases c1 : n < 1
  · rw [if_pos c1, if_pos (.inl c1)]; rfl
  · rw [if_neg c1]
    by_cases c2 : n > 4611686018427387904
    · rw [decide_eq_true c2, if_pos (.inr c2)]; rfl
    · rw [decide_eq_false c2, if_neg (show ¬ (n < 1 ∨ 4611686018427387904 < n) by omega)]
      simp only [window_Let.j0]
      rw [if_neg (show ¬ (false = true) by simp)]
      by_cases c3 : n > (T : Int)
      · rw [if_pos c3, if_pos c3, wrap_in (by omega) (by omega), if_pos (by omega)]
        obtain ⟨s, hs⟩ := Int.eq_ofNat_of_zero_le (show 0 ≤ n - (T : Int) by omega)
        rw [hs, shl_nat, Int.toNat_natCast]
        have := or_nat (B * 2 ^ s % 18446744073709551616) 1 (Nat.mod_lt _ (by omega)) (by omega)
        rw [show ((1 : Nat) : Int) = 1 from rfl] at this
        rw [this]
      · rw [if_neg c3, if_neg c3, wrap_in (by omega) (by omega)]
        by_cases c4 : (T : Int) - n ≥ 64
        · rw [if_pos c4, if_pos c4]
        · rw [if_neg c4, if_neg c4, has_eq T B n hT' hB h1 h2, Option.bind_some]
          unfold has
          rw [decide_eq_true (by omega : 1 ≤ n ∧ n ≤ (T : Int) ∧ (T : Int) - n < 64), Bool.true_and]
          by_cases c5 : B.testBit ((T : Int) - n).toNat = true
          · rw [if_pos c5, if_pos c5]
          · rw [if_neg c5, if_neg c5, if_pos (by omega)]
            obtain ⟨s, hs⟩ := Int.eq_ofNat_of_zero_le (show 0 ≤ (T : Int) - n by omega)
            rw [hs, Int.toNat_natCast]
            have e1 := shl_nat 1 s
            rw [show ((1 : Nat) : Int) = 1 from rfl, Nat.one_mul, Nat.mod_eq_of_lt (pow_lt s (by omega))] at e1
            rw [e1, or_nat B (2 ^ s) hB (pow_lt s (by omega))]
theorem let_ev (T B : Nat) (n : Int) (hT : T ≤ most) (hB : B < 18446744073709551616) (h1 : -9223372036854775808 ≤ n) (h2 : n ≤ 9223372036854775807) : Ev (fun k => window_Let.f k T B n) (letS T B n) :=
  ⟨1, fun k hk => by
    obtain ⟨m, rfl⟩ : ∃ m, k = m + 1 := ⟨k - 1, by omega⟩
    exact let_eq m T B n hT hB h1 h2⟩

theorem awake : Ev (fun k => shutterlaw20_awake.f k) true := Ev.of (fun k => shutterlaw20_awake.mono k) (k := 5) (by decide +kernel)
end Go.Proofs.YtmpaljelolakhaaDoor.WinBase

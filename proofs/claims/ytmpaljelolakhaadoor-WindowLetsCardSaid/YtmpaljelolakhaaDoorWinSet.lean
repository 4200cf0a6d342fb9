/- Proved: what is seen, as a set: what letting a number in does to it; conditions: the theorems' own premises. -/
import Derived.Test.YtmpaljelolakhaaDoorWinBase
namespace Go.Proofs.YtmpaljelolakhaaDoor.WinSet
open Go.RowKit Go.Proofs.YtmpaljelolakhaaDoor.WinBase
set_option linter.unusedVariables false

/-- Right, in plain words. -/
def Rt (T B : Nat) : Prop := T ≤ most ∧ B < 18446744073709551616 ∧ ((T = 0 ∧ B = 0) ∨ (0 < T ∧ B.testBit 0 = true ∧ ∀ j, B.testBit j = true → j < T))
theorem bit_lt {B : Nat} (hB : B < 18446744073709551616) {j : Nat} (h : B.testBit j = true) : j < 64 := by
  rcases Nat.lt_or_ge j 64 with h1 | h1
  · exact h1
  · exfalso
    have : B < 2 ^ j := Nat.lt_of_lt_of_le (show B < 2 ^ 64 by simpa using hB) (Nat.pow_le_pow_right (by omega) h1)
    rw [Nat.testBit_lt_two_pow this] at h
    cases h
theorem lt_pow {B n : Nat} (h : ∀ j, B.testBit j = true → j < n) : B < 2 ^ n := by
  refine Nat.lt_pow_two_of_testBit B fun i hi => ?_
  rcases hb : B.testBit i with _ | _
  · rfl
  · have := h i hb; omega
theorem bit_of_lt_pow {B n : Nat} (h : B < 2 ^ n) {j : Nat} (hj : B.testBit j = true) : j < n := by
  rcases Nat.lt_or_ge j n with h1 | h1
  · exact h1
  · exfalso
    rw [Nat.testBit_lt_two_pow (Nat.lt_of_lt_of_le h (Nat.pow_le_pow_right (by omega) h1))] at hj
    cases hj
theorem rt_iff {T B : Nat} (hT : T ≤ most) (hB : B < 18446744073709551616) : right T B = true ↔ Rt T B := by
  unfold right Rt
  constructor
  · intro h
    refine ⟨hT, hB, ?_⟩
    by_cases c : T = 0
    · rw [if_pos c] at h
      exact .inl ⟨c, of_decide_eq_true h⟩
    · rw [if_neg c, Bool.and_eq_true, Bool.or_eq_true, decide_eq_true_eq, decide_eq_true_eq] at h
      refine .inr ⟨by omega, h.1, fun j hj => ?_⟩
      rcases h.2 with h2 | h2
      · have := bit_lt hB hj; omega
      · exact bit_of_lt_pow h2 hj
  · rintro ⟨_, _, ⟨rfl, rfl⟩ | ⟨h0, h1, h2⟩⟩
    · rfl
    · rw [if_neg (by omega), Bool.and_eq_true, Bool.or_eq_true, decide_eq_true_eq, decide_eq_true_eq]
      exact ⟨h1, .inr (lt_pow h2)⟩
theorem rt_zero : Rt 0 0 := ⟨by unfold most; omega, by omega, .inl ⟨rfl, rfl⟩⟩

/-- The number is let in. -/
def Acc (T B : Nat) (n : Int) : Prop := 1 ≤ n ∧ n ≤ 4611686018427387904 ∧ (n > T ∨ ((T : Int) - n < 64 ∧ B.testBit ((T : Int) - n).toNat = false))

theorem let_rej {T B : Nat} {n : Int} (h : ¬ Acc T B n) : ∃ c, letS T B n = ((T : Int), (B : Int), some c) ∧ (c = 1 ∨ c = 12) := by
  unfold letS
  unfold Acc at h
  by_cases c1 : n < 1 ∨ 4611686018427387904 < n
  · exact ⟨1, by rw [if_pos c1], .inl rfl⟩
  · by_cases c2 : n > (T : Int)
    · exact absurd ⟨by omega, by omega, .inl c2⟩ h
    · by_cases c3 : (T : Int) - n ≥ 64
      · exact ⟨12, by rw [if_neg c1, if_neg c2, if_pos c3], .inr rfl⟩
      · rcases hb : B.testBit ((T : Int) - n).toNat with _ | _
        · exact absurd ⟨by omega, by omega, .inr ⟨by omega, hb⟩⟩ h
        · exact ⟨12, by rw [if_neg c1, if_neg c2, if_neg c3, if_pos rfl], .inr rfl⟩

theorem has_iff {T B : Nat} {m : Int} : has T B m = true ↔ 1 ≤ m ∧ m ≤ T ∧ (T : Int) - m < 64 ∧ B.testBit ((T : Int) - m).toNat = true := by
  unfold has
  rw [Bool.and_eq_true, decide_eq_true_eq]
  constructor
  · rintro ⟨⟨h1, h2, h3⟩, h4⟩; exact ⟨h1, h2, h3, h4⟩
  · rintro ⟨h1, h2, h3, h4⟩; exact ⟨⟨h1, h2, h3⟩, h4⟩

theorem up_bit (B s j : Nat) : ((B * 2 ^ s) % 18446744073709551616 ||| 1).testBit j = ((decide (j < 64) && (decide (s ≤ j) && B.testBit (j - s))) || decide (j = 0)) := by
  rw [Nat.testBit_or, show (18446744073709551616 : Nat) = 2 ^ 64 from rfl, Nat.testBit_mod_two_pow]
  congr 1
  · congr 1
    rw [Nat.mul_comm, Nat.testBit_two_pow_mul]
  · rw [show (1 : Nat) = 2 ^ 0 from rfl, Nat.testBit_two_pow]
    by_cases h : j = 0
    · subst h; rfl
    · rw [decide_eq_false h, decide_eq_false (by omega)]

theorem let_acc {T B : Nat} {n : Int} (hr : Rt T B) (h : Acc T B n) :
    ∃ T' B' : Nat, letS T B n = ((T' : Int), (B' : Int), none) ∧ Rt T' B' ∧ ((T' : Int) = max (T : Int) n) ∧ ∀ m : Int, has T' B' m = true ↔ m = n ∨ (has T B m = true ∧ (T' : Int) - m < 64) := by
  obtain ⟨hT, hB, hz⟩ := hr
  have hT0 := hT
  unfold most at hT0
  obtain ⟨h1, h2, h3⟩ := h
  unfold letS
  rw [if_neg (by omega)]
  by_cases c : n > (T : Int)
  · rw [if_pos c]
    obtain ⟨s, hs⟩ := Int.eq_ofNat_of_zero_le (show 0 ≤ n - (T : Int) by omega)
    obtain ⟨N, rfl⟩ := Int.eq_ofNat_of_zero_le (show 0 ≤ n by omega)
    have hN : N = T + s := by omega
    subst hN
    have hs0 : 0 < s := by omega
    rw [hs, Int.toNat_natCast]
    refine ⟨T + s, _, rfl, ⟨by unfold most; omega, ?_, .inr ⟨by omega, ?_, ?_⟩⟩, by omega, ?_⟩
    · have : (B * 2 ^ s) % 18446744073709551616 ||| 1 < 2 ^ 64 := Nat.or_lt_two_pow (Nat.mod_lt _ (by omega)) (by omega)
      simpa using this
    · rw [up_bit]; simp
    · intro j hj
      rw [up_bit] at hj
      simp only [Bool.or_eq_true, Bool.and_eq_true, decide_eq_true_eq] at hj
      rcases hj with ⟨_, hsj, hb⟩ | hj
      · rcases hz with ⟨_, rfl⟩ | ⟨_, _, hz⟩
        · simp at hb
        · have := hz _ hb; omega
      · omega
    · intro m
      rw [has_iff, has_iff]
      constructor
      · rintro ⟨m1, m2, m3, m4⟩
        rw [up_bit] at m4
        simp only [Bool.or_eq_true, Bool.and_eq_true, decide_eq_true_eq] at m4
        rcases m4 with ⟨_, hsj, hb⟩ | hj
        · right
          have e : (((T + s : Nat) : Int) - m).toNat - s = ((T : Int) - m).toNat := by omega
          rw [e] at hb
          exact ⟨⟨m1, by omega, by omega, hb⟩, m3⟩
        · left; omega
      · rintro (rfl | ⟨⟨m1, m2, m3, m4⟩, m5⟩)
        · refine ⟨h1, by omega, by omega, ?_⟩
          rw [up_bit]; simp
        · refine ⟨m1, by omega, m5, ?_⟩
          rw [up_bit]
          simp only [Bool.or_eq_true, Bool.and_eq_true, decide_eq_true_eq]
          left
          have e : (((T + s : Nat) : Int) - m).toNat - s = ((T : Int) - m).toNat := by omega
          rw [e]
          exact ⟨by omega, by omega, m4⟩
  · rcases h3 with h3 | ⟨h3, h4⟩
    · exact absurd h3 c
    · rw [if_neg c, if_neg (by omega), if_neg (by rw [h4]; simp)]
      obtain ⟨s, hs⟩ := Int.eq_ofNat_of_zero_le (show 0 ≤ (T : Int) - n by omega)
      rw [hs, Int.toNat_natCast] at h4 ⊢
      have hsT : s < T := by omega
      have hs64 : s < 64 := by omega
      refine ⟨T, B ||| 2 ^ s, rfl, ⟨hT, ?_, .inr ⟨by omega, ?_, ?_⟩⟩, by omega, ?_⟩
      · have : B ||| 2 ^ s < 2 ^ 64 := Nat.or_lt_two_pow (by simpa using hB) (Nat.pow_lt_pow_right (by omega) hs64)
        simpa using this
      · rw [Nat.testBit_or]
        rcases hz with ⟨rfl, _⟩ | ⟨_, hz, _⟩
        · omega
        · rw [hz]; rfl
      · intro j hj
        rw [Nat.testBit_or, Nat.testBit_two_pow, Bool.or_eq_true, decide_eq_true_eq] at hj
        rcases hj with hj | hj
        · rcases hz with ⟨_, rfl⟩ | ⟨_, _, hz⟩
          · simp at hj
          · exact hz j hj
        · omega
      · intro m
        rw [has_iff, has_iff, Nat.testBit_or, Nat.testBit_two_pow, Bool.or_eq_true, decide_eq_true_eq]
        constructor
        · rintro ⟨m1, m2, m3, m4 | m4⟩
          · exact .inr ⟨⟨m1, m2, m3, m4⟩, m3⟩
          · left; omega
        · rintro (rfl | ⟨⟨m1, m2, m3, m4⟩, m5⟩)
          · exact ⟨h1, by omega, by omega, .inr (by omega)⟩
          · exact ⟨m1, m2, m5, .inl m4⟩
theorem acc_iff {T B : Nat} {n : Int} (h1 : 1 ≤ n) (h2 : n ≤ 4611686018427387904) : Acc T B n ↔ n > T ∨ ((T : Int) - n < 64 ∧ has T B n = false) := by
  unfold Acc
  constructor
  · rintro ⟨_, _, h | ⟨h3, h4⟩⟩
    · exact .inl h
    · by_cases c : n > (T : Int)
      · exact .inl c
      · right
        refine ⟨h3, ?_⟩
        unfold has
        rw [h4, Bool.and_false]
  · rintro (h | ⟨h3, h4⟩)
    · exact ⟨h1, h2, .inl h⟩
    · by_cases c : n > (T : Int)
      · exact ⟨h1, h2, .inl c⟩
      · refine ⟨h1, h2, .inr ⟨h3, ?_⟩⟩
        unfold has at h4
        rw [decide_eq_true (by omega), Bool.true_and] at h4
        exact h4
end Go.Proofs.YtmpaljelolakhaaDoor.WinSet

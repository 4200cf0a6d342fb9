/- Proved: plain laws of words of 32 bits, as int and as uint32; conditions: the theorems' own premises. -/
import Derived.Test.YtlniejfbkcgneaaHSame
import Derived.Laws.BitsLemmas
namespace Go.Proofs.Ytlniejfbkcgneaa.HashT
open Go.RowKit Go.Proofs.Ytlniejfbkcgneaa.YHash Go.Proofs.YtlniejfbkcgneaaW.PrintWords Go.Proofs.YtlniejfbkcgneaaW.PrintLast Go.Proofs.YtlniejfbkcgneaaW.PrintMore
set_option linter.unusedVariables false
set_option linter.unusedSimpArgs false
def W32 (x : Int) : Prop := 0 ≤ x ∧ x < 4294967296
theorem W32.nat {x : Int} (h : W32 x) : ∃ a : Nat, a < 2 ^ 32 ∧ x = (a : Int) := ⟨x.toNat, by unfold W32 at h; omega, by unfold W32 at h; omega⟩
theorem W32.of {a : Nat} (h : a < 2 ^ 32) : W32 (a : Int) := by unfold W32; omega
theorem wraps_u32 (n : Int) (h₀ : 0 ≤ n) (h₁ : n < 2 ^ 32) : IntKind.u32.wrap n = n := by rw [IntKind.wrap_u32]; omega
theorem wraps_i64 (n : Int) (h₀ : 0 ≤ n) (h₁ : n < 2 ^ 63) : IntKind.i64.wrap n = n := by rw [IntKind.wrap_i64]; omega
theorem bits_xor (k : IntKind) (j : Nat) (hj : j ≤ k.bits) (hk : ∀ n : Int, 0 ≤ n → n < 2 ^ j → k.wrap n = n) (a b : Nat) (ha : a < 2 ^ j) (hb : b < 2 ^ j) : Go.bits .xor k a b = ((a ^^^ b : Nat) : Int) := by
  have hp : 2 ^ j ≤ 2 ^ k.bits := Nat.pow_le_pow_right (by decide) hj
  have ha' : a % 2 ^ k.bits = a := Nat.mod_eq_of_lt (Nat.lt_of_lt_of_le ha hp)
  have hb' : b % 2 ^ k.bits = b := Nat.mod_eq_of_lt (Nat.lt_of_lt_of_le hb hp)
  have cast : ∀ n : Nat, n < 2 ^ j → ((n : Nat) : Int) < 2 ^ j := fun n h => by exact_mod_cast h
  simp only [Go.bits, BitVec.ofInt_natCast, BitVec.toNat_xor, BitVec.toNat_ofNat, ha', hb']
  exact hk _ (Int.natCast_nonneg _) (cast _ (Nat.xor_lt_two_pow ha hb))
theorem u32_xor {a b : Nat} (ha : a < 2 ^ 32) (hb : b < 2 ^ 32) : Go.bits .xor .u32 a b = ((a ^^^ b : Nat) : Int) := bits_xor .u32 32 (by decide) wraps_u32 a b ha hb
theorem u32_and {a b : Nat} (ha : a < 2 ^ 32) (hb : b < 2 ^ 32) : Go.bits .and .u32 a b = ((a &&& b : Nat) : Int) := (bits_nat .u32 32 (by decide) wraps_u32 a b ha hb).1
theorem u32_or {a b : Nat} (ha : a < 2 ^ 32) (hb : b < 2 ^ 32) : Go.bits .or .u32 a b = ((a ||| b : Nat) : Int) := (bits_nat .u32 32 (by decide) wraps_u32 a b ha hb).2
theorem i64_xor {a b : Nat} (ha : a < 2 ^ 63) (hb : b < 2 ^ 63) : Go.bits .xor .i64 a b = ((a ^^^ b : Nat) : Int) := bits_xor .i64 63 (by decide) wraps_i64 a b ha hb
theorem i64_and {a b : Nat} (ha : a < 2 ^ 63) (hb : b < 2 ^ 63) : Go.bits .and .i64 a b = ((a &&& b : Nat) : Int) := (bits_nat .i64 63 (by decide) wraps_i64 a b ha hb).1
theorem i64_or {a b : Nat} (ha : a < 2 ^ 63) (hb : b < 2 ^ 63) : Go.bits .or .i64 a b = ((a ||| b : Nat) : Int) := (bits_nat .i64 63 (by decide) wraps_i64 a b ha hb).2
theorem w_xor {a b : Int} (ha : W32 a) (hb : W32 b) : W32 (Go.bits .xor .u32 a b) := by
  obtain ⟨a, ha', rfl⟩ := ha.nat
  obtain ⟨b, hb', rfl⟩ := hb.nat
  rw [u32_xor ha' hb']; exact W32.of (Nat.xor_lt_two_pow ha' hb')
theorem w_and {a b : Int} (ha : W32 a) (hb : W32 b) : W32 (Go.bits .and .u32 a b) := by
  obtain ⟨a, ha', rfl⟩ := ha.nat
  obtain ⟨b, hb', rfl⟩ := hb.nat
  rw [u32_and ha' hb']; exact W32.of (Nat.and_lt_two_pow _ hb')
theorem w_or {a b : Int} (ha : W32 a) (hb : W32 b) : W32 (Go.bits .or .u32 a b) := by
  obtain ⟨a, ha', rfl⟩ := ha.nat
  obtain ⟨b, hb', rfl⟩ := hb.nat
  rw [u32_or ha' hb']; exact W32.of (Nat.or_lt_two_pow ha' hb')
theorem xor_i64 {a b : Int} (ha : W32 a) (hb : W32 b) : Go.bits .xor .i64 a b = Go.bits .xor .u32 a b := by
  obtain ⟨a, ha', rfl⟩ := ha.nat
  obtain ⟨b, hb', rfl⟩ := hb.nat
  rw [u32_xor ha' hb', i64_xor (by omega) (by omega)]
theorem and_i64 {a b : Int} (ha : W32 a) (hb : W32 b) : Go.bits .and .i64 a b = Go.bits .and .u32 a b := by
  obtain ⟨a, ha', rfl⟩ := ha.nat
  obtain ⟨b, hb', rfl⟩ := hb.nat
  rw [u32_and ha' hb', i64_and (by omega) (by omega)]
theorem not_u32 {e : Int} (h : W32 e) : Go.bits .xor .u32 IntKind.u32.max e = 4294967295 - e := by
  obtain ⟨a, ha, rfl⟩ := h.nat
  have hm : IntKind.u32.max = ((2 ^ 32 - 1 : Nat) : Int) := by decide
  rw [hm, u32_xor (by decide) ha]
  have : (2 ^ 32 - 1) ^^^ a = 2 ^ 32 - (a + 1) := by
    apply Nat.eq_of_testBit_eq
    intro i
    rw [Nat.testBit_xor, Nat.testBit_two_pow_sub_one, Nat.testBit_two_pow_sub_succ ha]
    by_cases hi : i < 32
    · simp [hi]
    · have : a.testBit i = false := Nat.testBit_lt_two_pow (Nat.lt_of_lt_of_le ha (Nat.pow_le_pow_right (by decide) (by omega)))
      simp [hi, this]
  rw [this]
  omega
theorem w_mod (x : Int) : W32 (x % 4294967296) := by unfold W32; omega
theorem tr_nat {a n : Nat} (ha : a < 2 ^ 32) (h0 : 0 < n) (h1 : n < 32) : tr (a : Int) (n : Int) = ((a / 2 ^ n ||| a * 2 ^ (32 - n) % 2 ^ 32 : Nat) : Int) := by
  unfold tr
  have e1 : shr .u32 (a : Int) (n : Int) = ((a / 2 ^ n : Nat) : Int) := by
    unfold shr
    rw [Int.natCast_ediv, Int.natCast_pow]
    rw [Int.toNat_natCast, show IntKind.u32.bits = 32 from rfl, Nat.min_eq_left (show n ≤ 32 by omega)]; rfl
  have e2 : shl .u32 (a : Int) (32 - (n : Int)) = ((a * 2 ^ (32 - n) % 2 ^ 32 : Nat) : Int) := by
    unfold shl
    rw [IntKind.wrap_u32]
    have : (32 - (n : Int)).toNat = 32 - n := by omega
    rw [this, show IntKind.u32.bits = 32 from rfl, Nat.min_eq_left (show 32 - n ≤ 32 by omega), Int.natCast_emod, Int.natCast_mul, Int.natCast_pow]; rfl
  have h2 : a / 2 ^ n < 2 ^ 32 := Nat.lt_of_le_of_lt (Nat.div_le_self _ _) ha
  rw [e1, e2, u32_or h2 (Nat.mod_lt _ (by decide))]
theorem w_tr {x : Int} {n : Nat} (hx : W32 x) (h0 : 0 < n) (h1 : n < 32) : W32 (tr x (n : Int)) := by
  obtain ⟨a, ha, rfl⟩ := hx.nat
  rw [tr_nat ha h0 h1]
  exact W32.of (Nat.or_lt_two_pow (Nat.lt_of_le_of_lt (Nat.div_le_self _ _) ha) (Nat.mod_lt _ (by decide)))
theorem rturn_f {x : Int} {n : Nat} (hx : W32 x) (h0 : 0 < n) (h1 : n < 32) : shutterref01_turn.f x (n : Int) = some (tr x (n : Int)) := by
  obtain ⟨a, ha, rfl⟩ := hx.nat
  have k1 : IntKind.u64.wrap (n : Int) = (n : Int) := by simp [IntKind.wrap, IntKind.bits, IntKind.signed]; omega
  have k2 : wrap64 (32 - (n : Int)) = ((32 - n : Nat) : Int) := by unfold wrap64; omega
  have k3 : IntKind.u64.wrap ((32 - n : Nat) : Int) = ((32 - n : Nat) : Int) := by simp [IntKind.wrap, IntKind.bits, IntKind.signed]; omega
  unfold shutterref01_turn.f
  rw [k1, k2, k3, if_pos (by omega), if_pos (by omega), tr_nat ha h0 h1]
  have e1 : shr .i64 (a : Int) (n : Int) = ((a / 2 ^ n : Nat) : Int) := by
    unfold shr
    rw [Int.natCast_ediv, Int.natCast_pow]
    rw [Int.toNat_natCast, show IntKind.i64.bits = 64 from rfl, Nat.min_eq_left (show n ≤ 64 by omega)]; rfl
  have hlt : a * 2 ^ (32 - n) < 2 ^ 63 := by
    have h2 : 2 ^ (32 - n) ≤ 2 ^ 31 := Nat.pow_le_pow_right (by decide) (by omega)
    exact Nat.lt_of_le_of_lt (Nat.mul_le_mul_left _ h2) (by omega)
  have e2 : shl .i64 (a : Int) ((32 - n : Nat) : Int) = ((a * 2 ^ (32 - n) : Nat) : Int) := by
    unfold shl
    rw [Int.toNat_natCast, show IntKind.i64.bits = 64 from rfl, Nat.min_eq_left (show 32 - n ≤ 64 by omega)]
    have hc : (a : Int) * 2 ^ (32 - n) = ((a * 2 ^ (32 - n) : Nat) : Int) := by rw [Int.natCast_mul, Int.natCast_pow]; rfl
    rw [hc]
    exact wraps_i64 _ (Int.natCast_nonneg _) (by exact_mod_cast hlt)
  have h2 : a / 2 ^ n < 2 ^ 63 := Nat.lt_of_le_of_lt (Nat.div_le_self _ _) (by omega)
  rw [e1, e2, i64_or h2 hlt]
  have hm : (4294967295 : Int) = ((2 ^ 32 - 1 : Nat) : Int) := by decide
  rw [hm, i64_and (Nat.or_lt_two_pow h2 hlt) (by decide), Nat.and_two_pow_sub_one_eq_mod, Nat.or_mod_two_pow]
  rw [Nat.mod_eq_of_lt (Nat.lt_of_le_of_lt (Nat.div_le_self a (2 ^ n)) ha)]
theorem rturn_calls {x : Int} {n : Nat} (hx : W32 x) (h0 : 0 < n) (h1 : n < 32) (w : World) : Calls Try.prog 20 #[.int .i64 x, .int .i64 (n : Int)] w fun e w' => e = .returned (.int .i64 (tr x (n : Int))) ∧ ∃ m, w' = w.drewN m :=
  (shutterref01_turn.calls x n _ w (rturn_f hx h0 h1)).mono fun _ _ ⟨he, hw⟩ => ⟨he, hw.out⟩
theorem rboth_calls {a b : Int} (ha : W32 a) (hb : W32 b) (w : World) : Calls Try.prog 21 #[.int .i64 a, .int .i64 b] w fun e w' => e = .returned (.int .i64 (Go.bits .and .u32 a b)) ∧ ∃ m, w' = w.drewN m :=
  (shutterref01_both.calls a b _ w (by unfold shutterref01_both.f; rw [and_i64 ha hb])).mono fun _ _ ⟨he, hw⟩ => ⟨he, hw.out⟩
end Go.Proofs.Ytlniejfbkcgneaa.HashT

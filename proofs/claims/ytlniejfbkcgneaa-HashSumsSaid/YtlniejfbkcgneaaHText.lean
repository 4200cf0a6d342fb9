/- Proved: plain laws of what a sum holds of a text; conditions: the theorems' own premises. -/
import Derived.Test.YtlniejfbkcgneaaHBlock
namespace Go.Proofs.Ytlniejfbkcgneaa.HashT
open Go.RowKit Go.Proofs.Ytlniejfbkcgneaa.YHash Go.Proofs.YtlniejfbkcgneaaW.PrintWords Go.Proofs.YtlniejfbkcgneaaW.PrintLast Go.Proofs.YtlniejfbkcgneaaW.PrintMore
set_option linter.unusedVariables false
set_option linter.unusedSimpArgs false
/-- Blocks are taken, as many as k, while there are any (B: what takes a block). -/
def chewB (B : List Int → List Int → List Int) : Nat → List Int × List Int → List Int × List Int
  | 0, s => s
  | k + 1, s => if 64 ≤ s.2.length then chewB B k (B (s.2.take 64) s.1, s.2.drop 64) else s
section
variable {B : List Int → List Int → List Int}
theorem chewB_zero (s : List Int × List Int) : chewB B 0 s = s := rfl
theorem chewB_succ (k : Nat) (s : List Int × List Int) (h : 64 ≤ s.2.length) : chewB B (k + 1) s = chewB B k (B (s.2.take 64) s.1, s.2.drop 64) := if_pos h
theorem chewB_stop (k : Nat) (s : List Int × List Int) (h : ¬ 64 ≤ s.2.length) : chewB B (k + 1) s = s := if_neg h
theorem chewB_length : ∀ (k : Nat) (s : List Int × List Int), k * 64 ≤ s.2.length → (chewB B k s).2.length = s.2.length - k * 64 := by
  intro k
  induction k with
  | zero => intro s _; rw [chewB_zero]; omega
  | succ k ih =>
    intro s h
    have h64 : 64 ≤ s.2.length := by omega
    have hl : (s.2.drop 64).length = s.2.length - 64 := List.length_drop
    rw [chewB_succ k s h64, ih _ (by rw [hl]; omega), hl]
    omega
theorem chewB_eight (hB : ∀ l h, (B l h).length = h.length) : ∀ (k : Nat) (s : List Int × List Int), (chewB B k s).1.length = s.1.length := by
  intro k
  induction k with
  | zero => intro s; rfl
  | succ k ih =>
    intro s
    by_cases h : 64 ≤ s.2.length
    · rw [chewB_succ k s h, ih, hB]
    · rw [chewB_stop k s h]
theorem chewB_step : ∀ (k : Nat) (s : List Int × List Int), k * 64 + 64 ≤ s.2.length → chewB B (k + 1) s = (B ((chewB B k s).2.take 64) (chewB B k s).1, (chewB B k s).2.drop 64) := by
  intro k
  induction k with
  | zero => intro s h; rw [chewB_succ 0 s (by omega), chewB_zero, chewB_zero]
  | succ k ih =>
    intro s h
    rw [Nat.add_mul, Nat.one_mul] at h
    have h64 : 64 ≤ s.2.length := by omega
    have hl : (s.2.drop 64).length = s.2.length - 64 := List.length_drop
    have hlt : k * 64 + 64 ≤ (s.2.drop 64).length := by rw [hl]; omega
    have h1 := ih (B (s.2.take 64) s.1, s.2.drop 64) hlt
    rw [chewB_succ (k + 1) s h64, h1, chewB_succ k s h64]
theorem chewB_add (s : List Int × List Int) (a : Nat) : ∀ b : Nat, a * 64 + b * 64 ≤ s.2.length → chewB B (a + b) s = chewB B b (chewB B a s) := by
  intro b
  induction b with
  | zero => intro _; rw [Nat.add_zero, chewB_zero]
  | succ b ih =>
    intro h
    rw [Nat.add_mul, Nat.one_mul] at h
    have hab : (a + b) * 64 + 64 ≤ s.2.length := by rw [Nat.add_mul]; omega
    have hl := chewB_length (B := B) a s (by omega)
    have hb : b * 64 + 64 ≤ (chewB B a s).2.length := by rw [hl]; omega
    have h1 := chewB_step (B := B) (a + b) s hab
    have h2 := chewB_step (B := B) b (chewB B a s) hb
    rw [show a + (b + 1) = a + b + 1 from rfl, h1, h2, ih (by omega)]
theorem chewB_append (h T p : List Int) : ∀ (k : Nat), k * 64 ≤ T.length → chewB B k (h, T ++ p) = ((chewB B k (h, T)).1, (chewB B k (h, T)).2 ++ p) := by
  intro k
  induction k with
  | zero => intro _; rw [chewB_zero, chewB_zero]
  | succ k ih =>
    intro hk
    rw [Nat.add_mul, Nat.one_mul] at hk
    have hl := chewB_length (B := B) k (h, T) (by show k * 64 ≤ T.length; omega)
    replace hl : (chewB B k (h, T)).2.length = T.length - k * 64 := hl
    have h1 := chewB_step (B := B) k (h, T ++ p) (by show k * 64 + 64 ≤ (T ++ p).length; rw [List.length_append]; omega)
    have h2 := chewB_step (B := B) k (h, T) (by show k * 64 + 64 ≤ T.length; omega)
    rw [h1, h2, ih (by omega)]
    show (B (List.take 64 ((chewB B k (h, T)).2 ++ p)) _, List.drop 64 ((chewB B k (h, T)).2 ++ p)) = _
    rw [List.take_append_of_le_length (by omega), List.drop_append_of_le_length (by omega)]
/-- A text's state, from a first one on: its whole blocks taken, and what is left. -/
def fullB (B : List Int → List Int → List Int) (h : List Int) (T : List Int) : List Int × List Int := chewB B (T.length / 64) (h, T)
theorem fullB_rest (h T : List Int) : (fullB B h T).2.length = T.length % 64 := by
  unfold fullB
  rw [chewB_length _ _ (by show T.length / 64 * 64 ≤ T.length; omega)]
  show T.length - T.length / 64 * 64 = _
  omega
theorem fullB_append (h T p : List Int) : fullB B h (T ++ p) = chewB B (((fullB B h T).2 ++ p).length / 64) ((fullB B h T).1, (fullB B h T).2 ++ p) := by
  have hr := fullB_rest (B := B) h T
  have hlen : (T ++ p).length / 64 = T.length / 64 + ((fullB B h T).2 ++ p).length / 64 := by
    rw [List.length_append, List.length_append, hr]; omega
  have h1 := chewB_add (B := B) (h, T ++ p) (T.length / 64) (((fullB B h T).2 ++ p).length / 64) (by
    show T.length / 64 * 64 + _ ≤ (T ++ p).length
    rw [List.length_append, List.length_append, hr]; omega)
  rw [chewB_append h T p (T.length / 64) (by omega)] at h1
  have h2 : fullB B h (T ++ p) = chewB B (T.length / 64 + ((fullB B h T).2 ++ p).length / 64) (h, T ++ p) := by
    show chewB B ((T ++ p).length / 64) (h, T ++ p) = _
    rw [hlen]
  exact h2.trans h1
end
/-- The state at first. -/
def h0 : List Int := [1779033703, 3144134277, 1013904242, 2773480762, 1359893119, 2600822924, 528734635, 1541459225]
/-- A text's state. -/
def full (T : List Int) : List Int × List Int := fullB blockL h0 T
theorem full_nil : full [] = (h0, []) := rfl
theorem full_eight (T : List Int) : (full T).1.length = 8 := chewB_eight blockL_length _ _
theorem full_rest (T : List Int) : (full T).2.length = T.length % 64 := fullB_rest _ _
theorem full_append (T p : List Int) : full (T ++ p) = chewB blockL (((full T).2 ++ p).length / 64) ((full T).1, (full T).2 ++ p) := fullB_append _ _ _
/-- How many zeros a text is filled up with. -/
def padN (n : Nat) : Nat := (119 - n % 64) % 64
theorem padN_lt (n : Nat) : padN n < 64 := by unfold padN; omega
theorem padN_at (n : Nat) : (n % 64 + (1 + padN n)) % 64 = 56 := by unfold padN; omega
theorem padN_ne (n k : Nat) (h : k < padN n) : (n % 64 + (1 + k)) % 64 ≠ 56 := by unfold padN at h; omega
def byte8 (n i : Nat) : Int := ((8 * n / 2 ^ (56 - 8 * i) % 256 : Nat) : Int)
def tailOf (n : Nat) : List Int := 128 :: (List.replicate (padN n) 0 ++ (List.range 8).map (byte8 n))
def outByte (h : List Int) (i : Nat) : Int := rd h ((i / 4 : Nat) : Int) / ((2 ^ (24 - 8 * (i % 4)) : Nat) : Int) % 256
/-- A text's sum. -/
def digest (T : List Int) : List Int := (List.range 32).map (outByte (full (T ++ tailOf T.length)).1)
end Go.Proofs.Ytlniejfbkcgneaa.HashT

/- Proved: the law GridNews as a statement about numbers; conditions: none. -/
import Derived.Test.YtabghncbdohciaaDoorYGridx9
namespace Go.Proofs.YtabghncbdohciaaDoor.GridNew
open Go.RowKit Go.Proofs.YtabghncbdohciaaDoor.YGrid Go.Proofs.YtabghncbdohciaaDoorW.PrintWords Go.Proofs.YtabghncbdohciaaDoorW.PrintLast Go.Proofs.YtabghncbdohciaaDoorW.PrintMore
set_option linter.unusedVariables false

theorem wrap_in {x : Int} (h1 : -9223372036854775808 ≤ x) (h2 : x ≤ 9223372036854775807) : wrap64 x = x := by unfold wrap64; omega
theorem awake : Ev (fun k => shutterlaw10_awake.f k) true := Ev.of (fun k => shutterlaw10_awake.mono k) (k := 40) (by decide +kernel)

/-! ### Few -/
theorem prod {a b : Int} (h1 : 1 ≤ a) (h2 : 1 ≤ b) (h3 : a ≤ 16383) (h4 : b ≤ 16383) : 1 ≤ a * b ∧ a * b ≤ 268402689 := by
  have x1 := Int.mul_le_mul h1 h2 (by omega) (by omega)
  have x2 := Int.mul_le_mul h3 h4 (by omega) (by omega)
  omega
def sized (a b : Int) : Bool := decide (1 ≤ a) && (decide (1 ≤ b) && (decide (a ≤ 16383) && (decide (b ≤ 16383) && decide (wrap64 (a * b) ≤ 16383))))
theorem sized_eq (a b : Int) : shutterref10_Sized.f a b = some (sized a b) := by
  unfold shutterref10_Sized.f sized
  by_cases h1 : a ≥ 1
  · rw [if_pos h1, decide_eq_true (show 1 ≤ a by omega)]
    by_cases h2 : b ≥ 1
    · rw [if_pos h2, decide_eq_true (show 1 ≤ b by omega)]
      by_cases h3 : a ≤ 16383
      · rw [if_pos h3, decide_eq_true h3]
        by_cases h4 : b ≤ 16383
        · rw [if_pos h4, decide_eq_true h4]; rfl
        · rw [if_neg h4, decide_eq_false h4]; rfl
      · rw [if_neg h3, decide_eq_false h3]; rfl
    · rw [if_neg h2, decide_eq_false (show ¬ 1 ≤ b by omega)]; rfl
  · rw [if_neg h1, decide_eq_false (show ¬ 1 ≤ a by omega)]; rfl
theorem sized_true {a b : Int} (h : sized a b = true) : 1 ≤ a ∧ 1 ≤ b ∧ a ≤ 16383 ∧ b ≤ 16383 ∧ a * b ≤ 16383 ∧ wrap64 (a * b) = a * b ∧ 1 ≤ a * b := by
  unfold sized at h
  simp only [Bool.and_eq_true, decide_eq_true_eq] at h
  obtain ⟨h1, h2, h3, h4, h5⟩ := h
  have hp := prod h1 h2 h3 h4
  have hw : wrap64 (a * b) = a * b := wrap_in (by omega) (by omega)
  rw [hw] at h5
  exact ⟨h1, h2, h3, h4, h5, hw, hp.1⟩

theorem new_bad {a b : Int} (h : sized a b = false) : grid_New.f a b = some (0, 0, [], 0, false, false, some 1) := by
  unfold grid_New.f
  by_cases h1 : a < 1
  · rw [if_pos h1]
  · rw [if_neg h1]
    by_cases h2 : b < 1
    · rw [if_pos h2]
    · rw [if_neg h2]
      by_cases h3 : a > 16383
      · rw [if_pos h3]
      · rw [if_neg h3, if_neg (by omega)]
        have hd0 : 0 ≤ (16383 : Int) / a := Int.ediv_nonneg (by omega) (by omega)
        have hd1 : (16383 : Int) / a ≤ 16383 := Int.ediv_le_self _ (by omega)
        rw [wrap_in (x := 16383 / a) (by omega) (by omega), if_pos]
        refine Int.lt_of_not_ge fun hb => ?_
        have hm : b * a ≤ 16383 := (Int.le_ediv_iff_mul_le (by omega)).1 hb
        have e : a * b = b * a := Int.mul_comm a b
        have hp := prod (a := a) (b := b) (by omega) (by omega) (by omega) (by omega)
        have : sized a b = true := by
          unfold sized
          rw [wrap_in (x := a * b) (by omega) (by omega), decide_eq_true (show 1 ≤ a by omega), decide_eq_true (show 1 ≤ b by omega), decide_eq_true (show a ≤ 16383 by omega), decide_eq_true (show b ≤ 16383 by omega), decide_eq_true (show a * b ≤ 16383 by omega)]
          rfl
        rw [this] at h; cases h
theorem new_good {a b : Int} (h : sized a b = true) : grid_New.f a b = some (a, b, List.replicate (a * b).toNat z36, 0, false, false, none) := by
  obtain ⟨h1, h2, h3, h4, h5, h6, h7⟩ := sized_true h
  have hd0 : 0 ≤ (16383 : Int) / a := Int.ediv_nonneg (by omega) (by omega)
  have hd1 : (16383 : Int) / a ≤ 16383 := Int.ediv_le_self _ (by omega)
  have e : a * b = b * a := Int.mul_comm a b
  have hb : b ≤ 16383 / a := (Int.le_ediv_iff_mul_le (by omega)).2 (by omega)
  unfold grid_New.f
  rw [if_neg (by omega), if_neg (by omega), if_neg (by omega), if_neg (by omega), wrap_in (x := 16383 / a) (by omega) (by omega), if_neg (by omega), h6, if_pos (by omega), if_pos (by omega)]
theorem empty_loop (n : Nat) (hn : n ≤ 16383) (a b cur : Int) (lk ins : Bool) : ∀ d i, i + d = n → Ev (fun k => shutterlaw10_GridNews.l0 k (i : Int) a b (List.replicate n z36) cur lk ins) true
  | 0, i, hi => by
    refine Ev.step (f := fun _ => some true) (fun k => ?_) (Ev.now _)
    simp only [shutterlaw10_GridNews.l0]
    rw [if_neg (by rw [List.length_replicate]; omega)]
  | d + 1, i, hi => by
    have e3 : wrap64 ((i : Int) + 1) = ((i + 1 : Nat) : Int) := by rw [wrap_in (by omega) (by omega)]; omega
    have e4 : rd_T36 (List.replicate n z36) (i : Int) = z36 := by unfold rd_T36; rw [Int.toNat_natCast, List.getD_eq_getElem?_getD, List.getElem?_replicate]; split <;> rfl
    refine Ev.step (fun k => ?_) (empty_loop n hn a b cur lk ins d (i + 1) (by omega))
    simp only [shutterlaw10_GridNews.l0]
    rw [if_pos (by rw [List.length_replicate]; omega), if_pos (by omega), e4, if_neg (by decide), e3]
theorem same_empty : Ev (fun k => shutterref10_Same.f k 0 0 [] 0 false false 0 0 [] 0 false false) true := Ev.of (fun k => shutterref10_Same.mono _ _ _ _ _ _ _ _ _ _ _ _ k) (k := 10) (by decide +kernel)
theorem news (a b : Int) : ∃ k, shutterlaw10_GridNews.f k a b = some true := by
  refine Ev.rounds (g := fun k => shutterlaw10_GridNews.f k a b) ?_
  unfold shutterlaw10_GridNews.f
  rcases hs : sized a b with _ | _
  · rw [new_bad hs]
    simp only [Option.bind_some]
    refine Ev.bind awake ?_
    simp only [if_true, sized_eq, Option.bind_some, hs, Bool.false_eq_true, if_false]
    simp only [show api_Code.f (some 1) = some 1 from rfl, Option.bind_some, if_true]
    exact Ev.bind same_empty (Ev.now _)
  · have hz := sized_true hs
    rw [new_good hs]
    simp only [Option.bind_some]
    refine Ev.bind awake ?_
    have hl : ((List.replicate (a * b).toNat z36).length : Int) = wrap64 (a * b) := by rw [List.length_replicate, hz.2.2.2.2.2.1]; omega
    simp only [if_true, sized_eq, Option.bind_some, hs, Option.isNone_none, if_pos hl, Bool.false_eq_true, if_false]
    refine Ev.step (f := fun k => shutterlaw10_GridNews.l0 k ((0 : Nat) : Int) a b (List.replicate (a * b).toNat z36) 0 false false) (fun k => by simp only [shutterlaw10_GridNews.j0, Bool.false_eq_true, if_false]; rfl) ?_
    exact empty_loop (a * b).toNat (by omega) a b 0 false false (a * b).toNat 0 (by omega)
end Go.Proofs.YtabghncbdohciaaDoor.GridNew

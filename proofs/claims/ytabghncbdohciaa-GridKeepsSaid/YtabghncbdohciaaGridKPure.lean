/- Proved: what the laws of grid share over the plain seat, as statements about numbers and lists; conditions: the numbers are of their kinds. -/
import Derived.Test.YtabghncbdohciaaYGridKx
namespace Go.Proofs.Ytabghncbdohciaa.GridKPure
open Go.RowKit Go.Proofs.Ytabghncbdohciaa.YGridK Go.Proofs.YtabghncbdohciaaW.PrintWords Go.Proofs.YtabghncbdohciaaW.PrintLast Go.Proofs.YtabghncbdohciaaW.PrintMore
set_option linter.unusedVariables false

theorem wrap_in {x : Int} (h1 : -9223372036854775808 ≤ x) (h2 : x ≤ 9223372036854775807) : wrap64 x = x := by unfold wrap64; omega
theorem awake : Ev (fun k => shutterlaw10_awake.f k) true := Ev.of (fun k => shutterlaw10_awake.mono k) (k := 40) (by decide +kernel)

/-! ### Few -/
theorem prod {a b : Int} (h1 : 1 ≤ a) (h2 : 1 ≤ b) (h3 : a ≤ 16383) (h4 : b ≤ 16383) : 1 ≤ a * b ∧ a * b ≤ 268402689 := by
  have x1 := Int.mul_le_mul h1 h2 (by omega) (by omega)
  have x2 := Int.mul_le_mul h3 h4 (by omega) (by omega)
  omega
def sized (a b : Int) : Bool := decide (1 ≤ a) && (decide (1 ≤ b) && (decide (a ≤ 16383) && (decide (b ≤ 16383) && decide (wrap64 (a * b) ≤ 16383))))
theorem sized_eq (a b : Int) : shutterref10_Sized.f a b = some (sized a b) := by
  unfold shutterref10_Sized.f sized
  by_cases h1 : a ≥ 1
  · rw [if_pos h1, decide_eq_true (show 1 ≤ a by omega)]
    by_cases h2 : b ≥ 1
    · rw [if_pos h2, decide_eq_true (show 1 ≤ b by omega)]
      by_cases h3 : a ≤ 16383
      · rw [if_pos h3, decide_eq_true h3]
        by_cases h4 : b ≤ 16383
        · rw [if_pos h4, decide_eq_true h4]; rfl
        · rw [if_neg h4, decide_eq_false h4]; rfl
      · rw [if_neg h3, decide_eq_false h3]; rfl
    · rw [if_neg h2, decide_eq_false (show ¬ 1 ≤ b by omega)]; rfl
  · rw [if_neg h1, decide_eq_false (show ¬ 1 ≤ a by omega)]; rfl
theorem sized_true {a b : Int} (h : sized a b = true) : 1 ≤ a ∧ 1 ≤ b ∧ a ≤ 16383 ∧ b ≤ 16383 ∧ a * b ≤ 16383 ∧ wrap64 (a * b) = a * b ∧ 1 ≤ a * b := by
  unfold sized at h
  simp only [Bool.and_eq_true, decide_eq_true_eq] at h
  obtain ⟨h1, h2, h3, h4, h5⟩ := h
  have hp := prod h1 h2 h3 h4
  have hw : wrap64 (a * b) = a * b := wrap_in (by omega) (by omega)
  rw [hw] at h5
  exact ⟨h1, h2, h3, h4, h5, hw, hp.1⟩

theorem char_some (c : Int) : ∃ b, shutterref05_Char.f c = some b := by
  unfold shutterref05_Char.f
  repeat' split
  all_goals exact ⟨_, rfl⟩
def cellB (x : S44) : Bool := (shutterref10_Cell.f x.f0 x.f1.f0 x.f1.f1 x.f1.f2 x.f1.f3 x.f2).getD false
theorem cell_some (x : S44) : shutterref10_Cell.f x.f0 x.f1.f0 x.f1.f1 x.f1.f2 x.f1.f3 x.f2 = some (cellB x) := by
  have : ∃ b, shutterref10_Cell.f x.f0 x.f1.f0 x.f1.f1 x.f1.f2 x.f1.f3 x.f2 = some b := by
    obtain ⟨b, hb⟩ := char_some x.f2
    unfold shutterref10_Cell.f
    rw [hb]
    repeat' split
    all_goals exact ⟨_, rfl⟩
  obtain ⟨b, hb⟩ := this
  unfold cellB
  rw [hb]; rfl

theorem right_loop (l : List S44) (hl : l.length ≤ 16383) (rows cols cur : Int) (lk ins : Bool) : ∀ d i, i + d = l.length → Ev (fun k => shutterref10_Right.l0 k (i : Int) rows cols l cur lk ins) ((l.drop i).all cellB)
  | 0, i, hi => by
    refine Ev.step (f := fun _ => some true) (fun k => ?_) (by rw [List.drop_of_length_le (by omega)]; exact Ev.now _)
    simp only [shutterref10_Right.l0]
    rw [if_neg (by omega)]
  | d + 1, i, hi => by
    have e3 : wrap64 ((i : Int) + 1) = ((i + 1 : Nat) : Int) := by rw [wrap_in (by omega) (by omega)]; omega
    have hlt : i < l.length := by omega
    have e4 : rd_T44 l (i : Int) = l[i] := by unfold rd_T44; rw [Int.toNat_natCast, List.getD_eq_getElem?_getD, List.getElem?_eq_getElem hlt]; rfl
    rw [List.drop_eq_getElem_cons hlt, List.all_cons]
    rcases hc : cellB l[i] with _ | _
    · refine Ev.step (f := fun _ => some false) (fun k => ?_) (Ev.now _)
      simp only [shutterref10_Right.l0]
      rw [if_pos (by omega), if_pos (by omega), e4, cell_some, Option.bind_some, hc]; rfl
    · rw [Bool.true_and]
      refine Ev.step (fun k => ?_) (right_loop l hl rows cols cur lk ins d (i + 1) (by omega))
      simp only [shutterref10_Right.l0]
      rw [if_pos (by omega), if_pos (by omega), e4, cell_some, Option.bind_some, hc, if_pos rfl, e3]

def rightB (rows cols : Int) (l : List S44) (cur : Int) : Bool := sized rows cols && (decide ((l.length : Int) = wrap64 (rows * cols)) && (decide (0 ≤ cur) && (decide (cur < l.length) && l.all cellB)))
theorem right_ev (rows cols : Int) (l : List S44) (cur : Int) (lk ins : Bool) : Ev (fun k => shutterref10_Right.f k rows cols l cur lk ins) (rightB rows cols l cur) := by
  have no : Ev (fun k => shutterref10_Right.j0 k true rows cols l cur lk ins) false := Ev.step (f := fun _ => some false) (fun k => by simp only [shutterref10_Right.j0, if_true]) (Ev.now _)
  unfold shutterref10_Right.f rightB
  simp only [sized_eq, Option.bind_some]
  rcases hs : sized rows cols with _ | _
  · exact no
  · have hz := sized_true hs
    simp only [if_true, Bool.true_and]
    by_cases h1 : (l.length : Int) = wrap64 (rows * cols)
    · simp only [if_pos h1, decide_eq_true h1, Bool.true_and]
      by_cases h2 : cur < 0
      · simp only [if_pos h2, decide_eq_false (show ¬ 0 ≤ cur by omega), Bool.false_and]; exact no
      · simp only [if_neg h2, decide_eq_true (show 0 ≤ cur by omega), Bool.true_and]
        by_cases h3 : cur ≥ (l.length : Int)
        · simp only [decide_eq_true h3, decide_eq_false (show ¬ cur < (l.length : Int) by omega), Bool.false_and]; exact no
        · simp only [decide_eq_false h3, decide_eq_true (show cur < (l.length : Int) by omega), Bool.true_and]
          refine Ev.step (f := fun k => shutterref10_Right.l0 k ((0 : Nat) : Int) rows cols l cur lk ins) (fun k => by simp only [shutterref10_Right.j0, Bool.false_eq_true, if_false]; rfl) ?_
          exact right_loop l (by omega) rows cols cur lk ins l.length 0 (by omega)
    · simp only [if_neg h1, decide_eq_false h1, Bool.false_and]; exact no
def fewB (rows cols : Int) (l : List S44) (cur : Int) : Bool := decide (l.length ≤ 200) && rightB rows cols l cur
theorem few_ev (rows cols : Int) (l : List S44) (cur : Int) (lk ins : Bool) : Ev (fun k => shutterref10_Few.f k rows cols l cur lk ins) (fewB rows cols l cur) := by
  unfold shutterref10_Few.f fewB
  by_cases h : (l.length : Int) ≤ 200
  · simp only [if_pos h, decide_eq_true (show l.length ≤ 200 by omega), Bool.true_and]
    exact Ev.bind (right_ev rows cols l cur lk ins) (Ev.now _)
  · simp only [if_neg h, decide_eq_false (show ¬ l.length ≤ 200 by omega), Bool.false_and]
    exact Ev.now _
theorem few_true {rows cols : Int} {l : List S44} {cur : Int} (h : fewB rows cols l cur = true) : 1 ≤ l.length ∧ l.length ≤ 200 ∧ rows * cols = l.length ∧ 0 ≤ cur ∧ cur < l.length ∧ l.all cellB = true ∧ sized rows cols = true := by
  unfold fewB rightB at h
  simp only [Bool.and_eq_true, decide_eq_true_eq] at h
  obtain ⟨h1, h2, h3, h4, h5, h6⟩ := h
  have hz := sized_true h2
  rw [hz.2.2.2.2.2.1] at h3
  exact ⟨by omega, h1, by omega, h4, h5, h6, h2⟩

/-! ### On -/
theorem on_eq (rows cols : Int) (l : List S44) (cur : Int) (lk ins : Bool) (x n : Int) (h1 : 1 ≤ l.length) (h2 : l.length ≤ 16383) (hx : 0 ≤ x) (hx' : x < l.length) (hn : -9223372036854775808 ≤ n) (hn' : n ≤ 9223372036854775807) :
    grid_On.f rows cols l cur lk ins x n = some ((x + n) % (l.length : Int)) := by
  unfold grid_On.f
  rw [if_neg (by omega)]
  have hq : Int.tmod n (l.length : Int) = n - (l.length : Int) * n.tdiv (l.length : Int) := by have := Int.mul_tdiv_add_tmod n (l.length : Int); omega
  have hb1 : Int.tmod n (l.length : Int) < (l.length : Int) := by
    have := Int.tmod_lt_of_pos n (show (0 : Int) < l.length by omega)
    omega
  have hb2 : -(l.length : Int) < Int.tmod n (l.length : Int) := by
    by_cases h : 0 ≤ n
    · have := Int.tmod_nonneg (l.length : Int) h; omega
    · have e : Int.tmod n (l.length : Int) = -(Int.tmod (-n) (l.length : Int)) := by rw [Int.neg_tmod]; omega
      have := Int.tmod_lt_of_pos (-n) (show (0 : Int) < l.length by omega)
      omega
  rw [wrap_in (x := x + Int.tmod n (l.length : Int)) (by omega) (by omega), wrap_in (x := x + Int.tmod n (l.length : Int) + (l.length : Int)) (by omega) (by omega), Int.tmod_eq_emod_of_nonneg (by omega), hq]
  congr 1
  rw [show x + (n - (l.length : Int) * n.tdiv (l.length : Int)) + (l.length : Int) = (x + n) + (l.length : Int) * (1 - n.tdiv (l.length : Int)) by rw [Int.mul_sub]; omega, Int.add_mul_emod_self_left]
theorem mod_range (a : Int) (L : Nat) (h : 1 ≤ L) : 0 ≤ a % (L : Int) ∧ a % (L : Int) < L := ⟨Int.emod_nonneg _ (by omega), Int.emod_lt_of_pos _ (by omega)⟩
theorem arg (u : Int) (L : Nat) (h1 : 1 ≤ L) (hu : 0 ≤ u) (hu' : u ≤ 65535) : Int.tmod (wrap64 u) (L : Int) = u % (L : Int) := by
  rw [wrap_in (by omega) (by omega), Int.tmod_eq_emod_of_nonneg hu]

end Go.Proofs.Ytabghncbdohciaa.GridKPure

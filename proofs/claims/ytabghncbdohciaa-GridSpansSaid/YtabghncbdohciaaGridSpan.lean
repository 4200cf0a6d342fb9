/- Proved: the laws GridSpans as statements about numbers and lists; conditions: the numbers are of their kinds. -/
import Derived.Test.YtabghncbdohciaaGridPure
import Derived.Test.YtabghncbdohciaaYGridx8
namespace Go.Proofs.Ytabghncbdohciaa.GridPure
open Go.RowKit Go.Proofs.Ytabghncbdohciaa.YGrid Go.Proofs.YtabghncbdohciaaW.PrintWords Go.Proofs.YtabghncbdohciaaW.PrintLast Go.Proofs.YtabghncbdohciaaW.PrintMore
set_option linter.unusedVariables false

/-! ### Spans -/
/-- The cells behind a, from the j-th on, till b comes or all are there. -/
def steps (L : Nat) (a b : Int) : Nat → Nat → List Int
  | 0, _ => []
  | d + 1, j => if (a + j) % (L : Int) = b then [] else (a + j) % (L : Int) :: steps L a b d (j + 1)
theorem span_loop (rows cols : Int) (l : List S44) (cur : Int) (lk ins : Bool) (a b : Int) (h1 : 1 ≤ l.length) (h2 : l.length ≤ 200) (ha : 0 ≤ a) (ha' : a < l.length) :
    ∀ (d j : Nat) (acc : List Int), j + d = l.length → 1 ≤ j → acc.length = j → Ev (fun k => grid_Span.l0 k b acc ((a + j) % (l.length : Int)) rows cols l cur lk ins) (acc ++ steps l.length a b d j)
  | 0, j, acc, hj, _, hacc => by
    refine Ev.step (f := fun _ => some acc) (fun k => ?_) (by simpa [steps] using Ev.now acc)
    simp only [grid_Span.l0]
    split
    · rfl
    · rw [if_neg (by omega)]
  | d + 1, j, acc, hj, h0, hacc => by
    have hr := mod_range (a + j) l.length h1
    by_cases c : (a + j) % (l.length : Int) = b
    · have e : steps l.length a b (d + 1) j = [] := by rw [steps, if_pos c]
      rw [e, List.append_nil]
      refine Ev.step (f := fun _ => some acc) (fun k => ?_) (Ev.now _)
      simp only [grid_Span.l0]
      rw [if_pos c]
    · have e : steps l.length a b (d + 1) j = (a + j) % (l.length : Int) :: steps l.length a b d (j + 1) := by rw [steps, if_neg c]
      have next := span_loop rows cols l cur lk ins a b h1 h2 ha ha' d (j + 1) (acc ++ [(a + j) % (l.length : Int)]) (by omega) (by omega) (by rw [List.length_append, List.length_singleton]; omega)
      rw [List.append_assoc, List.singleton_append] at next
      rw [e]
      refine Ev.step (fun k => ?_) next
      simp only [grid_Span.l0]
      rw [if_neg c, if_pos (by omega), if_pos (by omega), on_eq rows cols l cur lk ins _ 1 h1 (by omega) hr.1 hr.2 (by omega) (by omega), Option.bind_some, Int.emod_add_emod, show a + (j : Int) + 1 = a + ((j + 1 : Nat) : Int) by omega]
theorem ref_loop (rows cols : Int) (l : List S44) (cur : Int) (lk ins : Bool) (a b : Int) (h1 : 1 ≤ l.length) (h2 : l.length ≤ 200) (ha : 0 ≤ a) (ha' : a < l.length) :
    ∀ (d j : Nat) (acc : List Int), j + d = l.length → 1 ≤ j → acc.length = j → Ev (fun k => shutterref10_Span.l0 k a b acc ((a + j) % (l.length : Int)) rows cols l cur lk ins) (acc ++ steps l.length a b d j)
  | 0, j, acc, hj, _, hacc => by
    have e : (a + j) % (l.length : Int) = a := by
      rw [show a + (j : Int) = a + (l.length : Int) by omega, Int.add_emod_right, Int.emod_eq_of_lt ha ha']
    refine Ev.step (f := fun _ => some acc) (fun k => ?_) (by simpa [steps] using Ev.now acc)
    simp only [shutterref10_Span.l0]
    split
    · rfl
    · first | rfl | rw [if_pos e]
  | d + 1, j, acc, hj, h0, hacc => by
    have hr := mod_range (a + j) l.length h1
    have e : ¬ (a + j) % (l.length : Int) = a := by
      intro h
      by_cases c : a + (j : Int) < l.length
      · rw [Int.emod_eq_of_lt (by omega) c] at h; omega
      · rw [show a + (j : Int) = (a + j - l.length) + (l.length : Int) by omega, Int.add_emod_right, Int.emod_eq_of_lt (by omega) (by omega)] at h
        omega
    by_cases c : (a + j) % (l.length : Int) = b
    · have e : steps l.length a b (d + 1) j = [] := by rw [steps, if_pos c]
      rw [e, List.append_nil]
      refine Ev.step (f := fun _ => some acc) (fun k => ?_) (Ev.now _)
      simp only [shutterref10_Span.l0]
      rw [if_pos c]
    · have es : steps l.length a b (d + 1) j = (a + j) % (l.length : Int) :: steps l.length a b d (j + 1) := by rw [steps, if_neg c]
      have next := ref_loop rows cols l cur lk ins a b h1 h2 ha ha' d (j + 1) (acc ++ [(a + j) % (l.length : Int)]) (by omega) (by omega) (by rw [List.length_append, List.length_singleton]; omega)
      rw [List.append_assoc, List.singleton_append] at next
      rw [es]
      refine Ev.step (fun k => ?_) next
      simp only [shutterref10_Span.l0]
      rw [if_neg c, if_neg e, if_pos (by omega), next_eq rows cols l cur lk ins _ h1 (by omega) hr.1 hr.2, Option.bind_some, Int.emod_add_emod, show a + (j : Int) + 1 = a + ((j + 1 : Nat) : Int) by omega]
def span (L : Nat) (a b : Int) : List Int := a :: steps L a b (L - 1) 1
theorem span_ev (rows cols : Int) (l : List S44) (cur : Int) (lk ins : Bool) (a b : Int) (h1 : 1 ≤ l.length) (h2 : l.length ≤ 200) (ha : 0 ≤ a) (ha' : a < l.length) : Ev (fun k => grid_Span.f k rows cols l cur lk ins a b) (span l.length a b) := by
  unfold grid_Span.f span
  simp only [on_eq rows cols l cur lk ins a 1 h1 (by omega) ha ha' (by omega) (by omega), Option.bind_some]
  exact span_loop rows cols l cur lk ins a b h1 h2 ha ha' (l.length - 1) 1 [a] (by omega) (by omega) rfl
theorem ref_ev (rows cols : Int) (l : List S44) (cur : Int) (lk ins : Bool) (a b : Int) (h1 : 1 ≤ l.length) (h2 : l.length ≤ 200) (ha : 0 ≤ a) (ha' : a < l.length) : Ev (fun k => shutterref10_Span.f k rows cols l cur lk ins a b) (span l.length a b) := by
  unfold shutterref10_Span.f span
  simp only [next_eq rows cols l cur lk ins a h1 (by omega) ha ha', Option.bind_some]
  exact ref_loop rows cols l cur lk ins a b h1 h2 ha ha' (l.length - 1) 1 [a] (by omega) (by omega) rfl
theorem steps_len (L : Nat) (a b : Int) : ∀ d j, (steps L a b d j).length ≤ d
  | 0, _ => by simp [steps]
  | d + 1, j => by
    have := steps_len L a b d (j + 1)
    unfold steps
    split
    · simp
    · rw [List.length_cons]; omega
theorem ints_loop (l : List Int) (hl : l.length ≤ 300) : ∀ d i, i + d = l.length → Ev (fun k => shutterref10_Ints.l0 k l l (i : Int)) true
  | 0, i, hi => by
    refine Ev.step (f := fun _ => some true) (fun k => ?_) (Ev.now _)
    simp only [shutterref10_Ints.l0]
    rw [if_neg (by omega)]
  | d + 1, i, hi => by
    have e3 : wrap64 ((i : Int) + 1) = ((i + 1 : Nat) : Int) := by rw [wrap_in (by omega) (by omega)]; omega
    refine Ev.step (fun k => ?_) (ints_loop l hl d (i + 1) (by omega))
    simp only [shutterref10_Ints.l0]
    rw [if_pos (by omega), if_pos (by omega), if_pos (by omega), if_pos (by trivial), e3]
theorem ints_ev (l : List Int) (hl : l.length ≤ 300) : Ev (fun k => shutterref10_Ints.f k l l) true := by
  unfold shutterref10_Ints.f
  simp only [if_true]
  exact ints_loop l hl l.length 0 (by omega)

theorem spans (rows cols : Int) (l : List S44) (cur : Int) (lk ins : Bool) (a b : Int) (ha : 0 ≤ a) (ha' : a ≤ 65535) (hb : 0 ≤ b) (hb' : b ≤ 65535) : ∃ k, shutterlaw10_GridSpans.f k rows cols l cur lk ins a b = some true := by
  refine Ev.rounds (g := fun k => shutterlaw10_GridSpans.f k rows cols l cur lk ins a b) ?_
  unfold shutterlaw10_GridSpans.f
  refine Ev.bind awake ?_
  simp only [if_true]
  refine Ev.bind (few_ev rows cols l cur lk ins) ?_
  rcases hf : fewB rows cols l cur with _ | _
  · refine Ev.step (f := fun k => (shutterlaw10_awake.f k).bind fun t224 => some t224) (fun k => by simp only [shutterlaw10_GridSpans.j0, Bool.not_false, if_true]) ?_
    exact Ev.bind awake (Ev.now _)
  · obtain ⟨h1, h2, _⟩ := few_true hf
    have ra := mod_range a l.length h1
    refine Ev.step (f := fun k => (grid_Span.f k rows cols l cur lk ins (a % (l.length : Int)) (b % (l.length : Int))).bind fun t225 => ((shutterref10_Span.f k rows cols l cur lk ins (a % (l.length : Int)) (b % (l.length : Int))).bind fun t228 => ((shutterref10_Ints.f k t225 t228).bind fun t231 => (some t231)))) (fun k => ?_) ?_
    · simp only [shutterlaw10_GridSpans.j0, Bool.not_true, Bool.false_eq_true, if_false]
      rw [if_neg (by omega), arg a l.length h1 ha ha', arg b l.length h1 hb hb']
    · refine Ev.bind (span_ev rows cols l cur lk ins _ _ h1 h2 ra.1 ra.2) ?_
      refine Ev.bind (ref_ev rows cols l cur lk ins _ _ h1 h2 ra.1 ra.2) ?_
      refine Ev.bind (ints_ev _ ?_) (Ev.now _)
      have := steps_len l.length (a % (l.length : Int)) (b % (l.length : Int)) (l.length - 1) 1
      unfold span
      rw [List.length_cons]; omega

end Go.Proofs.Ytabghncbdohciaa.GridPure

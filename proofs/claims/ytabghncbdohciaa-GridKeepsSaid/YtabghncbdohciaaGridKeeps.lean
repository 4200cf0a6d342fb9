/- Proved: the law GridKeeps as a statement about numbers and lists; conditions: the numbers are of their kinds. -/
import Derived.Test.YtabghncbdohciaaGridKPure
namespace Go.Proofs.Ytabghncbdohciaa.GridKPure
open Go.RowKit Go.Proofs.Ytabghncbdohciaa.YGridK Go.Proofs.YtabghncbdohciaaW.PrintWords Go.Proofs.YtabghncbdohciaaW.PrintLast Go.Proofs.YtabghncbdohciaaW.PrintMore
set_option linter.unusedVariables false

theorem same_loop (l : List S44) (hl : l.length ≤ 16383) (rows cols cur : Int) (lk ins : Bool) : ∀ d i, i + d = l.length → Ev (fun k => shutterref10_Same.l0 k (i : Int) rows cols l cur lk ins rows cols l cur lk ins) true
  | 0, i, hi => by
    refine Ev.step (f := fun _ => some true) (fun k => ?_) (Ev.now _)
    simp only [shutterref10_Same.l0]
    rw [if_neg (by omega)]
  | d + 1, i, hi => by
    have e3 : wrap64 ((i : Int) + 1) = ((i + 1 : Nat) : Int) := by rw [wrap_in (by omega) (by omega)]; omega
    refine Ev.step (fun k => ?_) (same_loop l hl rows cols cur lk ins d (i + 1) (by omega))
    simp only [shutterref10_Same.l0]
    rw [if_pos (by omega), if_pos (by omega), if_pos (by omega), if_neg (by simp), e3]
theorem same_ev (rows cols : Int) (l : List S44) (hl : l.length ≤ 16383) (cur : Int) (lk ins : Bool) : Ev (fun k => shutterref10_Same.f k rows cols l cur lk ins rows cols l cur lk ins) true := by
  have go : Ev (fun k => shutterref10_Same.j0 k false rows cols l cur lk ins rows cols l cur lk ins) true := by
    refine Ev.step (f := fun k => shutterref10_Same.l0 k ((0 : Nat) : Int) rows cols l cur lk ins rows cols l cur lk ins) (fun k => by simp only [shutterref10_Same.j0, Bool.false_eq_true, if_false]; rfl) ?_
    exact same_loop l hl rows cols cur lk ins l.length 0 (by omega)
  unfold shutterref10_Same.f
  simp only [if_true, bne_self_eq_false, Bool.false_eq_true, if_false]
  exact go
theorem clone_eq (l : List S44) (hl : l.length ≤ 16383) : api_Cell_22.f l = some l := by
  unfold api_Cell_22.f
  simp only [Option.bind_some, List.length_nil, List.nil_append]
  rw [if_pos (by omega)]
theorem copy_eq (rows cols : Int) (l : List S44) (hl : l.length ≤ 16383) (cur : Int) (lk ins : Bool) : grid_Copy.f rows cols l cur lk ins = some (rows, cols, l, cur, lk, ins) := by
  unfold grid_Copy.f
  rw [clone_eq l hl]; rfl
theorem rcopy_eq (rows cols : Int) (l : List S44) (hl : l.length ≤ 16383) (cur : Int) (lk ins : Bool) : shutterref10_Copy.f rows cols l cur lk ins = some (rows, cols, l, cur, lk, ins) := by
  unfold shutterref10_Copy.f
  simp only [Option.bind_some, List.length_nil, List.nil_append]
  rw [if_pos (by omega)]

/-! ### Spans -/
/-- The cells behind a, from the j-th on, till b comes or all are there. -/
def steps (L : Nat) (a b : Int) : Nat → Nat → List Int
  | 0, _ => []
  | d + 1, j => if (a + j) % (L : Int) = b then [] else (a + j) % (L : Int) :: steps L a b d (j + 1)
theorem span_loop (rows cols : Int) (l : List S44) (cur : Int) (lk ins : Bool) (a b : Int) (h1 : 1 ≤ l.length) (h2 : l.length ≤ 200) (ha : 0 ≤ a) (ha' : a < l.length) :
    ∀ (d j : Nat) (acc : List Int), j + d = l.length → 1 ≤ j → acc.length = j → Ev (fun k => grid_Span.l0 k b acc ((a + j) % (l.length : Int)) rows cols l cur lk ins) (acc ++ steps l.length a b d j)
  | 0, j, acc, hj, _, hacc => by
    refine Ev.step (f := fun _ => some acc) (fun k => ?_) (by simpa [steps] using Ev.now acc)
    simp only [grid_Span.l0]
    split
    · rfl
    · rw [if_neg (by omega)]
  | d + 1, j, acc, hj, h0, hacc => by
    have hr := mod_range (a + j) l.length h1
    by_cases c : (a + j) % (l.length : Int) = b
    · have e : steps l.length a b (d + 1) j = [] := by rw [steps, if_pos c]
      rw [e, List.append_nil]
      refine Ev.step (f := fun _ => some acc) (fun k => ?_) (Ev.now _)
      simp only [grid_Span.l0]
      rw [if_pos c]
    · have e : steps l.length a b (d + 1) j = (a + j) % (l.length : Int) :: steps l.length a b d (j + 1) := by rw [steps, if_neg c]
      have next := span_loop rows cols l cur lk ins a b h1 h2 ha ha' d (j + 1) (acc ++ [(a + j) % (l.length : Int)]) (by omega) (by omega) (by rw [List.length_append, List.length_singleton]; omega)
      rw [List.append_assoc, List.singleton_append] at next
      rw [e]
      refine Ev.step (fun k => ?_) next
      simp only [grid_Span.l0]
      rw [if_neg c, if_pos (by omega), if_pos (by omega), on_eq rows cols l cur lk ins _ 1 h1 (by omega) hr.1 hr.2 (by omega) (by omega), Option.bind_some, Int.emod_add_emod, show a + (j : Int) + 1 = a + ((j + 1 : Nat) : Int) by omega]
def span (L : Nat) (a b : Int) : List Int := a :: steps L a b (L - 1) 1
theorem span_ev (rows cols : Int) (l : List S44) (cur : Int) (lk ins : Bool) (a b : Int) (h1 : 1 ≤ l.length) (h2 : l.length ≤ 200) (ha : 0 ≤ a) (ha' : a < l.length) : Ev (fun k => grid_Span.f k rows cols l cur lk ins a b) (span l.length a b) := by
  unfold grid_Span.f span
  simp only [on_eq rows cols l cur lk ins a 1 h1 (by omega) ha ha' (by omega) (by omega), Option.bind_some]
  exact span_loop rows cols l cur lk ins a b h1 h2 ha ha' (l.length - 1) 1 [a] (by omega) (by omega) rfl

/-- The first n of the cells from a on. -/
def ringed (L : Nat) (a : Int) (j n : Nat) : List Int := (List.range n).map fun t => (a + ((j + t : Nat) : Int)) % (L : Int)
theorem steps_ringed (L : Nat) (a b : Int) : ∀ d j, ∃ n, n ≤ d ∧ steps L a b d j = ringed L a j n
  | 0, j => ⟨0, Nat.le_refl _, rfl⟩
  | d + 1, j => by
    rw [steps]
    by_cases c : (a + j) % (L : Int) = b
    · rw [if_pos c]; exact ⟨0, Nat.zero_le _, rfl⟩
    · rw [if_neg c]
      obtain ⟨n, hn, e⟩ := steps_ringed L a b d (j + 1)
      refine ⟨n + 1, by omega, ?_⟩
      rw [e]
      unfold ringed
      rw [List.range_succ_eq_map, List.map_cons, List.map_map]
      congr 1
      apply List.map_congr_left
      intro t _
      simp only [Function.comp]
      rw [show j + 1 + t = j + (t + 1) by omega]
theorem span_ringed (L : Nat) (a b : Int) (h1 : 1 ≤ L) (ha : 0 ≤ a) (ha' : a < L) : ∃ n, n ≤ L ∧ span L a b = ringed L a 0 n := by
  obtain ⟨n, hn, e⟩ := steps_ringed L a b (L - 1) 1
  refine ⟨n + 1, by omega, ?_⟩
  unfold span
  rw [e]
  unfold ringed
  rw [List.range_succ_eq_map, List.map_cons, List.map_map]
  congr 1
  · rw [show ((0 + 0 : Nat) : Int) = 0 from rfl, Int.add_zero, Int.emod_eq_of_lt ha ha']
  · apply List.map_congr_left
    intro t _
    simp only [Function.comp]
    rw [show 1 + t = 0 + (t + 1) by omega]
theorem ringed_rd (L : Nat) (a : Int) (n i : Nat) (hi : i < n) : rd (ringed L a 0 n) (i : Int) = (a + (i : Int)) % (L : Int) := by
  unfold rd ringed
  rw [Int.toNat_natCast, List.getD_eq_getElem?_getD, List.getElem?_map, List.getElem?_range hi]
  simp
theorem ringed_len (L : Nat) (a : Int) (j n : Nat) : (ringed L a j n).length = n := by unfold ringed; rw [List.length_map, List.length_range]
theorem apart (L : Nat) (a : Int) (s t : Nat) (hst : s < t) (ht : t < L) (ha : 0 ≤ a) (ha' : a < L) : (a + (s : Int)) % (L : Int) ≠ (a + (t : Int)) % (L : Int) := by
  intro h
  have cases1 : ∀ u : Nat, u < L → (a + (u : Int)) % (L : Int) = a + u ∨ (a + (u : Int)) % (L : Int) = a + u - L := by
    intro u hu
    by_cases c : a + (u : Int) < L
    · left; exact Int.emod_eq_of_lt (by omega) c
    · right
      rw [show a + (u : Int) = (a + u - L) + (L : Int) by omega, Int.add_emod_right, Int.emod_eq_of_lt (by omega) (by omega)]
      omega
  have h1 := cases1 s (by omega)
  have h2 := cases1 t ht
  omega

def seven (x : S44) : S44 := ⟨x.f0, ⟨x.f1.f0, x.f1.f1, x.f1.f2, x.f1.f3⟩, 7⟩
theorem cell_c1 : Ev (fun k => grid_cell.f k false false false 0 false 193) true := Ev.of (fun k => grid_cell.mono _ _ _ _ _ _ k) (k := 10) (by decide +kernel)

section
variable (rows cols : Int) (l : List S44) (cur : Int) (lk ins : Bool)
theorem seen_loop (a : Int) (n : Nat) (h1 : 1 ≤ l.length) (h2 : l.length ≤ 200) (hn : n ≤ l.length) (ha : 0 ≤ a) (ha' : a < l.length) (same : Ev (fun k => shutterref10_Same.f k rows cols l cur lk ins rows cols l cur lk ins) true) :
    ∀ (d i : Nat) (m : List Bool), i + d = n → m.length = l.length → (∀ t : Nat, i ≤ t → t < n → rdOf false m ((a + (t : Int)) % (l.length : Int)) = false) → Ev (fun k => shutterlaw10_GridKeeps.l1 k (ringed l.length a 0 n) m (i : Int) rows cols l cur lk ins rows cols l cur lk ins) true
  | 0, i, m, hi, hm, hf => by
    refine Ev.step (f := fun k => (shutterref10_Same.f k rows cols l cur lk ins rows cols l cur lk ins).bind fun t => some t) (fun k => ?_) (Ev.bind same (Ev.now _))
    simp only [shutterlaw10_GridKeeps.l1]
    rw [if_neg (by rw [ringed_len]; omega)]
  | d + 1, i, m, hi, hm, hf => by
    have e3 : wrap64 ((i : Int) + 1) = ((i + 1 : Nat) : Int) := by rw [wrap_in (by omega) (by omega)]; omega
    have hr := mod_range (a + i) l.length h1
    refine Ev.step (fun k => ?_) (seen_loop a n h1 h2 hn ha ha' same d (i + 1) (m.set ((a + (i : Int)) % (l.length : Int)).toNat true) (by omega) (by rw [List.length_set]; exact hm) (fun t ht htn => ?_))
    · simp only [shutterlaw10_GridKeeps.l1]
      rw [if_pos (by rw [ringed_len]; omega), if_pos (by omega), ringed_rd _ _ _ _ (by omega), if_pos hr.1, if_pos (by omega), if_neg (by rw [hf i (by omega) (by omega)]; decide), e3]
    · have hp := hf t (by omega) htn
      have hq := mod_range (a + t) l.length h1
      have hne := apart l.length a i t (by omega) (by omega) ha ha'
      unfold rdOf at hp ⊢
      rw [List.getD_eq_getElem?_getD] at hp ⊢
      rw [List.getElem?_set_ne (by omega)]
      exact hp
theorem fill_loop (a : Int) (x y : Int) (n : Nat) (h1 : 1 ≤ l.length) (h2 : l.length ≤ 200) (ha : 0 ≤ a) (ha' : a ≤ 65535) (hx : 0 ≤ x) (hx' : x < l.length) (same : Ev (fun k => shutterref10_Same.f k rows cols l cur lk ins rows cols l cur lk ins) true) :
    ∀ (d i : Nat) (c t : List S44), i + d = l.length → c.length = l.length → t.length = l.length → Ev (fun k => shutterlaw10_GridKeeps.l0 k a x (i : Int) rows cols l cur lk ins rows cols l cur lk ins rows cols c cur lk ins rows cols t cur lk ins) true
  | 0, i, c, t, hi, hc, ht => by
    obtain ⟨n, hn, e⟩ := span_ringed l.length x (a % (l.length : Int)) h1 hx hx'
    refine Ev.step (f := fun k => (grid_Span.f k rows cols l cur lk ins x (a % (l.length : Int))).bind fun t268 => shutterlaw10_GridKeeps.l1 k t268 (List.replicate l.length false) ((0 : Nat) : Int) rows cols l cur lk ins rows cols l cur lk ins) (fun k => ?_) ?_
    · simp only [shutterlaw10_GridKeeps.l0]
      rw [if_neg (by omega), if_neg (by omega), arg a l.length h1 ha ha']
      simp only [if_pos (show (0 : Int) ≤ (l.length : Int) by omega), Int.toNat_natCast, if_pos (show l.length ≤ 281474976710656 by omega)]
      rfl
    · refine Ev.bind (span_ev rows cols l cur lk ins x _ h1 h2 hx hx') ?_
      rw [e]
      refine seen_loop rows cols l cur lk ins x n h1 h2 hn hx hx' same n 0 _ (by omega) (List.length_replicate ..) (fun t _ htn => ?_)
      unfold rdOf
      rw [List.getD_eq_getElem?_getD, List.getElem?_replicate]
      split <;> rfl
  | d + 1, i, c, t, hi, hc, ht => by
    have e3 : wrap64 ((i : Int) + 1) = ((i + 1 : Nat) : Int) := by rw [wrap_in (by omega) (by omega)]; omega
    refine Ev.step (fun k => ?_) (fill_loop a x y n h1 h2 ha ha' hx hx' same d (i + 1) (c.set (i : Int).toNat (seven (rd_T44 c i))) (t.set (i : Int).toNat (seven (rd_T44 t i))) (by omega) (by rw [List.length_set]; exact hc) (by rw [List.length_set]; exact ht))
    simp only [shutterlaw10_GridKeeps.l0]
    rw [if_pos (by omega), if_pos (by omega), if_pos (by omega), e3]
    rfl

theorem keeps (a b : Int) (ha : 0 ≤ a) (ha' : a ≤ 65535) (hb : 0 ≤ b) (hb' : b ≤ 65535) : ∃ k, shutterlaw10_GridKeeps.f k rows cols l cur lk ins a b = some true := by
  refine Ev.rounds (g := fun k => shutterlaw10_GridKeeps.f k rows cols l cur lk ins a b) ?_
  unfold shutterlaw10_GridKeeps.f
  refine Ev.bind awake ?_
  simp only [if_true]
  refine Ev.bind (few_ev rows cols l cur lk ins) ?_
  rcases hf : fewB rows cols l cur with _ | _
  · refine Ev.step (f := fun k => (shutterlaw10_awake.f k).bind fun t224 => some t224) (fun k => by simp only [shutterlaw10_GridKeeps.j0, Bool.not_false, if_true]) ?_
    exact Ev.bind awake (Ev.now _)
  · obtain ⟨g1, g2, _⟩ := few_true hf
    have same := same_ev rows cols l (by omega) cur lk ins
    have hr := mod_range a l.length g1
    have put : Ev (fun k => grid_Put.f k rows cols l cur lk ins (a % (l.length : Int)) false false false 0 false 193) (rows, cols, l.set (a % (l.length : Int)).toNat ⟨false, ⟨false, false, 0, false⟩, 193⟩, cur, lk, ins, none) := by
      unfold grid_Put.f
      simp only [if_neg (show ¬ a % (l.length : Int) < 0 by omega), decide_eq_false (show ¬ a % (l.length : Int) ≥ (l.length : Int) by omega)]
      refine Ev.step (fun k => by simp only [grid_Put.j0, Bool.false_eq_true, if_false]; rfl) (Ev.bind cell_c1 ?_)
      simp only [if_true, copy_eq rows cols l (by omega) cur lk ins, Option.bind_some, if_pos hr.1, if_pos hr.2]
      exact Ev.now _
    refine Ev.step (f := fun k => (grid_Put.f k rows cols l cur lk ins (a % (l.length : Int)) false false false 0 false 193).bind fun b256 => shutterlaw10_GridKeeps.l0 k b (a % (l.length : Int)) ((0 : Nat) : Int) rows cols l cur lk ins rows cols l cur lk ins rows cols l cur lk ins b256.1 b256.2.1 b256.2.2.1 b256.2.2.2.1 b256.2.2.2.2.1 b256.2.2.2.2.2.1) (fun k => ?_) (Ev.bind put ?_)
    · simp only [shutterlaw10_GridKeeps.j0, Bool.not_true, Bool.false_eq_true, if_false, rcopy_eq rows cols l (by omega) cur lk ins, copy_eq rows cols l (by omega) cur lk ins, Option.bind_some, arg a l.length g1 ha ha']
      rw [if_neg (by omega)]
      rfl
    · exact fill_loop rows cols l cur lk ins b _ 0 0 g1 g2 hb hb' hr.1 hr.2 same l.length 0 _ _ (by omega) rfl (by rw [List.length_set])
end
end Go.Proofs.Ytabghncbdohciaa.GridKPure

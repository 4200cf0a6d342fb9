/- Proved: the law GridPuts as a statement about numbers and lists; conditions: the numbers are of their kinds. -/
import Derived.Test.YtabghncbdohciaaDoorGridPPure
import Derived.Test.YtabghncbdohciaaDoorOpenScreenP
namespace Go.Proofs.YtabghncbdohciaaDoor.GridPPure
open Go.RowKit Go.Proofs.YtabghncbdohciaaDoor.YGridP Go.Proofs.YtabghncbdohciaaDoorW.PrintWords Go.Proofs.YtabghncbdohciaaDoorW.PrintLast Go.Proofs.YtabghncbdohciaaDoorW.PrintMore
set_option linter.unusedVariables false

theorem put_ok : ∀ (p q m : Bool) (s : Fin 4), ((attr_Put.f 20 p q (s.val : Int) m).map fun r => r.2) = some none := by decide +kernel
theorem put_ev (p q m : Bool) (s : Int) (h0 : 0 ≤ s) (h3 : s ≤ 3) : ∃ v, Ev (fun k => attr_Put.f k p q s m) (v, none) := by
  have h := put_ok p q m ⟨s.toNat, by omega⟩
  have e : ((⟨s.toNat, by omega⟩ : Fin 4).val : Int) = s := by simp only; omega
  rw [e] at h
  rw [Option.map_eq_some_iff] at h
  obtain ⟨⟨v, o⟩, h1, h2⟩ := h
  subst h2
  exact ⟨v, Ev.of (fun k => attr_Put.mono _ _ _ _ k) h1⟩
theorem put_no (p q m : Bool) (s : Int) (h : s < 0 ∨ 3 < s) : Ev (fun k => attr_Put.f k p q s m) (0, some 1) := by
  have no : Ev (fun k => attr_Put.j0 k true p q s m) (0, some 1) := Ev.step (f := fun _ => some (0, some 1)) (fun k => by simp only [attr_Put.j0, if_true]) (Ev.now _)
  unfold attr_Put.f
  by_cases h1 : s < 0
  · simp only [if_pos h1]; exact no
  · simp only [if_neg h1, decide_eq_true (show s > 3 by omega)]; exact no
theorem cell_ev (x : S36) (h0 : 0 ≤ x.f2) (h1 : x.f2 ≤ 255) : Ev (fun k => grid_cell.f k x.f0 x.f1.f0 x.f1.f1 x.f1.f2 x.f1.f3 x.f2) (cellB x) := by
  have hc := cell_some x
  obtain ⟨f, ⟨p, q, s, m⟩, c⟩ := x
  simp only at hc h0 h1 ⊢
  generalize cellB (⟨f, ⟨p, q, s, m⟩, c⟩ : S36) = b at hc ⊢
  unfold grid_cell.f
  unfold shutterref10_Cell.f at hc
  cases f with
  | true =>
    simp only [if_true] at hc ⊢
    by_cases hs : 0 ≤ s ∧ s ≤ 3
    · obtain ⟨v, hv⟩ := put_ev p q m s hs.1 hs.2
      refine Ev.bind hv ?_
      simp only [Option.isNone_none, if_true]
      have e : (c == 0) = b := by
        by_cases hz : c = 0
        · rw [if_pos hz, if_pos hs.1, decide_eq_true hs.2] at hc
          rw [← Option.some.inj hc]; simpa using hz
        · rw [if_neg hz] at hc
          rw [← Option.some.inj hc]; simpa using hz
      rw [e]; exact Ev.now _
    · refine Ev.bind (put_no p q m s (by omega)) ?_
      simp only [Option.isNone_some, Bool.false_eq_true, if_false]
      have e : b = false := by
        by_cases hz : c = 0
        · rw [if_pos hz] at hc
          by_cases h4 : s ≥ 0
          · rw [if_pos h4, decide_eq_false (by omega)] at hc; exact (Option.some.inj hc).symm
          · rw [if_neg h4] at hc; exact (Option.some.inj hc).symm
        · rw [if_neg hz] at hc; exact (Option.some.inj hc).symm
      rw [e]; exact Ev.now _
  | false =>
    simp only [Bool.false_eq_true, if_false] at hc ⊢
    by_cases ha : (!p && (!q && (s == 0 && (!m)))) = true
    · simp only [if_pos ha] at hc ⊢
      have e : attr_Char.f c = shutterref05_Char.f c := by
        unfold attr_Char.f shutterref05_Char.f
        have e1 : (c != 255) = decide (c ≤ 254) := by
          by_cases h : c = 255
          · subst h; rfl
          · rw [bne_iff_ne.2 h, decide_eq_true (by omega)]
        rw [e1]
      rw [e, hc]; exact Ev.now _
    · simp only [if_neg ha] at hc ⊢
      rw [hc]; exact Ev.now _

theorem same_loop (l : List S36) (hl : l.length ≤ 16383) (rows cols cur : Int) (lk ins : Bool) : ∀ d i, i + d = l.length → Ev (fun k => shutterref10_Same.l0 k (i : Int) rows cols l cur lk ins rows cols l cur lk ins) true
  | 0, i, hi => by
    refine Ev.step (f := fun _ => some true) (fun k => ?_) (Ev.now _)
    simp only [shutterref10_Same.l0]
    rw [if_neg (by omega)]
  | d + 1, i, hi => by
    have e3 : wrap64 ((i : Int) + 1) = ((i + 1 : Nat) : Int) := by rw [wrap_in (by omega) (by omega)]; omega
    refine Ev.step (fun k => ?_) (same_loop l hl rows cols cur lk ins d (i + 1) (by omega))
    simp only [shutterref10_Same.l0]
    rw [if_pos (by omega), if_pos (by omega), if_pos (by omega), if_neg (by simp), e3]
theorem same_ev (rows cols : Int) (l : List S36) (hl : l.length ≤ 16383) (cur : Int) (lk ins : Bool) : Ev (fun k => shutterref10_Same.f k rows cols l cur lk ins rows cols l cur lk ins) true := by
  have go : Ev (fun k => shutterref10_Same.j0 k false rows cols l cur lk ins rows cols l cur lk ins) true := by
    refine Ev.step (f := fun k => shutterref10_Same.l0 k ((0 : Nat) : Int) rows cols l cur lk ins rows cols l cur lk ins) (fun k => by simp only [shutterref10_Same.j0, Bool.false_eq_true, if_false]; rfl) ?_
    exact same_loop l hl rows cols cur lk ins l.length 0 (by omega)
  unfold shutterref10_Same.f
  simp only [if_true, bne_self_eq_false, Bool.false_eq_true, if_false]
  exact go
theorem clone_eq (l : List S36) (hl : l.length ≤ 16383) : api_Cell_27.f l = some l := by
  unfold api_Cell_27.f
  simp only [Option.bind_some, List.length_nil, List.nil_append]
  rw [if_pos (by omega)]
theorem copy_eq (rows cols : Int) (l : List S36) (hl : l.length ≤ 16383) (cur : Int) (lk ins : Bool) : grid_Copy.f rows cols l cur lk ins = some (rows, cols, l, cur, lk, ins) := by
  unfold grid_Copy.f
  rw [clone_eq l hl]; rfl
theorem rcopy_eq (rows cols : Int) (l : List S36) (hl : l.length ≤ 16383) (cur : Int) (lk ins : Bool) : shutterref10_Copy.f rows cols l cur lk ins = some (rows, cols, l, cur, lk, ins) := by
  unfold shutterref10_Copy.f
  simp only [Option.bind_some, List.length_nil, List.nil_append]
  rw [if_pos (by omega)]

theorem puts (rows cols : Int) (l : List S36) (cur : Int) (lk ins : Bool) (a : Int) (f p q : Bool) (s : Int) (m : Bool) (c : Int) (h0 : 0 ≤ c) (h1 : c ≤ 255) : ∃ k, shutterlaw10_GridPuts.f k rows cols l cur lk ins a f p q s m c = some true := by
  refine Ev.rounds (g := fun k => shutterlaw10_GridPuts.f k rows cols l cur lk ins a f p q s m c) ?_
  unfold shutterlaw10_GridPuts.f
  refine Ev.bind awake ?_
  simp only [if_true]
  refine Ev.bind (few_ev rows cols l cur lk ins) ?_
  rcases hf : fewB rows cols l cur with _ | _
  · refine Ev.step (f := fun k => (shutterlaw10_awake.f k).bind fun t224 => some t224) (fun k => by simp only [shutterlaw10_GridPuts.j0, Bool.not_false, if_true]) ?_
    exact Ev.bind awake (Ev.now _)
  · obtain ⟨g1, g2, _⟩ := few_true hf
    have same := same_ev rows cols l (by omega) cur lk ins
    have bad : ∀ k : Nat, Ev (fun n => shutterlaw10_GridPuts.j1 n a (some 4) true rows cols l cur lk ins f p q s m c rows cols l cur lk ins) true := fun _ => by
      refine Ev.step (f := fun k => (shutterref10_Same.f k rows cols l cur lk ins rows cols l cur lk ins).bind fun t => some t) (fun k => ?_) (Ev.bind same (Ev.now _))
      simp only [shutterlaw10_GridPuts.j1, if_true, show api_Code.f (some 4) = some 4 from rfl, Option.bind_some]
    have out : Ev (fun k => grid_Put.j0 k a true rows cols l cur lk ins f p q s m c) (rows, cols, l, cur, lk, ins, some 4) :=
      Ev.step (f := fun _ => some (rows, cols, l, cur, lk, ins, some 4)) (fun k => by simp only [grid_Put.j0, if_true]) (Ev.now _)
    refine Ev.step (f := fun k => (grid_Put.f k rows cols l cur lk ins a f p q s m c).bind fun b => if a < 0 then (shutterlaw10_GridPuts.j1 k a b.2.2.2.2.2.2 true rows cols l cur lk ins f p q s m c b.1 b.2.1 b.2.2.1 b.2.2.2.1 b.2.2.2.2.1 b.2.2.2.2.2.1) else (shutterlaw10_GridPuts.j1 k a b.2.2.2.2.2.2 (decide (a ≥ (l.length : Int))) rows cols l cur lk ins f p q s m c b.1 b.2.1 b.2.2.1 b.2.2.2.1 b.2.2.2.2.1 b.2.2.2.2.2.1)) (fun k => by simp only [shutterlaw10_GridPuts.j0, Bool.not_true, Bool.false_eq_true, if_false]) ?_
    unfold grid_Put.f
    by_cases ha : a < 0
    · simp only [if_pos ha]
      exact Ev.bind out (bad 0)
    · simp only [if_neg ha]
      by_cases hb : a ≥ (l.length : Int)
      · simp only [decide_eq_true hb]
        exact Ev.bind out (bad 0)
      · simp only [decide_eq_false hb]
        have hc := cell_ev ⟨f, ⟨p, q, s, m⟩, c⟩ h0 h1
        have hr := cell_some ⟨f, ⟨p, q, s, m⟩, c⟩
        simp only at hc hr
        rcases hx : cellB (⟨f, ⟨p, q, s, m⟩, c⟩ : S36) with _ | _
        · rw [hx] at hc hr
          have step : Ev (fun k => grid_Put.j0 k a false rows cols l cur lk ins f p q s m c) (rows, cols, l, cur, lk, ins, some 1) := by
            refine Ev.step (fun k => by simp only [grid_Put.j0, Bool.false_eq_true, if_false]; rfl) (Ev.bind hc ?_)
            simp only [Bool.false_eq_true, if_false]
            exact Ev.now _
          refine Ev.bind step ?_
          refine Ev.step (f := fun k => (shutterref10_Same.f k rows cols l cur lk ins rows cols l cur lk ins).bind fun t => some t) (fun k => ?_) (Ev.bind same (Ev.now _))
          simp only [shutterlaw10_GridPuts.j1, Bool.false_eq_true, if_false, hr, show api_Code.f (some 1) = some 1 from rfl, Option.bind_some, if_true]
        · rw [hx] at hc hr
          have step : Ev (fun k => grid_Put.j0 k a false rows cols l cur lk ins f p q s m c) (rows, cols, l.set a.toNat ⟨f, ⟨p, q, s, m⟩, c⟩, cur, lk, ins, none) := by
            refine Ev.step (fun k => by simp only [grid_Put.j0, Bool.false_eq_true, if_false]; rfl) (Ev.bind hc ?_)
            simp only [if_true, copy_eq rows cols l (by omega) cur lk ins, Option.bind_some, if_pos (show 0 ≤ a by omega), if_pos (show a < (l.length : Int) by omega)]
            exact Ev.now _
          refine Ev.bind step ?_
          have same2 := same_ev rows cols (l.set a.toNat ⟨f, ⟨p, q, s, m⟩, c⟩) (by rw [List.length_set]; omega) cur lk ins
          refine Ev.step (f := fun k => (shutterref10_Same.f k rows cols (l.set a.toNat ⟨f, ⟨p, q, s, m⟩, c⟩) cur lk ins rows cols (l.set a.toNat ⟨f, ⟨p, q, s, m⟩, c⟩) cur lk ins).bind fun t => some t) (fun k => ?_) (Ev.bind same2 (Ev.now _))
          simp only [shutterlaw10_GridPuts.j1, Bool.false_eq_true, if_false, hr, if_true, rcopy_eq rows cols l (by omega) cur lk ins, Option.bind_some, if_pos (show 0 ≤ a by omega), if_pos (show a < (l.length : Int) by omega), Option.isNone_none]
end Go.Proofs.YtabghncbdohciaaDoor.GridPPure

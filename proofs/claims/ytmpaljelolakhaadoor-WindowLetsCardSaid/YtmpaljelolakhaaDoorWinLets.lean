/- Proved: the laws WindowLets and WindowFar as statements about numbers; conditions: the numbers are of their kinds. -/
import Derived.Test.YtmpaljelolakhaaDoorWinOrder
namespace Go.Proofs.YtmpaljelolakhaaDoor.WinLets
open Go.RowKit Go.Proofs.YtmpaljelolakhaaDoor.YWin Go.Proofs.YtmpaljelolakhaaDoorW.PrintWords Go.Proofs.YtmpaljelolakhaaDoorW.PrintLast Go.Proofs.YtmpaljelolakhaaDoorW.PrintMore Go.Proofs.YtmpaljelolakhaaDoor.WinBase Go.Proofs.YtmpaljelolakhaaDoor.WinSet Go.Proofs.YtmpaljelolakhaaDoor.WinOrder
set_option linter.unusedVariables false

/-- The numbers that bits from i on tell of, falling. -/
def lst (T B : Nat) : Nat → Nat → List Int
  | 0, _ => []
  | d + 1, i => if B.testBit i then ((T : Int) - i) :: lst T B d (i + 1) else lst T B d (i + 1)
theorem lst_len (T B : Nat) : ∀ d i, (lst T B d i).length ≤ d
  | 0, _ => by simp [lst]
  | d + 1, i => by
    have := lst_len T B d (i + 1)
    unfold lst
    split
    · rw [List.length_cons]; omega
    · omega
theorem lst_mem (T B : Nat) (x : Int) : ∀ d i, x ∈ lst T B d i ↔ ∃ j, i ≤ j ∧ j < i + d ∧ B.testBit j = true ∧ x = (T : Int) - j
  | 0, i => by
    simp only [lst, List.not_mem_nil, false_iff]
    rintro ⟨j, h1, h2, _⟩
    omega
  | d + 1, i => by
    have ih := lst_mem T B x d (i + 1)
    unfold lst
    split
    · rename_i hb
      rw [List.mem_cons, ih]
      constructor
      · rintro (rfl | ⟨j, h1, h2, h3⟩)
        · exact ⟨i, by omega, by omega, hb, rfl⟩
        · exact ⟨j, by omega, by omega, h3⟩
      · rintro ⟨j, h1, h2, h3, h4⟩
        rcases Nat.eq_or_lt_of_le h1 with rfl | h1
        · exact .inl h4
        · exact .inr ⟨j, by omega, by omega, h3, h4⟩
    · rename_i hb
      rw [ih]
      constructor
      · rintro ⟨j, h1, h2, h3⟩; exact ⟨j, by omega, by omega, h3⟩
      · rintro ⟨j, h1, h2, h3, h4⟩
        rcases Nat.eq_or_lt_of_le h1 with rfl | h1
        · exact absurd h3 hb
        · exact ⟨j, by omega, by omega, h3, h4⟩
theorem lst_last (T B : Nat) : ∀ d i, lst T B d i ≠ [] → ((1 : Int) ≤ (lst T B d i).getD ((lst T B d i).length - 1) 0 ↔ ∀ x ∈ lst T B d i, (1 : Int) ≤ x)
  | 0, _, h => absurd rfl h
  | d + 1, i, h => by
    have ih := lst_last T B d (i + 1)
    have mem := fun x => lst_mem T B x d (i + 1)
    unfold lst at h ⊢
    split
    · rename_i hb
      rcases hl : lst T B d (i + 1) with _ | ⟨y, ys⟩
      · simp
      · rw [hl] at ih mem
        have e : ((((T : Int) - i) :: y :: ys).getD ((((T : Int) - i) :: y :: ys).length - 1) 0) = (y :: ys).getD ((y :: ys).length - 1) 0 := by
          simp [List.getD_eq_getElem?_getD]
        rw [e, ih (by simp)]
        constructor
        · intro hx x hm
          rcases List.mem_cons.1 hm with rfl | hm
          · have h1 := hx y List.mem_cons_self
            obtain ⟨j, h2, _, _, h3⟩ := (mem y).1 List.mem_cons_self
            omega
          · exact hx x hm
        · intro hx x hm
          exact hx x (List.mem_cons_of_mem _ hm)
    · rename_i hb
      rw [if_neg hb] at h
      exact ih h

theorem wrap_u (i : Nat) (h : i < 18446744073709551616) : IntKind.u64.wrap (i : Int) = (i : Int) := by rw [IntKind.wrap_u64]; omega
theorem list_loop (T B : Nat) (hT : T ≤ most) (hB : B < 18446744073709551616) : ∀ (d i : Nat) (acc : List Int), i + d = 64 → acc.length ≤ i → Ev (fun k => shutterref20_List.l0 k acc (i : Int) T B) (acc ++ lst T B d i)
  | 0, i, acc, hi, ha => by
    refine Ev.step (f := fun _ => some acc) (fun k => ?_) (by simpa [lst] using Ev.now acc)
    simp only [shutterref20_List.l0]
    rw [if_neg (by omega)]
  | d + 1, i, acc, hi, ha => by
    have hT' := hT
    unfold most at hT'
    have e1 : wrap64 ((T : Int) - i) = (T : Int) - i := wrap_in (by omega) (by omega)
    have e3 : wrap64 ((i : Int) + 1) = ((i + 1 : Nat) : Int) := by rw [wrap_in (by omega) (by omega)]; omega
    by_cases hb : B.testBit i = true
    · have next := list_loop T B hT hB d (i + 1) (acc ++ [(T : Int) - i]) (by omega) (by rw [List.length_append, List.length_singleton]; omega)
      rw [List.append_assoc, List.singleton_append] at next
      have e : lst T B (d + 1) i = ((T : Int) - i) :: lst T B d (i + 1) := by rw [lst, if_pos hb]
      rw [e]
      refine Ev.step (fun k => ?_) next
      simp only [shutterref20_List.l0]
      rw [if_pos (by omega), wrap_u i (by omega), if_pos (by omega), bit_at B hB i (by omega), if_pos hb, if_pos rfl, if_pos (by omega), e1, e3]
    · have next := list_loop T B hT hB d (i + 1) acc (by omega) (by omega)
      have e : lst T B (d + 1) i = lst T B d (i + 1) := by rw [lst, if_neg hb]
      rw [e]
      refine Ev.step (fun k => ?_) next
      simp only [shutterref20_List.l0]
      rw [if_pos (by omega), wrap_u i (by omega), if_pos (by omega), bit_at B hB i (by omega), if_neg hb, if_neg (by omega), e3]
theorem list_ev (T B : Nat) (hT : T ≤ most) (hB : B < 18446744073709551616) : Ev (fun k => shutterref20_List.f k T B) (lst T B 64 0) := by
  unfold shutterref20_List.f
  exact list_loop T B hT hB 64 0 [] (by omega) (by simp)

theorem lst_nil {T B : Nat} (hB : B < 18446744073709551616) : lst T B 64 0 = [] ↔ B = 0 := by
  constructor
  · intro h
    refine Nat.eq_of_testBit_eq fun j => ?_
    rw [Nat.zero_testBit]
    rcases hb : B.testBit j with _ | _
    · rfl
    · have := (lst_mem T B ((T : Int) - j) 64 0).2 ⟨j, by omega, by have := bit_lt hB hb; omega, hb, rfl⟩
      rw [h] at this
      cases this
  · rintro rfl
    rcases hl : lst T 0 64 0 with _ | ⟨x, xs⟩
    · rfl
    · obtain ⟨j, _, _, h, _⟩ := (lst_mem T 0 x 64 0).1 (by rw [hl]; exact List.mem_cons_self)
      simp at h

theorem lst_head {T B : Nat} (hne : lst T B 64 0 ≠ []) : rd (lst T B 64 0) 0 = (T : Int) ↔ B.testBit 0 = true := by
  unfold rd
  constructor
  · intro h
    rcases hl : lst T B 64 0 with _ | ⟨x, xs⟩
    · exact absurd hl hne
    · rw [hl] at h
      have hx : x = (T : Int) := by simpa using h
      obtain ⟨j, _, _, hb, h3⟩ := (lst_mem T B x 64 0).1 (by rw [hl]; exact List.mem_cons_self)
      have : j = 0 := by omega
      subst this
      exact hb
  · intro h
    have e : lst T B 64 0 = ((T : Int) - (0 : Nat)) :: lst T B 63 1 := by rw [lst, if_pos h]
    rw [e]
    simp

theorem right_ref (T B : Nat) (hT : T ≤ most) (hB : B < 18446744073709551616) : Ev (fun k => shutterref20_Right.f k T B) (right T B) := by
  have hT' := hT
  unfold most at hT'
  unfold shutterref20_Right.f
  simp only [if_neg (show ¬ (T : Int) < 0 by omega), decide_eq_false (show ¬ (T : Int) > 4611686018427387904 by omega)]
  refine Ev.step (f := fun k => (shutterref20_List.f k T B).bind fun t129 => (if (T : Int) = 0 then (some ((t129.length : Int) == 0)) else (if (t129.length : Int) > 0 then (if 0 < (t129.length : Int) then (if (rd t129 0) = (T : Int) then (if 0 ≤ (wrap64 ((t129.length : Int) - 1)) then (if (wrap64 ((t129.length : Int) - 1)) < (t129.length : Int) then (some (decide ((rd t129 (wrap64 ((t129.length : Int) - 1))) ≥ 1))) else (none)) else (none)) else (some false)) else (none)) else (some false)))) (fun k => by simp only [shutterref20_Right.j0, Bool.false_eq_true, if_false]) ?_
  refine Ev.bind (list_ev T B hT hB) ?_
  have hlen := lst_len T B 64 0
  have hnil := lst_nil (T := T) hB
  have hrt := rt_iff hT hB
  by_cases c0 : T = 0
  · simp only [if_pos (show (T : Int) = 0 by omega)]
    have e : right T B = ((((lst T B 64 0).length : Int)) == 0) := by
      rw [Bool.eq_iff_iff, hrt, beq_iff_eq]
      constructor
      · rintro ⟨_, _, ⟨_, h⟩ | ⟨h, _⟩⟩
        · rw [hnil.2 h]; rfl
        · omega
      · intro h
        exact ⟨hT, hB, .inl ⟨c0, hnil.1 (List.eq_nil_of_length_eq_zero (by omega))⟩⟩
    rw [e]
    exact Ev.now _
  · simp only [if_neg (show ¬ (T : Int) = 0 by omega)]
    by_cases c1 : lst T B 64 0 = []
    · simp only [c1, List.length_nil, if_neg (show ¬ ((0 : Nat) : Int) > 0 by omega)]
      have e : right T B = false := by
        rcases h : right T B with _ | _
        · rfl
        · rcases (hrt.1 h).2.2 with ⟨h, _⟩ | ⟨_, h, _⟩
          · omega
          · rw [hnil.1 c1] at h; simp at h
      rw [e]
      exact Ev.now _
    · have hpos : 0 < (lst T B 64 0).length := List.length_pos_iff.2 c1
      simp only [if_pos (show ((lst T B 64 0).length : Int) > 0 by omega)]
      by_cases c2 : B.testBit 0 = true
      · simp only [if_pos ((lst_head c1).2 c2), wrap_in (x := ((lst T B 64 0).length : Int) - 1) (by omega) (by omega), if_pos (show 0 ≤ ((lst T B 64 0).length : Int) - 1 by omega), if_pos (show ((lst T B 64 0).length : Int) - 1 < ((lst T B 64 0).length : Int) by omega)]
        have e : right T B = decide (rd (lst T B 64 0) (((lst T B 64 0).length : Int) - 1) ≥ 1) := by
          rw [Bool.eq_iff_iff, hrt, decide_eq_true_eq]
          have e2 : rd (lst T B 64 0) (((lst T B 64 0).length : Int) - 1) = (lst T B 64 0).getD ((lst T B 64 0).length - 1) 0 := by
            unfold rd
            congr 1
            omega
          rw [e2, ge_iff_le, lst_last T B 64 0 c1]
          constructor
          · rintro ⟨_, _, ⟨h, _⟩ | ⟨_, _, h⟩⟩ x hx
            · omega
            · obtain ⟨j, _, _, hb, rfl⟩ := (lst_mem T B x 64 0).1 hx
              have := h j hb
              omega
          · intro h
            refine ⟨hT, hB, .inr ⟨by omega, c2, fun j hj => ?_⟩⟩
            have := h _ ((lst_mem T B ((T : Int) - j) 64 0).2 ⟨j, by omega, by have := bit_lt hB hj; omega, hj, rfl⟩)
            omega
        rw [e]
        exact Ev.now _
      · have hh : ¬ rd (lst T B 64 0) 0 = (T : Int) := fun h => c2 ((lst_head c1).1 h)
        simp only [if_neg hh]
        have e : right T B = false := by
          rcases h : right T B with _ | _
          · rfl
          · rcases (hrt.1 h).2.2 with ⟨h, _⟩ | ⟨_, h, _⟩
            · omega
            · exact absurd h c2
        rw [e]
        exact Ev.now _
theorem right_ref_out (t : Int) (b : Int) (h : t < 0 ∨ 4611686018427387904 < t) : Ev (fun k => shutterref20_Right.f k t b) false := by
  unfold shutterref20_Right.f
  have e : ∀ k, shutterref20_Right.j0 (k + 1) true t b = some false := fun k => by simp only [shutterref20_Right.j0, if_true]
  by_cases c : t < 0
  · simp only [if_pos c]
    exact Ev.step e (Ev.now _)
  · simp only [if_neg c, decide_eq_true (show t > 4611686018427387904 by omega)]
    exact Ev.step e (Ev.now _)

theorem search (n : Int) (l : List Int) (hl : l.length ≤ 64) : ∀ d i, i + d = l.length → Ev (fun k => shutterref20_Has.l0 k n l (i : Int)) (decide (n ∈ l.drop i))
  | 0, i, hi => by
    refine Ev.step (f := fun _ => some false) (fun k => ?_) (by rw [List.drop_of_length_le (by omega)]; simpa using Ev.now false)
    simp only [shutterref20_Has.l0]
    rw [if_neg (by omega)]
  | d + 1, i, hi => by
    have e3 : wrap64 ((i : Int) + 1) = ((i + 1 : Nat) : Int) := by rw [wrap_in (by omega) (by omega)]; omega
    have hlt : i < l.length := by omega
    have e4 : rd l (i : Int) = l[i] := by unfold rd; rw [Int.toNat_natCast, List.getD_eq_getElem?_getD, List.getElem?_eq_getElem hlt]; rfl
    have next := search n l hl d (i + 1) (by omega)
    rw [List.drop_eq_getElem_cons hlt]
    by_cases c : l[i] = n
    · have e : decide (n ∈ l[i] :: l.drop (i + 1)) = true := decide_eq_true (by rw [c]; exact List.mem_cons_self)
      rw [e]
      refine Ev.step (f := fun _ => some true) (fun k => ?_) (Ev.now _)
      simp only [shutterref20_Has.l0]
      rw [if_pos (by omega), if_pos (by omega), e4, if_pos c]
    · have e : decide (n ∈ l[i] :: l.drop (i + 1)) = decide (n ∈ l.drop (i + 1)) := by
        rw [Bool.eq_iff_iff, decide_eq_true_eq, decide_eq_true_eq, List.mem_cons]
        constructor
        · rintro (h | h)
          · exact absurd h.symm c
          · exact h
        · exact .inr
      rw [e]
      refine Ev.step (fun k => ?_) next
      simp only [shutterref20_Has.l0]
      rw [if_pos (by omega), if_pos (by omega), e4, if_neg c, e3]
theorem has_ref {T B : Nat} (n : Int) (hr : Rt T B) : Ev (fun k => shutterref20_Has.f k T B n) (has T B n) := by
  unfold shutterref20_Has.f
  refine Ev.bind (list_ev T B hr.1 hr.2.1) ?_
  have h := search n (lst T B 64 0) (lst_len T B 64 0) (lst T B 64 0).length 0 (by omega)
  have e : decide (n ∈ (lst T B 64 0).drop 0) = has T B n := by
    rw [Bool.eq_iff_iff, decide_eq_true_eq, List.drop_zero, lst_mem, has_iff]
    constructor
    · rintro ⟨j, _, h2, h3, rfl⟩
      rcases hr.2.2 with ⟨_, rfl⟩ | ⟨_, _, hz⟩
      · simp at h3
      · have := hz j h3
        exact ⟨by omega, by omega, by omega, by rw [show ((T : Int) - ((T : Int) - j)).toNat = j by omega]; exact h3⟩
    · rintro ⟨h1, h2, h3, h4⟩
      exact ⟨_, by omega, by omega, h4, by omega⟩
  rw [e] at h
  exact h

/-- The bits of a row of numbers below T'. -/
def orb (T' : Nat) : List Int → Nat → Nat
  | [], C => C
  | x :: xs, C => if (T' : Int) - x < 64 then orb T' xs (C ||| 2 ^ ((T' : Int) - x).toNat) else orb T' xs C
theorem orb_lt (T' : Nat) : ∀ l C, C < 18446744073709551616 → orb T' l C < 18446744073709551616
  | [], C, h => h
  | x :: xs, C, h => by
    unfold orb
    split
    · refine orb_lt T' xs _ ?_
      have : C ||| 2 ^ ((T' : Int) - x).toNat < 2 ^ 64 := Nat.or_lt_two_pow (by simpa using h) (Nat.pow_lt_pow_right (by omega) (by omega))
      simpa using this
    · exact orb_lt T' xs C h
theorem orb_bit (T' : Nat) (j : Nat) : ∀ l C, (orb T' l C).testBit j = true ↔ C.testBit j = true ∨ ∃ x ∈ l, (T' : Int) - x < 64 ∧ ((T' : Int) - x).toNat = j
  | [], C => by simp [orb]
  | x :: xs, C => by
    unfold orb
    split
    · rename_i h
      rw [orb_bit T' j xs, Nat.testBit_or, Nat.testBit_two_pow, Bool.or_eq_true, decide_eq_true_eq]
      constructor
      · rintro ((h1 | h1) | ⟨y, hy, h1⟩)
        · exact .inl h1
        · exact .inr ⟨x, List.mem_cons_self, h, h1⟩
        · exact .inr ⟨y, List.mem_cons_of_mem _ hy, h1⟩
      · rintro (h1 | ⟨y, hy, h1⟩)
        · exact .inl (.inl h1)
        · rcases List.mem_cons.1 hy with rfl | hy
          · exact .inl (.inr h1.2)
          · exact .inr ⟨y, hy, h1⟩
    · rename_i h
      rw [orb_bit T' j xs]
      constructor
      · rintro (h1 | ⟨y, hy, h1⟩)
        · exact .inl h1
        · exact .inr ⟨y, List.mem_cons_of_mem _ hy, h1⟩
      · rintro (h1 | ⟨y, hy, h1⟩)
        · exact .inl h1
        · rcases List.mem_cons.1 hy with rfl | hy
          · exact absurd h1.1 h
          · exact .inr ⟨y, hy, h1⟩
theorem or_loop (T' : Nat) (hT : T' ≤ most) (l : List Int) (hl : l.length ≤ 65) (hx : ∀ x ∈ l, x ≤ T' ∧ -100 ≤ x) : ∀ (d i C : Nat), i + d = l.length → C < 18446744073709551616 → Ev (fun k => shutterref20_Let.l0 k l (i : Int) T' C) ((T' : Int), (orb T' (l.drop i) C : Int), 0)
  | 0, i, C, hi, hC => by
    refine Ev.step (f := fun _ => some ((T' : Int), (C : Int), 0)) (fun k => ?_) (by rw [List.drop_of_length_le (by omega)]; exact Ev.now _)
    simp only [shutterref20_Let.l0]
    rw [if_neg (by omega)]
  | d + 1, i, C, hi, hC => by
    have hT' := hT
    unfold most at hT'
    have e3 : wrap64 ((i : Int) + 1) = ((i + 1 : Nat) : Int) := by rw [wrap_in (by omega) (by omega)]; omega
    have hlt : i < l.length := by omega
    have e4 : rd l (i : Int) = l[i] := by unfold rd; rw [Int.toNat_natCast, List.getD_eq_getElem?_getD, List.getElem?_eq_getElem hlt]; rfl
    have hb := hx l[i] (List.getElem_mem hlt)
    have e5 : wrap64 ((T' : Int) - l[i]) = (T' : Int) - l[i] := wrap_in (by omega) (by omega)
    rw [List.drop_eq_getElem_cons hlt]
    obtain ⟨s, hs⟩ := Int.eq_ofNat_of_zero_le (show 0 ≤ (T' : Int) - l[i] by omega)
    by_cases c : (T' : Int) - l[i] < 64
    · have e : orb T' (l[i] :: l.drop (i + 1)) C = orb T' (l.drop (i + 1)) (C ||| 2 ^ s) := by rw [orb, if_pos c, hs, Int.toNat_natCast]
      have hC' : C ||| 2 ^ s < 18446744073709551616 := by
        have : C ||| 2 ^ s < 2 ^ 64 := Nat.or_lt_two_pow (by simpa using hC) (Nat.pow_lt_pow_right (by omega) (by omega))
        simpa using this
      rw [e]
      refine Ev.step (fun k => ?_) (or_loop T' hT l hl hx d (i + 1) (C ||| 2 ^ s) (by omega) hC')
      simp only [shutterref20_Let.l0]
      have e1 := shl_nat 1 s
      rw [show ((1 : Nat) : Int) = 1 from rfl, Nat.one_mul, Nat.mod_eq_of_lt (pow_lt s (by omega))] at e1
      rw [if_pos (by omega), if_pos (by omega), e4, e5, if_pos c, hs, wrap_u s (by omega), if_pos (by omega), e1, or_nat C (2 ^ s) hC (pow_lt s (by omega)), e3]
    · have e : orb T' (l[i] :: l.drop (i + 1)) C = orb T' (l.drop (i + 1)) C := by rw [orb, if_neg c]
      rw [e]
      refine Ev.step (fun k => ?_) (or_loop T' hT l hl hx d (i + 1) C (by omega) hC)
      simp only [shutterref20_Let.l0]
      rw [if_pos (by omega), if_pos (by omega), e4, e5, if_neg c, e3]

theorem j2_ev {T B : Nat} (T' : Nat) (n : Int) (hr : Rt T B) (hT' : T' ≤ most) (hn : 1 ≤ n) (hnT : n ≤ T') (hTT : T ≤ T') :
    Ev (fun k => shutterref20_Let.j2 k n T B T' ((0 : Nat) : Int)) ((T' : Int), (orb T' (n :: lst T B 64 0) 0 : Int), 0) := by
  refine Ev.step (f := fun k => (some (([n] : List Int) : List Int)).bind fun y143 => ((shutterref20_List.f k T B).bind fun t146 => (if y143.length + t146.length < 17592186044416 then (shutterref20_Let.l0 k (y143 ++ t146) 0 T' ((0 : Nat) : Int)) else (none)))) (fun k => by simp only [shutterref20_Let.j2]) ?_
  simp only [Option.bind_some]
  refine Ev.bind (list_ev T B hr.1 hr.2.1) ?_
  have hlen := lst_len T B 64 0
  simp only [if_pos (show ([n] : List Int).length + (lst T B 64 0).length < 17592186044416 by rw [List.length_singleton]; omega)]
  refine or_loop T' hT' (n :: lst T B 64 0) (by rw [List.length_cons]; omega) (fun x hx => ?_) (n :: lst T B 64 0).length 0 0 (by omega) (by omega)
  rcases List.mem_cons.1 hx with rfl | hx
  · exact ⟨hnT, by omega⟩
  · obtain ⟨j, _, h2, _, rfl⟩ := (lst_mem T B x 64 0).1 hx
    omega

theorem or_same {T B : Nat} (n : Int) (hr : Rt T B) (ha : Acc T B n) (T' B' : Nat) (e : letS T B n = ((T' : Int), (B' : Int), none)) (hr' : Rt T' B') (hm : (T' : Int) = max (T : Int) n)
    (hh : ∀ m : Int, has T' B' m = true ↔ m = n ∨ (has T B m = true ∧ (T' : Int) - m < 64)) : orb T' (n :: lst T B 64 0) 0 = B' := by
  have hn := ha.1
  refine Nat.eq_of_testBit_eq fun j => ?_
  rw [Bool.eq_iff_iff, orb_bit]
  have hbit : ∀ j, B'.testBit j = true ↔ j < 64 ∧ j < T' ∧ has T' B' ((T' : Int) - j) = true := by
    intro j
    constructor
    · intro h
      have h1 := bit_lt hr'.2.1 h
      rcases hr'.2.2 with ⟨_, rfl⟩ | ⟨_, _, hz⟩
      · simp at h
      · have h2 := hz j h
        exact ⟨h1, h2, has_iff.2 ⟨by omega, by omega, by omega, by rw [show ((T' : Int) - ((T' : Int) - j)).toNat = j by omega]; exact h⟩⟩
    · rintro ⟨h1, h2, h3⟩
      have := (has_iff.1 h3).2.2.2
      rwa [show ((T' : Int) - ((T' : Int) - j)).toNat = j by omega] at this
  rw [hbit j, hh]
  constructor
  · rintro (h | ⟨x, hx, h1, h2⟩)
    · simp at h
    · rcases List.mem_cons.1 hx with rfl | hx
      · exact ⟨by omega, by omega, .inl (by omega)⟩
      · obtain ⟨i, _, h4, h5, rfl⟩ := (lst_mem T B x 64 0).1 hx
        rcases hr.2.2 with ⟨_, rfl⟩ | ⟨_, _, hz⟩
        · simp at h5
        · have h6 := hz i h5
          exact ⟨by omega, by omega, .inr ⟨has_iff.2 ⟨by omega, by omega, by omega, by rw [show ((T : Int) - ((T' : Int) - j)).toNat = i by omega]; exact h5⟩, by omega⟩⟩
  · rintro ⟨h1, h2, h3 | ⟨h3, h4⟩⟩
    · exact .inr ⟨n, List.mem_cons_self, by omega, by omega⟩
    · have h5 := has_iff.1 h3
      exact .inr ⟨(T' : Int) - j, List.mem_cons_of_mem _ ((lst_mem T B _ 64 0).2 ⟨_, by omega, by omega, h5.2.2.2, by omega⟩), by omega, by omega⟩

theorem let_ref {T B : Nat} (n : Int) (hr : Rt T B) (h1 : -9223372036854775808 ≤ n) (h2 : n ≤ 9223372036854775807) :
    Ev (fun k => shutterref20_Let.f k T B n) ((letS T B n).1, (letS T B n).2.1, (letS T B n).2.2.getD 0) := by
  have hT' := hr.1
  unfold most at hT'
  unfold shutterref20_Let.f
  have out : ∀ k, shutterref20_Let.j0 (k + 1) n true T B = some ((T : Int), (B : Int), 1) := fun k => by simp only [shutterref20_Let.j0, if_true]
  have old : ∀ k, shutterref20_Let.j1 (k + 1) n true T B = some ((T : Int), (B : Int), 12) := fun k => by simp only [shutterref20_Let.j1, if_true]
  have e1 : wrap64 ((T : Int) - n) = (T : Int) - n ∨ n < 1 ∨ n > 4611686018427387904 := by
    by_cases c : n < 1 ∨ n > 4611686018427387904
    · exact .inr c
    · exact .inl (wrap_in (by omega) (by omega))
  by_cases c1 : n < 1
  · have q : letS T B n = ((T : Int), (B : Int), some 1) := by unfold letS; rw [if_pos (.inl c1)]
    simp only [if_pos c1, q]
    exact Ev.step out (Ev.now _)
  · simp only [if_neg c1]
    by_cases c2 : n > 4611686018427387904
    · have q : letS T B n = ((T : Int), (B : Int), some 1) := by unfold letS; rw [if_pos (.inr c2)]
      simp only [decide_eq_true c2, q]
      exact Ev.step out (Ev.now _)
    · simp only [decide_eq_false c2]
      have e1 := e1.resolve_right (by omega)
      by_cases ha : Acc T B n
      · obtain ⟨T', B', q, r', hm, hh⟩ := let_acc hr ha
        have go : Ev (fun k => shutterref20_Let.j1 k n false T B) ((T' : Int), (B' : Int), 0) := by
          have hj := j2_ev T' n hr r'.1 ha.1 (by omega) (by omega)
          rw [or_same n hr ha T' B' q r' hm hh] at hj
          refine Ev.step (fun k => ?_) hj
          simp only [shutterref20_Let.j1]
          rw [if_neg (by simp)]
          by_cases c : n > (T : Int)
          · rw [if_pos c, show n = (T' : Int) by omega]; rfl
          · rw [if_neg c, show (T : Int) = (T' : Int) by omega]; rfl
        rw [q]
        show Ev _ ((T' : Int), (B' : Int), 0)
        refine Ev.step (f := fun k => if n ≤ (T : Int) then (shutterref20_Has.f k T B n).bind (fun t141 => shutterref20_Let.j1 k n t141 T B) else shutterref20_Let.j1 k n false T B) (fun k => ?_) ?_
        · simp only [shutterref20_Let.j0]
          rw [if_neg (by simp), e1]
          by_cases c : n ≤ (T : Int)
          · rw [if_pos c, if_pos c, if_neg]
            rcases ha.2.2 with h | h
            · omega
            · omega
          · rw [if_neg c, if_neg c]
        · by_cases c : n ≤ (T : Int)
          · simp only [if_pos c]
            refine Ev.bind (has_ref n hr) ?_
            have hb : has T B n = false := by
              rcases (acc_iff ha.1 (by omega)).1 ha with h | h
              · omega
              · exact h.2
            rw [hb]
            exact go
          · simp only [if_neg c]; exact go
      · have q : letS T B n = ((T : Int), (B : Int), some 12) := by
          unfold letS
          rw [if_neg (by omega)]
          by_cases c : n > (T : Int)
          · exact absurd ⟨by omega, by omega, .inl c⟩ ha
          · rw [if_neg c]
            by_cases c3 : (T : Int) - n ≥ 64
            · rw [if_pos c3]
            · rw [if_neg c3]
              rcases hb : B.testBit ((T : Int) - n).toNat with _ | _
              · exact absurd ⟨by omega, by omega, .inr ⟨by omega, hb⟩⟩ ha
              · rw [if_pos rfl]
        have c : ¬ n > (T : Int) := fun c => ha ⟨by omega, by omega, .inl c⟩
        rw [q]
        show Ev _ ((T : Int), (B : Int), 12)
        refine Ev.step (f := fun k => if (T : Int) - n ≥ 64 then shutterref20_Let.j1 k n true T B else (shutterref20_Has.f k T B n).bind (fun t141 => shutterref20_Let.j1 k n t141 T B)) (fun k => ?_) ?_
        · simp only [shutterref20_Let.j0]
          rw [if_neg (by simp), e1, if_pos (by omega)]
        · by_cases c3 : (T : Int) - n ≥ 64
          · simp only [if_pos c3]; exact Ev.step old (Ev.now _)
          · simp only [if_neg c3]
            refine Ev.bind (has_ref n hr) ?_
            have hb : has T B n = true := by
              rcases hb : has T B n with _ | _
              · exact absurd ((acc_iff (by omega) (by omega)).2 (.inr ⟨by omega, hb⟩)) ha
              · rfl
            rw [hb]
            exact Ev.step old (Ev.now _)

theorem code_ev (e : Option Int) : Ev (fun _ => api_Code.f e) (e.getD 0) := Ev.now _

theorem lets_right {T B : Nat} (n : Int) (hr : Rt T B) (h1 : -9223372036854775808 ≤ n) (h2 : n ≤ 9223372036854775807) : Ev (fun k => shutterlaw20_WindowLets.j0 k n false T B) true := by
  refine Ev.step (f := fun k => ((shutterref20_Right.f k T B).bind fun t158 => (if t158 = true then ((window_Let.f k T B n).bind fun bt159 => ((shutterref20_Let.f k T B n).bind fun bt163 => (if (bt159.1 == bt163.1 && (bt159.2.1 == bt163.2.1)) = true then ((api_Code.f bt159.2.2).bind fun t167 => (if t167 = bt163.2.2 then ((window_Has.f T B n).bind fun t168 => ((shutterref20_Has.f k T B n).bind fun t169 => (some (t168 == t169)))) else (some false))) else (some false)))) else (some true)))) (fun k => by simp only [shutterlaw20_WindowLets.j0, Bool.false_eq_true, if_false]) ?_
  refine Ev.bind (right_ref T B hr.1 hr.2.1) ?_
  simp only [(rt_iff hr.1 hr.2.1).2 hr, if_true]
  refine let_go hr h1 h2 ?_
  refine Ev.bind (let_ref n hr h1 h2) ?_
  simp only [beq_self_eq_true, Bool.and_self, if_true]
  refine Ev.bind (code_ev _) ?_
  simp only [if_true, has_eq T B n hr.1 hr.2.1 h1 h2, Option.bind_some]
  refine Ev.bind (has_ref n hr) ?_
  simp only [beq_self_eq_true]
  exact Ev.now _

theorem lets (t b n : Int) (ht1 : -9223372036854775808 ≤ t) (ht2 : t ≤ 9223372036854775807) (hb1 : 0 ≤ b) (hb2 : b < 18446744073709551616) (h1 : -9223372036854775808 ≤ n) (h2 : n ≤ 9223372036854775807) : ∃ k, shutterlaw20_WindowLets.f k t b n = some true := by
  refine Ev.rounds (g := fun k => shutterlaw20_WindowLets.f k t b n) ?_
  obtain ⟨B, rfl⟩ := Int.eq_ofNat_of_zero_le hb1
  unfold shutterlaw20_WindowLets.f
  refine Ev.bind awake ?_
  simp only [if_true]
  by_cases c : t < 0 ∨ 4611686018427387904 < t
  · simp only [right_out t B c, Option.bind_some]
    refine Ev.bind (right_ref_out t B c) ?_
    refine Ev.step (f := fun k => (shutterref20_Right.f k t B).bind fun t158 => (if t158 = true then ((window_Let.f k t B n).bind fun bt159 => ((shutterref20_Let.f k t B n).bind fun bt163 => (if (bt159.1 == bt163.1 && (bt159.2.1 == bt163.2.1)) = true then ((api_Code.f bt159.2.2).bind fun t167 => (if t167 = bt163.2.2 then ((window_Has.f t B n).bind fun t168 => ((shutterref20_Has.f k t B n).bind fun t169 => (some (t168 == t169)))) else (some false))) else (some false)))) else (some true))) (fun k => by simp only [shutterlaw20_WindowLets.j0, bne_self_eq_false, Bool.false_eq_true, if_false]) ?_
    refine Ev.bind (right_ref_out t B c) ?_
    simp only [Bool.false_eq_true, if_false]
    exact Ev.now _
  · obtain ⟨T, rfl⟩ := Int.eq_ofNat_of_zero_le (show 0 ≤ t by omega)
    have hT : T ≤ most := by unfold most; omega
    have hB : B < 18446744073709551616 := by omega
    simp only [right_eq T B hT hB, Option.bind_some]
    refine Ev.bind (right_ref T B hT hB) ?_
    simp only [bne_self_eq_false]
    rcases hr : right T B with _ | _
    · refine Ev.step (f := fun k => (shutterref20_Right.f k T B).bind fun t158 => (if t158 = true then ((window_Let.f k T B n).bind fun bt159 => ((shutterref20_Let.f k T B n).bind fun bt163 => (if (bt159.1 == bt163.1 && (bt159.2.1 == bt163.2.1)) = true then ((api_Code.f bt159.2.2).bind fun t167 => (if t167 = bt163.2.2 then ((window_Has.f T B n).bind fun t168 => ((shutterref20_Has.f k T B n).bind fun t169 => (some (t168 == t169)))) else (some false))) else (some false)))) else (some true))) (fun k => by simp only [shutterlaw20_WindowLets.j0, Bool.false_eq_true, if_false]) ?_
      have h := right_ref T B hT hB
      rw [hr] at h
      refine Ev.bind h ?_
      simp only [Bool.false_eq_true, if_false]
      exact Ev.now _
    · exact lets_right n ((rt_iff hT hB).1 hr) h1 h2

theorem far (t b leap back : Int) (ht1 : -9223372036854775808 ≤ t) (ht2 : t ≤ 9223372036854775807) (hb1 : 0 ≤ b) (hb2 : b < 18446744073709551616) (hl1 : 0 ≤ leap) (hl2 : leap ≤ 4294967295) (hk1 : 0 ≤ back) (hk2 : back ≤ 255) : ∃ k, shutterlaw20_WindowFar.f k t b leap back = some true := by
  refine Ev.rounds (g := fun k => shutterlaw20_WindowFar.f k t b leap back) ?_
  obtain ⟨B, rfl⟩ := Int.eq_ofNat_of_zero_le hb1
  have out : Ev (fun k => shutterlaw20_WindowFar.j0 k leap back true t B) true := by
    refine Ev.step (f := fun k => (shutterlaw20_awake.f k).bind fun t206 => some t206) (fun k => by simp only [shutterlaw20_WindowFar.j0, if_true]) ?_
    exact Ev.bind awake (Ev.now _)
  unfold shutterlaw20_WindowFar.f
  refine Ev.bind awake ?_
  simp only [if_true]
  by_cases c : t < 0 ∨ 4611686018427387904 < t
  · refine Ev.bind (right_ref_out t B c) ?_
    simp only [Bool.false_eq_true, if_false]; exact out
  · obtain ⟨T, rfl⟩ := Int.eq_ofNat_of_zero_le (show 0 ≤ t by omega)
    have hT : T ≤ most := by unfold most; omega
    have hB : B < 18446744073709551616 := by omega
    refine Ev.bind (right_ref T B hT hB) ?_
    rcases hr : right T B with _ | _
    · simp only [Bool.false_eq_true, if_false]; exact out
    · simp only [if_true]
      by_cases c2 : (T : Int) > 1099511627776
      · simp only [decide_eq_true c2]; exact out
      · simp only [decide_eq_false c2]
        have hR := (rt_iff hT hB).1 hr
        have e1 : wrap64 ((wrap64 ((T : Int) + 1)) + (wrap64 leap)) = (T : Int) + 1 + leap := by
          rw [wrap_in (x := (T : Int) + 1) (by omega) (by omega), wrap_in (x := leap) (by omega) (by omega), wrap_in (by omega) (by omega)]
        have ha : Acc T B ((T : Int) + 1 + leap) := ⟨by omega, by omega, .inl (by omega)⟩
        obtain ⟨T', B', q, r', hm, _⟩ := let_acc hR ha
        refine Ev.step (f := fun k => (window_Let.f k T B ((T : Int) + 1 + leap)).bind fun bt207 => (if bt207.2.2.isNone = true then (shutterlaw20_WindowFar.j1 k back ((T : Int) + 1 + leap) (bt207.1 != ((T : Int) + 1 + leap)) bt207.1 bt207.2.1) else (shutterlaw20_WindowFar.j1 k back ((T : Int) + 1 + leap) true bt207.1 bt207.2.1))) (fun k => by simp only [shutterlaw20_WindowFar.j0, Bool.false_eq_true, if_false, e1]) ?_
        refine let_go hR (by omega) (by omega) ?_
        have hm' : (T : Int) + 1 + leap = (T' : Int) := by omega
        rw [q]
        simp only [Option.isNone_none, if_true, hm', bne_self_eq_false]
        have e2 : wrap64 ((wrap64 ((T' : Int) - 64)) - (wrap64 back)) = (T' : Int) - 64 - back := by
          rw [wrap_in (x := (T' : Int) - 64) (by omega) (by omega), wrap_in (x := back) (by omega) (by omega), wrap_in (by omega) (by omega)]
        by_cases c3 : (T' : Int) - 64 - back < 1
        · refine Ev.step (f := fun _ => some true) (fun k => ?_) (Ev.now _)
          simp only [shutterlaw20_WindowFar.j1, Bool.false_eq_true, if_false, e2, if_pos c3]
        · refine Ev.step (f := fun k => (window_Let.f k T' B' ((T' : Int) - 64 - back)).bind fun bt212 => ((api_Code.f bt212.2.2).bind fun t216 => (if t216 = 12 then (some (bt212.1 == (T' : Int) && (bt212.2.1 == (B' : Int)))) else (some false)))) (fun k => ?_) ?_
          · simp only [shutterlaw20_WindowFar.j1, Bool.false_eq_true, if_false, e2, if_neg c3]
          · refine let_go r' (by omega) (by omega) ?_
            have q2 : letS T' B' ((T' : Int) - 64 - back) = ((T' : Int), (B' : Int), some 12) := by
              unfold letS
              rw [if_neg (by omega), if_neg (by omega), if_pos (by omega)]
            rw [q2]
            refine Ev.bind (code_ev _) ?_
            simp only [Option.getD_some, if_true, beq_self_eq_true, Bool.and_self]
            exact Ev.now _
end Go.Proofs.YtmpaljelolakhaaDoor.WinLets

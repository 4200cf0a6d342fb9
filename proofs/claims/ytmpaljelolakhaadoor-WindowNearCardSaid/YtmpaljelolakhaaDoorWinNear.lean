/- Proved: the laws WindowNear and WindowOnce as statements about numbers and lists; conditions: none. -/
import Derived.Test.YtmpaljelolakhaaDoorWinOrder
namespace Go.Proofs.YtmpaljelolakhaaDoor.WinNear
open Go.RowKit Go.Proofs.YtmpaljelolakhaaDoor.YWin Go.Proofs.YtmpaljelolakhaaDoorW.PrintWords Go.Proofs.YtmpaljelolakhaaDoorW.PrintLast Go.Proofs.YtmpaljelolakhaaDoorW.PrintMore Go.Proofs.YtmpaljelolakhaaDoor.WinBase Go.Proofs.YtmpaljelolakhaaDoor.WinSet Go.Proofs.YtmpaljelolakhaaDoor.WinOrder
set_option linter.unusedVariables false

/-! ### WindowNear -/
theorem check_loop (l : List Int) (xs : List Bool) (i : Int) (T B : Nat) (hr : Rt T B) (hx : xs.length = 65) (hh : ∀ m : Nat, 1 ≤ m → m ≤ 64 → xs.getD m false = has T B (m : Int))
    (next : Ev (fun k => shutterlaw20_WindowNear.l0 k l xs (wrap64 (i + 1)) T B) true) :
    ∀ (d m : Nat), m + d = 65 → 1 ≤ m → Ev (fun k => shutterlaw20_WindowNear.l1 k l xs i (m : Int) T B) true
  | 0, m, hm, _ => by
    refine Ev.step (f := fun k => shutterlaw20_WindowNear.l0 k l xs (wrap64 (i + 1)) T B) (fun k => ?_) next
    simp only [shutterlaw20_WindowNear.l1]
    rw [if_neg (by omega)]
  | d + 1, m, hm, h1 => by
    have e3 : wrap64 ((m : Int) + 1) = ((m + 1 : Nat) : Int) := by rw [wrap_in (by omega) (by omega)]; omega
    have e4 : rdOf false xs (m : Int) = has T B (m : Int) := by unfold rdOf; rw [Int.toNat_natCast]; exact hh m h1 (by omega)
    refine Ev.step (f := fun k => shutterlaw20_WindowNear.l1 k l xs i ((m + 1 : Nat) : Int) T B) (fun k => ?_) (check_loop l xs i T B hr hx hh next d (m + 1) (by omega) (by omega))
    simp only [shutterlaw20_WindowNear.l1]
    rw [if_pos (by omega), has_eq T B m hr.1 hr.2.1 (by omega) (by omega), Option.bind_some, if_pos (by omega), if_pos (by omega), e4, if_neg (by simp), e3]

theorem near_loop (l : List Int) (hl : ∀ x ∈ l, (Lit.int .u8 x).wf = true) (hn : l.length ≤ 200) :
    ∀ (d i T B : Nat) (xs : List Bool), i + d = l.length → Rt T B → T ≤ 64 → xs.length = 65 → (∀ m : Nat, 1 ≤ m → m ≤ 64 → xs.getD m false = has T B (m : Int)) → Ev (fun k => shutterlaw20_WindowNear.l0 k l xs (i : Int) T B) true
  | 0, i, T, B, xs, hi, _, _, _, _ => by
    refine Ev.step (f := fun _ => some true) (fun k => ?_) (Ev.now _)
    simp only [shutterlaw20_WindowNear.l0]
    rw [if_neg (by omega)]
  | d + 1, i, T, B, xs, hi, hr, hT, hx, hh => by
    have e3 : wrap64 ((i : Int) + 1) = ((i + 1 : Nat) : Int) := by rw [wrap_in (by omega) (by omega)]; omega
    have v1 := val_range hl i
    obtain ⟨N, hN⟩ := Int.eq_ofNat_of_zero_le (show 0 ≤ val l i by omega)
    obtain ⟨T', B', x, q1, r1', t1', hx1, g1⟩ := small hr hT v1.1 v1.2
    rw [hN] at v1 q1 hx1 g1
    have hs : ∀ m : Nat, 1 ≤ m → m ≤ 64 → (xs.set N true).getD m false = has T' B' (m : Int) := by
      intro m h1 h2
      rw [List.getD_eq_getElem?_getD, List.getElem?_set]
      by_cases c : N = m
      · subst c
        rw [if_pos rfl, if_pos (by omega)]
        exact ((g1 N).2 (.inl rfl)).symm
      · rw [if_neg c, ← List.getD_eq_getElem?_getD, hh m h1 h2, Bool.eq_iff_iff, g1 m]
        constructor
        · exact .inr
        · rintro (h | h)
          · exact absurd h (by omega)
          · exact h
    have e4 : rdOf false xs (N : Int) = has T B (N : Int) := by unfold rdOf; rw [Int.toNat_natCast]; exact hh N (by omega) (by omega)
    have next := near_loop l hl hn d (i + 1) T' B' (xs.set N true) (by omega) r1' t1' (by rw [List.length_set]; exact hx) hs
    rw [← e3] at next
    have go := check_loop l (xs.set N true) i T' B' r1' (by rw [List.length_set]; exact hx) hs next 64 1 (by omega) (by omega)
    refine Ev.step (f := fun k => (window_Let.f k T B (N : Int)).bind fun bt192 => if bt192.2.2.isNone = !(has T B (N : Int)) then shutterlaw20_WindowNear.l1 k l (xs.set N true) i ((1 : Nat) : Int) bt192.1 bt192.2.1 else some false) (fun k => ?_) ?_
    · simp only [shutterlaw20_WindowNear.l0]
      rw [if_pos (by omega), if_pos (by omega), val_eq hl i, hN]
      congr 1
      funext bt
      rcases hb : bt.2.2.isNone with _ | _
      · rw [if_neg (by simp), if_pos (by omega), if_pos (by omega), e4, Int.toNat_natCast]
        rcases has T B (N : Int) with _ | _ <;> simp
      · rw [if_pos rfl, if_pos (by omega), if_pos (by omega), e4, Int.toNat_natCast]
        rcases has T B (N : Int) with _ | _ <;> simp
    · refine let_go hr (by omega) (by omega) ?_
      rw [q1]
      simp only [hx1]
      exact go

theorem near : shutterlaw20_WindowNear.Pure := by
  intro l hmax hsz hl
  refine Ev.rounds (g := fun k => shutterlaw20_WindowNear.f k l) ?_
  unfold shutterlaw20_WindowNear.f
  refine Ev.bind awake ?_
  simp only [if_true]
  by_cases c : (l.length : Int) > 200
  · rw [decide_eq_true c]
    refine Ev.step (f := fun k => (shutterlaw20_awake.f k).bind fun t218 => some t218) (fun k => by simp only [shutterlaw20_WindowNear.j0, if_true]) ?_
    exact Ev.bind awake (Ev.now _)
  · rw [decide_eq_false c]
    refine Ev.step (f := fun k => shutterlaw20_WindowNear.l0 k l (List.replicate 65 false) ((0 : Nat) : Int) ((0 : Nat) : Int) ((0 : Nat) : Int)) (fun k => ?_) ?_
    · simp only [shutterlaw20_WindowNear.j0]
      rw [if_neg (by simp), if_pos (by omega)]; rfl
    · refine near_loop l hl (by omega) l.length 0 0 0 _ (by omega) rt_zero (by omega) (by simp) (fun m h1 h2 => ?_)
      rw [no_has, List.getD_eq_getElem?_getD, List.getElem?_replicate]
      split <;> rfl

/-! ### WindowOnce -/
theorem word_of {l : List Int} (hl : ∀ x ∈ l, (Lit.int .u16 x).wf = true) (i : Nat) : 0 ≤ l.getD i 0 ∧ l.getD i 0 ≤ 65535 := by
  rw [List.getD_eq_getElem?_getD]
  rcases Nat.lt_or_ge i l.length with h | h
  · rw [List.getElem?_eq_getElem h]
    have := hl _ (List.getElem_mem h)
    simp [Lit.wf, IntKind.min, IntKind.max, IntKind.signed, IntKind.bits] at this
    simp only [Option.getD_some]
    omega
  · rw [List.getElem?_eq_none h]; simp

theorem once_in (l xs : List Int) (top i n : Int) (T' B' : Nat) (hlen : xs.length ≤ 200) (hno : ∀ x ∈ xs, x ≠ n)
    (next : Ev (fun k => shutterlaw20_WindowOnce.j3 k l (xs ++ [n]) (if n > top then n else top) i n T' B') true) :
    ∀ (d m : Nat), m + d = xs.length → Ev (fun k => shutterlaw20_WindowOnce.l1 k l xs top i n (m : Int) T' B') true
  | 0, m, hm => by
    refine Ev.step (f := fun k => shutterlaw20_WindowOnce.j3 k l (xs ++ [n]) (if n > top then n else top) i n T' B') (fun k => ?_) next
    simp only [shutterlaw20_WindowOnce.l1]
    rw [if_neg (by omega), if_pos (by omega), Option.bind_some]
    split <;> rfl
  | d + 1, m, hm => by
    have e3 : wrap64 ((m : Int) + 1) = ((m + 1 : Nat) : Int) := by rw [wrap_in (by omega) (by omega)]; omega
    have e4 : rd xs (m : Int) ≠ n := by
      unfold rd
      rw [Int.toNat_natCast, List.getD_eq_getElem?_getD, List.getElem?_eq_getElem (show m < xs.length by omega)]
      exact hno _ (List.getElem_mem _)
    refine Ev.step (f := fun k => shutterlaw20_WindowOnce.l1 k l xs top i n ((m + 1 : Nat) : Int) T' B') (fun k => ?_) (once_in l xs top i n T' B' hlen hno next d (m + 1) (by omega))
    simp only [shutterlaw20_WindowOnce.l1]
    rw [if_pos (by omega), if_pos (by omega), if_neg e4, e3]

theorem once_loop (l : List Int) (hl : ∀ x ∈ l, (Lit.int .u16 x).wf = true) (hn : l.length ≤ 200) :
    ∀ (d i T B : Nat) (xs : List Int), i + d = l.length → Rt T B → T ≤ 65535 → xs.length ≤ i → (∀ x ∈ xs, 1 ≤ x ∧ x ≤ T ∧ ((T : Int) - x < 64 → has T B x = true)) → Ev (fun k => shutterlaw20_WindowOnce.l0 k l xs (T : Int) (i : Int) T B) true
  | 0, i, T, B, xs, hi, _, _, _, _ => by
    refine Ev.step (f := fun _ => some true) (fun k => ?_) (Ev.now _)
    simp only [shutterlaw20_WindowOnce.l0]
    rw [if_neg (by omega)]
  | d + 1, i, T, B, xs, hi, hr, hT, hx, hh => by
    have e3 : wrap64 ((i : Int) + 1) = ((i + 1 : Nat) : Int) := by rw [wrap_in (by omega) (by omega)]; omega
    have v1 := word_of hl i
    have ev : wrap64 (rd l (i : Int)) = l.getD i 0 := by unfold rd; rw [Int.toNat_natCast, wrap_in (by omega) (by omega)]
    obtain ⟨n, hn'⟩ : ∃ n, l.getD i 0 = n := ⟨_, rfl⟩
    rw [hn'] at v1 ev
    refine Ev.step (f := fun k => (window_Let.f k T B n).bind fun bt174 => (if bt174.2.2.isNone = true then (shutterlaw20_WindowOnce.l1 k l xs T i n ((0 : Nat) : Int) bt174.1 bt174.2.1) else (if (!(bt174.1 == (T : Int)) || (!(bt174.2.1 == (B : Int)))) = true then (some false) else (if n > (T : Int) then (if n > 0 then (some false) else (shutterlaw20_WindowOnce.l0 k l xs T ((i + 1 : Nat) : Int) T B)) else (shutterlaw20_WindowOnce.l0 k l xs T ((i + 1 : Nat) : Int) T B))))) (fun k => ?_) ?_
    · simp only [shutterlaw20_WindowOnce.l0]
      rw [if_pos (by omega), if_pos (by omega), ev, e3]; rfl
    · refine let_go hr (by omega) (by omega) ?_
      by_cases ha : Acc T B n
      · obtain ⟨T', B', q, r', hm, hh'⟩ := let_acc hr ha
        have hn1 := ha.1
        rw [q]
        simp only [Option.isNone_none, if_true]
        refine once_in l xs T i n T' B' (by omega) (fun x hxm he => ?_) ?_ xs.length 0 (by omega)
        · subst he
          obtain ⟨h1, h2, h3⟩ := hh _ hxm
          rcases (acc_iff hn1 (by omega)).1 ha with h | ⟨h, h'⟩
          · omega
          · rw [h3 h] at h'; exact absurd h' (by simp)
        · have et : (if n > (T : Int) then n else (T : Int)) = (T' : Int) := by rw [hm]; split <;> omega
          rw [et]
          have next := once_loop l hl hn d (i + 1) T' B' (xs ++ [n]) (by omega) r' (by omega) (by rw [List.length_append, List.length_singleton]; omega) (fun x hxm => by
            rcases List.mem_append.1 hxm with hxm | hxm
            · obtain ⟨h1, h2, h3⟩ := hh _ hxm
              exact ⟨h1, by omega, fun h => (hh' x).2 (.inr ⟨h3 (by omega), h⟩)⟩
            · rw [List.mem_singleton] at hxm
              subst hxm
              exact ⟨hn1, by omega, fun _ => (hh' x).2 (.inl rfl)⟩)
          refine Ev.step (f := fun k => shutterlaw20_WindowOnce.l0 k l (xs ++ [n]) T' ((i + 1 : Nat) : Int) T' B') (fun k => ?_) next
          simp only [shutterlaw20_WindowOnce.j3]
          rw [if_pos (by trivial), right_eq T' B' r'.1 r'.2.1, Option.bind_some, (rt_iff r'.1 r'.2.1).2 r', if_pos rfl, has_eq T' B' n r'.1 r'.2.1 (by omega) (by omega), Option.bind_some, (hh' n).2 (.inl rfl), if_pos rfl, e3]
      · obtain ⟨c, q, _⟩ := let_rej ha
        have hnT : ¬ (n > (T : Int) ∧ n > 0) := fun h => ha ⟨by omega, by omega, .inl h.1⟩
        rw [q]
        simp only [Option.isNone_some, Bool.false_eq_true, if_false, beq_self_eq_true, Bool.not_true, Bool.or_false]
        have next := once_loop l hl hn d (i + 1) T B xs (by omega) hr hT (by omega) hh
        by_cases c1 : n > (T : Int)
        · simp only [if_pos c1, if_neg (show ¬ n > 0 by omega)]; exact next
        · simp only [if_neg c1]; exact next

theorem once : shutterlaw20_WindowOnce.Pure := by
  intro l hmax hsz hl
  refine Ev.rounds (g := fun k => shutterlaw20_WindowOnce.f k l) ?_
  unfold shutterlaw20_WindowOnce.f
  refine Ev.bind awake ?_
  simp only [if_true]
  by_cases c : (l.length : Int) > 200
  · rw [decide_eq_true c]
    refine Ev.step (f := fun k => (shutterlaw20_awake.f k).bind fun t218 => some t218) (fun k => by simp only [shutterlaw20_WindowOnce.j0, if_true]) ?_
    exact Ev.bind awake (Ev.now _)
  · rw [decide_eq_false c]
    refine Ev.step (f := fun k => shutterlaw20_WindowOnce.l0 k l [] ((0 : Nat) : Int) ((0 : Nat) : Int) ((0 : Nat) : Int) ((0 : Nat) : Int)) (fun k => ?_) ?_
    · simp only [shutterlaw20_WindowOnce.j0]
      rw [if_neg (by simp)]; rfl
    · exact once_loop l hl (by omega) l.length 0 0 0 [] (by omega) rt_zero (by omega) (by simp) (by simp)
end Go.Proofs.YtmpaljelolakhaaDoor.WinNear

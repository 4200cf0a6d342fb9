/- Proved: the laws WindowOrder, WindowNear and WindowOnce as statements about numbers and lists; conditions: none. -/
import Derived.Test.YtmpaljelolakhaaDoorWinSet
namespace Go.Proofs.YtmpaljelolakhaaDoor.WinOrder
open Go.RowKit Go.Proofs.YtmpaljelolakhaaDoor.YWin Go.Proofs.YtmpaljelolakhaaDoorW.PrintWords Go.Proofs.YtmpaljelolakhaaDoorW.PrintLast Go.Proofs.YtmpaljelolakhaaDoorW.PrintMore Go.Proofs.YtmpaljelolakhaaDoor.WinBase Go.Proofs.YtmpaljelolakhaaDoor.WinSet
set_option linter.unusedVariables false

theorem small {T B : Nat} {n : Int} (hr : Rt T B) (hT : T ≤ 64) (h1 : 1 ≤ n) (h2 : n ≤ 64) :
    ∃ (T' B' : Nat) (e : Option Int), letS T B n = ((T' : Int), (B' : Int), e) ∧ Rt T' B' ∧ T' ≤ 64 ∧ (e.isNone = !(has T B n)) ∧ ∀ m : Int, has T' B' m = true ↔ m = n ∨ has T B m = true := by
  by_cases h : Acc T B n
  · obtain ⟨T', B', e, hr', hm, hh⟩ := let_acc hr h
    refine ⟨T', B', none, e, hr', by omega, ?_, fun m => ?_⟩
    · have := (acc_iff h1 (by omega)).1 h
      rcases hb : has T B n with _ | _
      · rfl
      · have := has_iff.1 hb
        rcases (acc_iff h1 (by omega)).1 h with h' | h'
        · omega
        · rw [hb] at h'; exact absurd h'.2 (by simp)
    · rw [hh m]
      constructor
      · rintro (h | ⟨h, _⟩)
        · exact .inl h
        · exact .inr h
      · rintro (h | h)
        · exact .inl h
        · have := has_iff.1 h
          exact .inr ⟨h, by omega⟩
  · obtain ⟨c, e, hc⟩ := let_rej h
    have hb : has T B n = true := by
      rcases hb : has T B n with _ | _
      · exact absurd ((acc_iff h1 (by omega)).2 (by
          by_cases c : n > (T : Int)
          · exact .inl c
          · exact .inr ⟨by omega, hb⟩)) h
      · rfl
    refine ⟨T, B, some c, e, hr, hT, by rw [hb]; rfl, fun m => ⟨fun h => .inr h, ?_⟩⟩
    rintro (rfl | h)
    · exact hb
    · exact h

theorem top_le {T B T' B' : Nat} (hr : Rt T B) (h : ∀ m : Int, has T B m = true → has T' B' m = true) : T ≤ T' := by
  rcases hr.2.2 with ⟨rfl, _⟩ | ⟨h0, h1, _⟩
  · omega
  · have := has_iff.1 (h T (has_iff.2 ⟨by omega, by omega, by omega, by rw [show ((T : Int) - T).toNat = 0 by omega]; exact h1⟩))
    omega
theorem same {T B T' B' : Nat} (hr : Rt T B) (hr' : Rt T' B') (h : ∀ m : Int, has T B m = true ↔ has T' B' m = true) : T = T' ∧ B = B' := by
  have e : T = T' := Nat.le_antisymm (top_le hr fun m => (h m).1) (top_le hr' fun m => (h m).2)
  subst e
  refine ⟨rfl, Nat.eq_of_testBit_eq fun j => ?_⟩
  have key : ∀ {B1 B2 : Nat}, Rt T B1 → (∀ m : Int, has T B1 m = true → has T B2 m = true) → B1.testBit j = true → B2.testBit j = true := by
    intro B1 B2 h1 hh hb
    have hj := bit_lt h1.2.1 hb
    rcases h1.2.2 with ⟨_, rfl⟩ | ⟨_, _, hz⟩
    · simp at hb
    · have hjT := hz j hb
      have := (has_iff.1 (hh ((T : Int) - j) (has_iff.2 ⟨by omega, by omega, by omega, by rw [show ((T : Int) - ((T : Int) - j)).toNat = j by omega]; exact hb⟩))).2.2.2
      rwa [show ((T : Int) - ((T : Int) - j)).toNat = j by omega] at this
  rw [Bool.eq_iff_iff]
  exact ⟨key hr fun m => (h m).1, key hr' fun m => (h m).2⟩

theorem let_go {α : Type} {T B : Nat} {n : Int} {F : Nat → (Int × Int × Option Int) → Option α} {r : α} (hr : Rt T B) (h1 : -9223372036854775808 ≤ n) (h2 : n ≤ 9223372036854775807) (h : Ev (fun k => F k (letS T B n)) r) :
    Ev (fun k => (window_Let.f k T B n).bind (F k)) r := Ev.bind (let_ev T B n hr.1 hr.2.1 h1 h2) h

theorem byte_of {l : List Int} (hl : ∀ x ∈ l, (Lit.int .u8 x).wf = true) (i : Nat) : 0 ≤ l.getD i 0 ∧ l.getD i 0 ≤ 255 := by
  rw [List.getD_eq_getElem?_getD]
  rcases Nat.lt_or_ge i l.length with h | h
  · rw [List.getElem?_eq_getElem h]
    have := hl _ (List.getElem_mem h)
    simp [Lit.wf, IntKind.min, IntKind.max, IntKind.signed, IntKind.bits] at this
    simp only [Option.getD_some]
    omega
  · rw [List.getElem?_eq_none h]; simp
/-- The number that a byte stands for. -/
def val (l : List Int) (i : Nat) : Int := 1 + l.getD i 0 % 64
theorem val_eq {l : List Int} (hl : ∀ x ∈ l, (Lit.int .u8 x).wf = true) (i : Nat) : wrap64 (1 + (wrap64 (Int.tmod (rd l (i : Int)) 64))) = val l i := by
  have := byte_of hl i
  unfold rd val
  rw [Int.toNat_natCast, Int.tmod_eq_emod_of_nonneg this.1, wrap_in (x := l.getD i 0 % 64) (by omega) (by omega), wrap_in (by omega) (by omega)]
theorem val_range {l : List Int} (hl : ∀ x ∈ l, (Lit.int .u8 x).wf = true) (i : Nat) : 1 ≤ val l i ∧ val l i ≤ 64 := by
  have := byte_of hl i
  unfold val; omega

theorem order_loop (l : List Int) (hl : ∀ x ∈ l, (Lit.int .u8 x).wf = true) (hn : l.length ≤ 100) (s : Nat) (hs : s < l.length) :
    ∀ (d i T B T2 B2 : Nat), i + d = l.length → Rt T B → Rt T2 B2 → T ≤ 64 → T2 ≤ 64 → (∀ m : Int, has T B m = true ↔ ∃ j, j < i ∧ m = val l j) → (∀ m : Int, has T2 B2 m = true ↔ ∃ j, j < i ∧ m = val l ((j + s) % l.length)) →
      Ev (fun k => shutterlaw20_WindowOrder.l0 k l (s : Int) (i : Int) T B T2 B2) true
  | 0, i, T, B, T2, B2, hi, r1, r2, _, _, h1, h2 => by
    obtain ⟨rfl, rfl⟩ := same r1 r2 fun m => by
      rw [h1 m, h2 m]
      constructor
      · rintro ⟨j, hj, rfl⟩
        refine ⟨(j + (l.length - s)) % l.length, by rw [show i = l.length by omega]; exact Nat.mod_lt _ (by omega), ?_⟩
        congr 1
        rw [Nat.mod_add_mod, show j + (l.length - s) + s = j + l.length by omega, Nat.add_mod_right, Nat.mod_eq_of_lt (by omega)]
      · rintro ⟨j, hj, rfl⟩
        exact ⟨(j + s) % l.length, by rw [show i = l.length by omega]; exact Nat.mod_lt _ (by omega), rfl⟩
    refine Ev.step (f := fun _ => some true) (fun k => ?_) (Ev.now _)
    simp only [shutterlaw20_WindowOrder.l0]
    rw [if_neg (by omega), if_pos (by simp), right_eq T B r1.1 r1.2.1, Option.bind_some, (rt_iff r1.1 r1.2.1).2 r1]
  | d + 1, i, T, B, T2, B2, hi, r1, r2, t1, t2, h1, h2 => by
    have e1 : wrap64 ((i : Int) + (s : Int)) = ((i + s : Nat) : Int) := by rw [wrap_in (by omega) (by omega)]; omega
    have e2 : Int.tmod (((i + s : Nat) : Int)) (l.length : Int) = (((i + s) % l.length : Nat) : Int) := by rw [Int.tmod_eq_emod_of_nonneg (by omega)]; exact (Int.natCast_emod _ _).symm
    have e3 : wrap64 ((i : Int) + 1) = ((i + 1 : Nat) : Int) := by rw [wrap_in (by omega) (by omega)]; omega
    have hm : (i + s) % l.length < l.length := Nat.mod_lt _ (by omega)
    have v1 := val_range hl i
    have v2 := val_range hl ((i + s) % l.length)
    obtain ⟨T', B', x, q1, r1', t1', _, g1⟩ := small r1 t1 v1.1 v1.2
    obtain ⟨T2', B2', x2, q2, r2', t2', _, g2⟩ := small r2 t2 v2.1 v2.2
    refine Ev.step (f := fun k => (window_Let.f k T B (val l i)).bind fun bt222 => (window_Let.f k T2 B2 (val l ((i + s) % l.length))).bind fun bt226 => shutterlaw20_WindowOrder.l0 k l (s : Int) ((i + 1 : Nat) : Int) bt222.1 bt222.2.1 bt226.1 bt226.2.1) (fun k => ?_) ?_
    · simp only [shutterlaw20_WindowOrder.l0]
      rw [if_pos (by omega), if_pos (by omega), val_eq hl i, e1, e2, e3, val_eq hl ((i + s) % l.length)]
      congr 1
      funext bt
      rw [if_neg (by omega), if_pos (by omega), if_pos (by omega)]
    · refine let_go r1 (by omega) (by omega) (let_go (F := fun k bt226 => shutterlaw20_WindowOrder.l0 k l (s : Int) ((i + 1 : Nat) : Int) (letS T B (val l i)).1 (letS T B (val l i)).2.1 bt226.1 bt226.2.1) r2 (by omega) (by omega) ?_)
      rw [q1, q2]
      refine order_loop l hl hn s hs d (i + 1) T' B' T2' B2' (by omega) r1' r2' t1' t2' (fun m => ?_) (fun m => ?_)
      · rw [g1 m, h1 m]
        constructor
        · rintro (rfl | ⟨j, hj, rfl⟩)
          · exact ⟨i, by omega, rfl⟩
          · exact ⟨j, by omega, rfl⟩
        · rintro ⟨j, hj, rfl⟩
          rcases Nat.lt_succ_iff_lt_or_eq.1 hj with hj | rfl
          · exact .inr ⟨j, hj, rfl⟩
          · exact .inl rfl
      · rw [g2 m, h2 m]
        constructor
        · rintro (rfl | ⟨j, hj, rfl⟩)
          · exact ⟨i, by omega, rfl⟩
          · exact ⟨j, by omega, rfl⟩
        · rintro ⟨j, hj, rfl⟩
          rcases Nat.lt_succ_iff_lt_or_eq.1 hj with hj | rfl
          · exact .inr ⟨j, hj, rfl⟩
          · exact .inl rfl

theorem no_has (m : Int) : has 0 0 m = false := by
  rcases h : has 0 0 m with _ | _
  · rfl
  · have := has_iff.1 h; omega

theorem order : shutterlaw20_WindowOrder.Pure := by
  intro l a hmax hsz hl ha
  have ha' : 0 ≤ a ∧ a ≤ 255 := by
    simp [Lit.wf, IntKind.min, IntKind.max, IntKind.signed, IntKind.bits] at ha
    omega
  refine Ev.rounds (g := fun k => shutterlaw20_WindowOrder.f k l a) ?_
  unfold shutterlaw20_WindowOrder.f
  refine Ev.bind awake ?_
  simp only [if_true]
  have out : Ev (fun k => shutterlaw20_WindowOrder.j0 k l a true) true := by
    refine Ev.step (f := fun k => (shutterlaw20_awake.f k).bind fun t218 => some t218) (fun k => by simp only [shutterlaw20_WindowOrder.j0, if_true]) ?_
    exact Ev.bind awake (Ev.now _)
  by_cases c : (l.length : Int) > 100
  · simp only [if_pos c]; exact out
  · simp only [if_neg c]
    by_cases c0 : (l.length : Int) = 0
    · rw [beq_iff_eq.2 c0]; exact out
    · rw [beq_eq_false_iff_ne.2 c0]
      obtain ⟨A, rfl⟩ := Int.eq_ofNat_of_zero_le ha'.1
      have e : Int.tmod (wrap64 (A : Int)) (l.length : Int) = ((A % l.length : Nat) : Int) := by
        rw [wrap_in (by omega) (by omega), Int.tmod_eq_emod_of_nonneg (by omega)]; exact (Int.natCast_emod _ _).symm
      refine Ev.step (f := fun k => shutterlaw20_WindowOrder.l0 k l ((A % l.length : Nat) : Int) ((0 : Nat) : Int) ((0 : Nat) : Int) ((0 : Nat) : Int) ((0 : Nat) : Int) ((0 : Nat) : Int)) (fun k => ?_) ?_
      · simp only [shutterlaw20_WindowOrder.j0]
        rw [if_neg (by simp), if_neg c0, e]; rfl
      · exact order_loop l hl (by omega) _ (Nat.mod_lt _ (by omega)) l.length 0 0 0 0 0 (by omega) rt_zero rt_zero (by omega) (by omega) (fun m => by simp [no_has]) (fun m => by simp [no_has])
end Go.Proofs.YtmpaljelolakhaaDoor.WinOrder

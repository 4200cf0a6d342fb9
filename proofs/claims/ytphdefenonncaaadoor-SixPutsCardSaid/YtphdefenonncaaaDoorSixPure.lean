/- Proved: the laws of the layer six, AttrPuts and AttrGets as statements about numbers alone; conditions: the numbers are of their kinds. -/
import Derived.Test.YtphdefenonncaaaDoorSixT
namespace Go.Proofs.YtphdefenonncaaaDoor.SixPure
open Go.RowKit Go.Proofs.YtphdefenonncaaaDoor.YSix Go.Proofs.YtphdefenonncaaaDoorW.PrintWords Go.Proofs.YtphdefenonncaaaDoorW.PrintLast Go.Proofs.YtphdefenonncaaaDoor.SixT
set_option linter.unusedVariables false

theorem byte {a : Int} (h : (Lit.int .u8 a).wf = true) : 0 ≤ a ∧ a ≤ 255 := by
  simp [Lit.wf, IntKind.min, IntKind.max, IntKind.signed, IntKind.bits] at h
  omega
theorem wrap_in {x : Int} (h1 : -9223372036854775808 ≤ x) (h2 : x ≤ 9223372036854775807) : wrap64 x = x := by unfold wrap64; omega
theorem awake3 : shutterlaw03_awake.f = some true := by decide +kernel
theorem awake5 : shutterlaw05_awake.f 50 = some true := by decide +kernel

/-! ### SixPuts -/
theorem puts_in : ∀ n : Fin 64, shutterlaw03_SixPuts.f 5 ((n.val : Nat) : Int) = some true := by decide +kernel
theorem puts_aux (k : Nat) (n : Int) (x : Option (Int × Option Int)) (hx : x = some (0, some 1)) (y : Option Bool) (hy : y = some true) (j : Bool → Option Bool) (b : Bool) (hj : j true = some true) (c : n < 0 ∨ b = true) :
    (x.bind fun _ => y.bind fun t119 => (if t119 = true then (if n < 0 then j true else j b) else (some false))) = some true := by
  subst hx hy
  simp only [Option.bind_some, if_true]
  rcases c with c | rfl
  · rw [if_pos c]; exact hj
  · split <;> exact hj
theorem sixPuts : shutterlaw03_SixPuts.Pure := by
  intro n h
  refine ⟨5, ?_⟩
  by_cases c : n < 0 ∨ 63 < n
  · have hx := put_out n c
    unfold shutterlaw03_SixPuts.f
    rw [hx]
    exact puts_aux 5 n (some (0, some 1)) rfl _ awake3 (fun b => shutterlaw03_SixPuts.j0 5 n 0 (some 1) b) _ rfl (c.imp id fun c => decide_eq_true c)
  · obtain ⟨m, rfl⟩ := Int.eq_ofNat_of_zero_le (show 0 ≤ n by omega)
    exact puts_in ⟨m, by omega⟩

/-! ### SixGets -/
theorem gets_0 : ∀ n : Fin 64, shutterlaw03_SixGets.f 70 (((0 + n.val : Nat)) : Int) = some true := by decide +kernel
theorem gets_1 : ∀ n : Fin 64, shutterlaw03_SixGets.f 70 (((64 + n.val : Nat)) : Int) = some true := by decide +kernel
theorem gets_2 : ∀ n : Fin 64, shutterlaw03_SixGets.f 70 (((128 + n.val : Nat)) : Int) = some true := by decide +kernel
theorem gets_3 : ∀ n : Fin 64, shutterlaw03_SixGets.f 70 (((192 + n.val : Nat)) : Int) = some true := by decide +kernel
theorem four {P : Nat → Prop} (h0 : ∀ n : Fin 64, P (0 + n.val)) (h1 : ∀ n : Fin 64, P (64 + n.val)) (h2 : ∀ n : Fin 64, P (128 + n.val)) (h3 : ∀ n : Fin 64, P (192 + n.val)) (c : Nat) (hc : c < 256) : P c := by
  rcases Nat.lt_or_ge c 64 with h | h
  · simpa using h0 ⟨c, h⟩
  rcases Nat.lt_or_ge c 128 with h' | h'
  · have := h1 ⟨c - 64, by omega⟩
    rwa [show 64 + (c - 64) = c by omega] at this
  rcases Nat.lt_or_ge c 192 with h'' | h''
  · have := h2 ⟨c - 128, by omega⟩
    rwa [show 128 + (c - 128) = c by omega] at this
  · have := h3 ⟨c - 192, by omega⟩
    rwa [show 192 + (c - 192) = c by omega] at this
theorem sixGets : shutterlaw03_SixGets.Pure := by
  intro c h
  have hb := byte h
  obtain ⟨m, rfl⟩ := Int.eq_ofNat_of_zero_le hb.1
  exact ⟨70, four (P := fun n => shutterlaw03_SixGets.f 70 ((n : Nat) : Int) = some true) gets_0 gets_1 gets_2 gets_3 m (by omega)⟩

/-! ### SixBack -/
theorem back_tail : ∀ c : Fin 256, shutterlaw03_SixBack.j0 5 ((c.val : Nat) : Int) false = some true := by decide +kernel
def backHead (n : Nat) (j : Bool → Option Bool) : Option Bool := (six_Put.f (wrap64 (Int.tmod (n : Int) 64))).bind fun bt131 => ((six_Get.f bt131.1).bind fun bt133 => ((shutterlaw03_awake.f).bind fun t135 => (if t135 = true then (if bt131.2.isNone = true then (if bt133.2.isNone = true then (if bt133.1 = (wrap64 (Int.tmod (n : Int) 64)) then ((six_Low.f bt131.1).bind fun t138 => (j (t138 != (wrap64 (Int.tmod (n : Int) 64))))) else (j true)) else (j true)) else (j true)) else (j true))))
theorem back_head : ∀ n : Fin 256, backHead n.val (fun b => some (!b)) = some true := by decide +kernel
theorem back_any (n : Nat) (j : Bool → Option Bool) (hj : j false = some true) (h : backHead n (fun b => some (!b)) = some true) : backHead n j = some true := by
  unfold backHead at h ⊢
  rw [Option.bind_eq_some_iff] at h ⊢
  obtain ⟨x, hx, h⟩ := h
  refine ⟨x, hx, ?_⟩
  rw [Option.bind_eq_some_iff] at h ⊢
  obtain ⟨y, hy, h⟩ := h
  refine ⟨y, hy, ?_⟩
  rw [Option.bind_eq_some_iff] at h ⊢
  obtain ⟨z, hz, h⟩ := h
  refine ⟨z, hz, ?_⟩
  by_cases c1 : z = true
  · rw [if_pos c1] at h ⊢
    by_cases c2 : x.2.isNone = true
    · rw [if_pos c2] at h ⊢
      by_cases c3 : y.2.isNone = true
      · rw [if_pos c3] at h ⊢
        by_cases c4 : y.1 = (wrap64 (Int.tmod (n : Int) 64))
        · rw [if_pos c4] at h ⊢
          rw [Option.bind_eq_some_iff] at h ⊢
          obtain ⟨t, ht, h⟩ := h
          refine ⟨t, ht, ?_⟩
          have h' : (t != wrap64 ((n : Int).tmod 64)) = false := by
            rcases hh : (t != wrap64 ((n : Int).tmod 64)) with _ | _
            · rfl
            · rw [hh] at h; cases h
          rw [h']; exact hj
        · rw [if_neg c4] at h; cases h
      · rw [if_neg c3] at h; cases h
    · rw [if_neg c2] at h; cases h
  · rw [if_neg c1] at h; cases h
theorem sixBack : shutterlaw03_SixBack.Pure := by
  intro a c ha hc
  have h1 := byte ha
  have h2 := byte hc
  obtain ⟨n, rfl⟩ := Int.eq_ofNat_of_zero_le h1.1
  obtain ⟨m, rfl⟩ := Int.eq_ofNat_of_zero_le h2.1
  exact ⟨5, back_any n (fun b => shutterlaw03_SixBack.j0 5 (m : Int) b) (back_tail ⟨m, by omega⟩) (back_head ⟨n, by omega⟩)⟩

/-! ### SixApart -/
theorem tab_eq : ∀ a b : Fin 64, ((tabN a.val == tabN b.val) == (a.val == b.val)) = true := by decide +kernel
theorem tab_same (a b : Nat) (ha : a < 64) (hb : b < 64) : ((tab a == tab b) == ((a : Int) == (b : Int))) = true := by
  have h := tab_eq ⟨a, ha⟩ ⟨b, hb⟩
  have e1 : (tab a == tab b) = (tabN a == tabN b) := by
    unfold tab
    rw [Bool.eq_iff_iff, beq_iff_eq, beq_iff_eq]; omega
  have e2 : ((a : Int) == (b : Int)) = (a == b) := by rw [Bool.eq_iff_iff, beq_iff_eq, beq_iff_eq]; omega
  rw [e1, e2]; exact h
theorem apart_aux (p1 p2 : Option (Int × Option Int)) (g : Option (Int × Option Int)) (l : Option Int) (P : Int → Option (Int × Option Int)) (y : Option Bool) (t1 t2 t3 lo c : Int) (e : Option Int) (gi : Int) (q : Bool)
    (h1 : p1 = some (t1, none)) (h2 : p2 = some (t2, none)) (h3 : g = some (gi, e)) (h4 : l = some lo) (h5 : P lo = some (t3, none)) (h6 : y = some true) (h7 : ((t1 == t2) == q) = true) (h8 : e.isNone = (t3 == c)) :
    (p1.bind fun bt145 => (p2.bind fun bt147 => (g.bind fun bt149 => (l.bind fun t151 => ((P t151).bind fun bt152 => (y.bind fun t154 => (if t154 = true then (if bt145.2.isNone = true then (if bt147.2.isNone = true then (if bt152.2.isNone = true then (if ((bt145.1 == bt147.1) == q) = true then (if bt149.2.isNone = true then (some (true == (bt152.1 == c))) else (some (false == (bt152.1 == c)))) else (some false)) else (some false)) else (some false)) else (some false)) else (some false))))))) ) = some true := by
  subst h1 h2 h3 h4 h6
  simp only [Option.bind_some, h5, if_true, Option.isNone_none, h7, h8]
  by_cases c0 : (t3 == c) = true
  · rw [if_pos c0, c0]; rfl
  · rw [if_neg c0]
    rw [Bool.not_eq_true] at c0
    rw [c0]; rfl
theorem tmod_byte (n : Nat) (h : n < 256) : Int.tmod (n : Int) 64 = ((n % 64 : Nat) : Int) := by rw [Int.tmod_eq_emod_of_nonneg (by omega)]; exact (Int.natCast_emod _ _).symm
theorem sixApart : shutterlaw03_SixApart.Pure := by
  intro a b c ha hb hc
  have h1 := byte ha
  have h2 := byte hb
  have h3 := byte hc
  obtain ⟨n, rfl⟩ := Int.eq_ofNat_of_zero_le h1.1
  obtain ⟨m, rfl⟩ := Int.eq_ofNat_of_zero_le h2.1
  obtain ⟨z, rfl⟩ := Int.eq_ofNat_of_zero_le h3.1
  unfold shutterlaw03_SixApart.f
  rw [tmod_byte n (by omega), tmod_byte m (by omega), wrap_in (x := ((n % 64 : Nat) : Int)) (by omega) (by omega), wrap_in (x := ((m % 64 : Nat) : Int)) (by omega) (by omega)]
  have hg := get_tab z (by omega)
  by_cases e : tab (z % 64) = (z : Int)
  · rw [if_pos e] at hg
    exact apart_aux _ _ _ _ six_Put.f _ _ _ _ _ _ _ _ _ (put_tab (n % 64) (by omega)) (put_tab (m % 64) (by omega)) hg (low_tab z (by omega)) (put_tab (z % 64) (by omega)) awake3 (tab_same _ _ (by omega) (by omega)) (by rw [beq_iff_eq.2 e]; rfl)
  · rw [if_neg e] at hg
    exact apart_aux _ _ _ _ six_Put.f _ _ _ _ _ _ _ _ _ (put_tab (n % 64) (by omega)) (put_tab (m % 64) (by omega)) hg (low_tab z (by omega)) (put_tab (z % 64) (by omega)) awake3 (tab_same _ _ (by omega) (by omega)) (by rw [beq_eq_false_iff_ne.2 e]; rfl)

/-! ### AttrGets -/
theorem agets_0 : ∀ n : Fin 64, shutterlaw05_AttrGets.f 60 (((0 + n.val : Nat)) : Int) = some true := by decide +kernel
theorem agets_1 : ∀ n : Fin 64, shutterlaw05_AttrGets.f 60 (((64 + n.val : Nat)) : Int) = some true := by decide +kernel
theorem agets_2 : ∀ n : Fin 64, shutterlaw05_AttrGets.f 60 (((128 + n.val : Nat)) : Int) = some true := by decide +kernel
theorem agets_3 : ∀ n : Fin 64, shutterlaw05_AttrGets.f 60 (((192 + n.val : Nat)) : Int) = some true := by decide +kernel
theorem attrGets : shutterlaw05_AttrGets.Pure := by
  intro c h
  have hb := byte h
  obtain ⟨m, rfl⟩ := Int.eq_ofNat_of_zero_le hb.1
  exact ⟨60, four (P := fun n => shutterlaw05_AttrGets.f 60 ((n : Nat) : Int) = some true) agets_0 agets_1 agets_2 agets_3 m (by omega)⟩

/-! ### AttrPuts -/
theorem aputs_in : ∀ (p n m : Bool) (s : Fin 4) (x y z : Bool), shutterlaw05_AttrPuts.f 50 p n ((s.val : Nat) : Int) m x y z = some true := by decide +kernel
theorem put_none (k : Nat) (p n m : Bool) (s : Int) (h : s < 0 ∨ 3 < s) : attr_Put.f (k + 1) p n s m = some (0, some 1) := by
  unfold attr_Put.f
  by_cases h0 : s < 0
  · rw [if_pos h0]; rfl
  · have h3 : s > 3 := by omega
    rw [if_neg h0, decide_eq_true h3]; rfl
def wccOk (x y z : Bool) : Bool := match attr_PutWcc.f 50 x y z, shutterref05_PutWcc.f 50 x y z with
  | some a, some b => a == b
  | _, _ => false
theorem wcc_ok : ∀ x y z : Bool, wccOk x y z = true := by decide +kernel
theorem wcc_same (x y z : Bool) : ∃ t, attr_PutWcc.f 50 x y z = some t ∧ shutterref05_PutWcc.f 50 x y z = some t := by
  have h := wcc_ok x y z
  unfold wccOk at h
  generalize attr_PutWcc.f 50 x y z = u at h
  generalize shutterref05_PutWcc.f 50 x y z = v at h
  cases u <;> cases v <;> simp at h
  exact ⟨_, rfl, by rw [h]⟩
theorem aputs_j1 (p n m : Bool) (s : Int) : shutterlaw05_AttrPuts.j1 49 0 (some 1) true p n s m = some true := rfl
theorem aputs_j0 (p n m : Bool) (s : Int) (h : s < 0 ∨ 3 < s) : shutterlaw05_AttrPuts.j0 50 0 (some 1) false p n s m = some true := by
  have e : shutterlaw05_AttrPuts.j0 50 0 (some 1) false p n s m = if s < 0 then shutterlaw05_AttrPuts.j1 49 0 (some 1) true p n s m else shutterlaw05_AttrPuts.j1 49 0 (some 1) (decide (s > 3)) p n s m := rfl
  rw [e]
  by_cases h0 : s < 0
  · rw [if_pos h0]; exact aputs_j1 p n m s
  · rw [if_neg h0, decide_eq_true (show s > 3 by omega)]; exact aputs_j1 p n m s
theorem aputs_aux (a : Option (Int × Option Int)) (y : Option Bool) (u v : Option Int) (t : Int) (J : Int → Option Int → Bool → Option Bool) (h1 : a = some (0, some 1)) (h2 : y = some true) (h3 : u = some t) (h4 : v = some t) (h5 : J 0 (some 1) false = some true) :
    (a.bind fun bt219 => (y.bind fun t221 => (if t221 = true then (u.bind fun t222 => (v.bind fun t223 => (J bt219.1 bt219.2 (t222 != t223)))) else (J bt219.1 bt219.2 true)))) = some true := by
  subst h1 h2 h3 h4
  simp [h5]
theorem attrPuts (p n m : Bool) (s : Int) (x y z : Bool) : shutterlaw05_AttrPuts.f 50 p n s m x y z = some true := by
  by_cases h : s < 0 ∨ 3 < s
  · obtain ⟨t, h3, h4⟩ := wcc_same x y z
    unfold shutterlaw05_AttrPuts.f
    exact aputs_aux _ _ _ _ t (fun a b c => shutterlaw05_AttrPuts.j0 50 a b c p n s m) (put_none 49 p n m s h) awake5 h3 h4 (aputs_j0 p n m s h)
  · obtain ⟨k, rfl⟩ := Int.eq_ofNat_of_zero_le (show 0 ≤ s by omega)
    exact aputs_in p n m ⟨k, by omega⟩ x y z
end Go.Proofs.YtphdefenonncaaaDoor.SixPure

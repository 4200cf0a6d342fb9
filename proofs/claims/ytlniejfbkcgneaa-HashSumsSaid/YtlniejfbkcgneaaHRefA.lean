/- Proved: words for the reference's Block; conditions: the theorems' own premises. -/
import Derived.Test.YtlniejfbkcgneaaHRef
namespace Go.Proofs.Ytlniejfbkcgneaa.HashT
open Go.RowKit Go.Proofs.Ytlniejfbkcgneaa.YHash Go.Proofs.YtlniejfbkcgneaaW.PrintWords Go.Proofs.YtlniejfbkcgneaaW.PrintLast Go.Proofs.YtlniejfbkcgneaaW.PrintMore
set_option linter.unusedVariables false
set_option linter.unusedSimpArgs false
theorem info3_ : (Try.prog.info? 3).map (fun i => (i.zero, i.size, i.bytes)) = some (some (.int .i64 0), 1, 8) := by kernel_rfl
/-- Words that are read. -/
def Ints (w : World) (A : Option Addr) (p : List Int) : Prop := 0 < p.length → ∃ ad, A = some ad ∧ ∀ j u, (nums .i64 p)[j]? = some u → w.cell? (ad.add j) = some u
theorem nums_len (k : IntKind) (l : List Int) : (nums k l).length = l.length := by unfold nums; rw [List.length_map]
theorem app_int {W : World} {base : Nat} {v : Value} {rest : List Int} {x : Int} {g : Nat} (ty : TypeId) (hq : QRow W base 3 1 v rest.length (nums .i64 rest)) (hp : W.heap[g]? = some (.cells #[.int .i64 x] 3 (0, 0))) (hb : rest.length ≤ 1000000) (hbase : base ≤ W.heap.size) :
    ∃ v' w', (Builtin.append_ #[49, 49] ty #[v, .slice (some ⟨g, 0, none⟩) 1 1]).run Try.prog W = .ok v' w' ∧ QRow w' base 3 1 v' (rest ++ [x]).length (nums .i64 (rest ++ [x])) ∧ W.grownBy w' v.ownBlock ∧ (v'.ownBlock = v.ownBlock ∨ ∃ b, v'.ownBlock = some b ∧ W.heap.size ≤ b) := by
  obtain ⟨i0, hi, hzz⟩ := Option.map_eq_some_iff.1 info3_
  simp only [Prod.mk.injEq] at hzz
  obtain ⟨hz0, hz1, hz2⟩ := hzz
  have hr : ∀ j u, ([Value.int .i64 x] : List Value)[j]? = some u → W.cell? ((⟨g, 0, none⟩ : Addr).add j) = some u := fun j u hu => by
    rw [add_at, blk_cell hp, Nat.zero_add, List.getElem?_toArray]; exact hu
  obtain ⟨v', w', h1, h2, h3, h4⟩ := q_append (P := Try.prog) W base 49 ty 3 i0 (.int .i64 0) 1 8 Try.underlying49 hi hz0 hz1 hz2 rfl (by omega) v rest.length (nums .i64 rest) hq ⟨g, 0, none⟩ 1 1 [.int .i64 x] (by rfl) hr (by intro u hu; simp at hu; subst hu; rfl) (by omega) (by simp only [maxLen]; omega) (by omega) hbase
  exact ⟨v', w', h1, by rw [List.length_append]; unfold nums at h2 ⊢; rw [List.map_append]; exact h2, h3, h4⟩
theorem append_int_step {ops : Array Oper} {o : Oper} {a : Act} {Q' : Exit → Act → World → Prop} {Kc : Act → World → Prop} {W : World} {base g : Nat} {v : Value} {rest : List Int} {x : Int} (hw : Region.wanted o (yielded ops a.tmps) = true) (s y : Operand)
    (ho : o.op = .call { callee := .builtin .append, args := #[s, y], argTypes := #[49, 49] }) (hs : a.eval s = v) (hx : a.eval y = .slice (some ⟨g, 0, none⟩) 1 1)
    (hq : QRow W base 3 1 v rest.length (nums .i64 rest)) (hp : W.heap[g]? = some (.cells #[.int .i64 x] 3 (0, 0))) (hb : rest.length ≤ 1000000) (hbase : base ≤ W.heap.size)
    (h : ∀ v1 w1, QRow w1 base 3 1 v1 (rest ++ [x]).length (nums .i64 (rest ++ [x])) → W.grownBy w1 v.ownBlock → (v1.ownBlock = v.ownBlock ∨ ∃ b, v1.ownBlock = some b ∧ W.heap.size ≤ b) → Kc (a.put o.dst v1) w1) :
    if Region.wanted o (yielded ops a.tmps) = true then Oper.wp Try.prog o a W Kc Q' else Kc (a.put o.dst undef) W := by
  obtain ⟨v1, w1, hr, h1, h2, h3⟩ := app_int o.type hq hp hb hbase
  refine event_step hw (v := v1) (w1 := w1) ?_ (h v1 w1 h1 h2 h3)
  unfold execOp
  simp only [ho, resolve, invoke, builtin, Sem.run_bind, Sem.run_pure, Result.andThen_ok, List.map_toArray, List.map_cons, List.map_nil, hs, hx]
  erw [hr]
  rfl
theorem lit_int_step {ops : Array Oper} {o : Oper} {a : Act} {Q' : Exit → Act → World → Prop} {Kc : Act → World → Prop} {W : World} (x : Int) (hw : Region.wanted o (yielded ops a.tmps) = true)
    (hrun : (execOp a.eval o).run Try.prog W = .ok (.value (.slice (some ⟨W.heap.size, 0, none⟩) 1 1)) (W.alloc (.cells #[.int .i64 x] 3 (0, 0))))
    (h : ∀ g, g = W.heap.size → ∀ w1, w1.heap[g]? = some (.cells #[.int .i64 x] 3 (0, 0)) → Below W.heap.size W w1 → Kc (a.put o.dst (.slice (some ⟨g, 0, none⟩) 1 1)) w1) :
    if Region.wanted o (yielded ops a.tmps) = true then Oper.wp Try.prog o a W Kc Q' else Kc (a.put o.dst undef) W :=
  event_step hw hrun (h _ rfl _ (blk_new W _) (below_alloc (Below.refl _ _) _))
theorem qi_keep {w w1 : World} {base n e size : Nat} {v : Value} {xs : List Value} {S : Nat → Prop} (hq : QRow w base e size v n xs) (hf : Frame w w1 S) (h : ∀ k, v.ownBlock = some k → ¬ S k) : QRow w1 base e size v n xs :=
  q_move hq (fun k hk => hf.block k (q_lt hq k hk) (h k hk))
theorem qi_below {w w1 : World} {base n e size : Nat} {v : Value} {xs : List Value} (hq : QRow w base e size v n xs) (hb : Below w.heap.size w w1) : QRow w1 base e size v n xs := qi_keep hq (Frame.of_below hb) (fun _ _ h => h)
theorem qi_cell {w : World} {base c : Nat} {A : Option Addr} {l : List Int} {n : Nat} (h : QRow w base 3 1 (.slice A n c) n (nums .i64 l)) (i : Nat) (hi : i < l.length) : ∃ g off, A = some ⟨g, off, none⟩ ∧ ∀ j, j < l.length → w.cell? ⟨g, off + j, none⟩ = some (.int .i64 (rd l (j : Int))) := by
  have hn : (nums .i64 l).length = n * 1 := h.1
  rw [nums_len, Nat.mul_one] at hn
  rcases h.2 with ⟨h0, _⟩ | ⟨g, off, cap, cur, he, hb, hh, hnc, hm, hcs, ht⟩
  · omega
  · injection he with ha _ _
    subst ha
    refine ⟨g, off * 1, rfl, fun j hj => ?_⟩
    obtain ⟨ad, e, hc⟩ := q_cells h (by omega)
    injection e with e
    subst e
    have h1 := hc j (.int .i64 (rd l (j : Int))) (by
      unfold nums rd
      rw [List.getElem?_map, List.getElem?_eq_getElem hj, Int.toNat_natCast, List.getD_eq_getElem?_getD, List.getElem?_eq_getElem hj]; rfl)
    rwa [add_at] at h1
theorem i64s_one (xs : List Int) : (⟨nums .i64 xs⟩ : Array Value).all (·.oneCell') = true := by
  rw [List.all_toArray]
  unfold nums
  rw [List.all_map, List.all_eq_true]
  intro x _; rfl
theorem i64s_size (xs : List Int) {n : Nat} (h : xs.length = n) : (⟨nums .i64 xs⟩ : Array Value).size = n := by rw [List.size_toArray, nums_len, h]
theorem i64s_at (xs : List Int) {i : Nat} (h : i < xs.length) : (⟨nums .i64 xs⟩ : Array Value)[i]? = some (.int .i64 (rd xs (i : Int))) := by
  rw [List.getElem?_toArray]
  unfold nums rd
  rw [List.getElem?_map, Int.toNat_natCast, List.getElem?_eq_getElem h, List.getD_eq_getElem?_getD, List.getElem?_eq_getElem h]; rfl
theorem i64s_set (h : List Int) {i : Nat} (hi : i < h.length) (x : Int) : (⟨nums .i64 h⟩ : Array Value).setIfInBounds i (.int .i64 x) = ⟨nums .i64 (h.set i x)⟩ := by
  rw [List.setIfInBounds_toArray]
  unfold nums
  rw [List.map_set]
/-! ### words in their range -/
def AllW (l : List Int) : Prop := ∀ x ∈ l, W32 x
theorem AllW.at_ {l : List Int} (h : AllW l) (i : Nat) (hi : i < l.length) : W32 (rd l (i : Int)) := by
  unfold rd
  rw [Int.toNat_natCast, List.getD_eq_getElem?_getD, List.getElem?_eq_getElem hi]
  exact h _ (List.getElem_mem hi)
def AllB (l : List Int) : Prop := ∀ x ∈ l, 0 ≤ x ∧ x ≤ 255
theorem AllB.at_ {l : List Int} (h : AllB l) (i : Nat) (hi : i < l.length) : 0 ≤ rd l (i : Int) ∧ rd l (i : Int) ≤ 255 := by
  unfold rd
  rw [Int.toNat_natCast, List.getD_eq_getElem?_getD, List.getElem?_eq_getElem hi]
  exact h _ (List.getElem_mem hi)
theorem or_add {a b i : Nat} (hb : b < 2 ^ i) (ha : a % 2 ^ i = 0) : a ||| b = a + b := by
  have hq : a = 2 ^ i * (a / 2 ^ i) := by
    have := Nat.div_add_mod a (2 ^ i)
    omega
  rw [hq, ← Nat.two_pow_add_eq_or_of_lt hb (a / 2 ^ i)]
theorem bword_is (l : List Int) (t : Nat) (hb : AllB l) (h : 4 * t + 3 < l.length) :
    bword l t = 16777216 * rd l ((4 * t : Nat) : Int) + 65536 * rd l ((4 * t + 1 : Nat) : Int) + 256 * rd l ((4 * t + 2 : Nat) : Int) + rd l ((4 * t + 3 : Nat) : Int) := by
  unfold bword
  have h0 := hb.at_ (4 * t) (by omega)
  have h1 := hb.at_ (4 * t + 1) (by omega)
  have h2 := hb.at_ (4 * t + 2) (by omega)
  have h3 := hb.at_ (4 * t + 3) (by omega)
  generalize rd l ((4 * t : Nat) : Int) = a at *
  generalize rd l ((4 * t + 1 : Nat) : Int) = b at *
  generalize rd l ((4 * t + 2 : Nat) : Int) = c at *
  generalize rd l ((4 * t + 3 : Nat) : Int) = d at *
  obtain ⟨a, rfl⟩ := Int.eq_ofNat_of_zero_le h0.1
  obtain ⟨b, rfl⟩ := Int.eq_ofNat_of_zero_le h1.1
  obtain ⟨c, rfl⟩ := Int.eq_ofNat_of_zero_le h2.1
  obtain ⟨d, rfl⟩ := Int.eq_ofNat_of_zero_le h3.1
  have e0 : (a : Int) % 4294967296 * 16777216 % 4294967296 = ((a * 16777216 : Nat) : Int) := by omega
  have e1 : (b : Int) % 4294967296 * 65536 % 4294967296 = ((b * 65536 : Nat) : Int) := by omega
  have e2 : (c : Int) % 4294967296 * 256 % 4294967296 = ((c * 256 : Nat) : Int) := by omega
  have e3 : (d : Int) % 4294967296 = ((d : Nat) : Int) := by omega
  rw [e0, e1, e2, e3, u32_or (by omega) (by omega), or_add (i := 24) (by omega) (by omega), u32_or (by omega) (by omega), or_add (i := 16) (by omega) (by omega), u32_or (by omega) (by omega), or_add (i := 8) (by omega) (by omega)]
  omega
theorem w_div {x : Int} (h : W32 x) (d : Int) (hd : 0 < d) : W32 (x / d) := by
  unfold W32 at *
  refine ⟨Int.ediv_nonneg h.1 (by omega), ?_⟩
  exact Int.lt_of_le_of_lt (Int.ediv_le_self _ h.1) h.2
theorem w_tr' {x n : Int} (hx : W32 x) (h0 : 0 < n) (h1 : n < 32) : W32 (tr x n) := by
  obtain ⟨m, rfl⟩ := Int.eq_ofNat_of_zero_le (show 0 ≤ n by omega)
  exact w_tr hx (by omega) (by omega)
theorem rturn_any {x n : Int} (hx : W32 x) (h0 : 0 < n) (h1 : n < 32) (w : World) : Calls Try.prog 20 #[.int .i64 x, .int .i64 n] w fun e w' => e = .returned (.int .i64 (tr x n)) ∧ ∃ m, w' = w.drewN m := by
  obtain ⟨m, rfl⟩ := Int.eq_ofNat_of_zero_le (show 0 ≤ n by omega)
  exact rturn_calls hx (by omega) (by omega) w
def sg (x a b s : Int) : Int := Go.bits .xor .i64 (Go.bits .xor .i64 (tr x a) (tr x b)) (x / s)
theorem sg0_is {x : Int} (hx : W32 x) : sg x 7 18 8 = sg0 x := by
  unfold sg sg0
  rw [xor_i64 (w_tr' hx (by decide) (by decide)) (w_tr' hx (by decide) (by decide)), xor_i64 (w_xor (w_tr' hx (by decide) (by decide)) (w_tr' hx (by decide) (by decide))) (w_div hx 8 (by decide))]
theorem sg1_is {x : Int} (hx : W32 x) : sg x 17 19 1024 = sg1 x := by
  unfold sg sg1
  rw [xor_i64 (w_tr' hx (by decide) (by decide)) (w_tr' hx (by decide) (by decide)), xor_i64 (w_xor (w_tr' hx (by decide) (by decide)) (w_tr' hx (by decide) (by decide))) (w_div hx 1024 (by decide))]
theorem w_sg0 {x : Int} (hx : W32 x) : W32 (sg0 x) := w_xor (w_xor (w_tr' hx (by decide) (by decide)) (w_tr' hx (by decide) (by decide))) (w_div hx 8 (by decide))
theorem w_sg1 {x : Int} (hx : W32 x) : W32 (sg1 x) := w_xor (w_xor (w_tr' hx (by decide) (by decide)) (w_tr' hx (by decide) (by decide))) (w_div hx 1024 (by decide))
theorem wl_all (l : List Int) (hb : AllB l) (hl : 64 ≤ l.length) : ∀ t, t ≤ 64 → AllW (wl l t)
  | 0, _ => fun x hx => by cases hx
  | t + 1, ht => by
    intro x hx
    have hx : x ∈ wl l t ++ [wnext l (wl l t) t] := hx
    rcases List.mem_append.1 hx with h | h
    · exact wl_all l hb hl t (by omega) x h
    · have h : x = wnext l (wl l t) t := by simpa using h
      subst h
      unfold wnext
      by_cases h16 : t < 16
      · rw [if_pos h16, bword_is l t hb (by omega)]
        have h0 := hb.at_ (4 * t) (by omega)
        have h1 := hb.at_ (4 * t + 1) (by omega)
        have h2 := hb.at_ (4 * t + 2) (by omega)
        have h3 := hb.at_ (4 * t + 3) (by omega)
        unfold W32; omega
      · rw [if_neg h16]; exact w_mod _
theorem drew_below {w w1 : World} (h : ∃ m, w1 = w.drewN m) : Below w.heap.size w w1 := by
  obtain ⟨m, rfl⟩ := h
  exact pw_below_drewN (Below.refl _ _) m
theorem wsum_is {xs : List Int} {t a b c d : Nat} (ea : a + 16 = t) (eb : b + 15 = t) (ec : c + 7 = t) (ed : d + 2 = t) : wsum xs t = (rd xs (a : Int) + sg0 (rd xs (b : Int)) + rd xs (c : Int) + sg1 (rd xs (d : Int))) % 4294967296 := by
  unfold wsum
  rw [show t - 16 = a by omega, show t - 15 = b by omega, show t - 7 = c by omega, show t - 2 = d by omega]
theorem AllW.cons {x : Int} {l : List Int} (h : W32 x) (hl : AllW l) : AllW (x :: l) := fun y hy => by
  rcases List.mem_cons.1 hy with rfl | hy
  · exact h
  · exact hl y hy
theorem AllW.nil : AllW [] := fun _ h => by cases h
theorem vl_all (ws h : List Int) (hh : AllW h) : ∀ t, AllW (vl ws h t)
  | 0 => hh
  | t + 1 => by
    have ih := vl_all ws h hh t
    show AllW (vstep (vl ws h t) _ _)
    generalize vl ws h t = v at ih
    match v, ih with
    | [a, b, c, d, e, f, g, i], ih =>
      have m := fun x (hx : x ∈ [a, b, c, d, e, f, g, i]) => ih x hx
      exact .cons (w_mod _) (.cons (m a (by simp)) (.cons (m b (by simp)) (.cons (m c (by simp)) (.cons (w_mod _) (.cons (m e (by simp)) (.cons (m f (by simp)) (.cons (m g (by simp)) .nil)))))))
    | [], ih => exact ih
    | [_], ih => exact ih
    | [_, _], ih => exact ih
    | [_, _, _], ih => exact ih
    | [_, _, _, _], ih => exact ih
    | [_, _, _, _, _], ih => exact ih
    | [_, _, _, _, _, _], ih => exact ih
    | [_, _, _, _, _, _, _], ih => exact ih
    | _ :: _ :: _ :: _ :: _ :: _ :: _ :: _ :: _ :: _, ih => exact ih
def big (x a b c : Int) : Int := Go.bits .xor .u32 (Go.bits .xor .u32 (tr x a) (tr x b)) (tr x c)
theorem big_is {x a b c : Int} (hx : W32 x) (ha : 0 < a ∧ a < 32) (hb : 0 < b ∧ b < 32) (hc : 0 < c ∧ c < 32) : Go.bits .xor .i64 (Go.bits .xor .i64 (tr x a) (tr x b)) (tr x c) = big x a b c ∧ W32 (big x a b c) := by
  have h1 := w_tr' hx ha.1 ha.2
  have h2 := w_tr' hx hb.1 hb.2
  have h3 := w_tr' hx hc.1 hc.2
  exact ⟨by unfold big; rw [xor_i64 h1 h2, xor_i64 (w_xor h1 h2) h3], w_xor (w_xor h1 h2) h3⟩
theorem wrap_id {x : Int} (h0 : 0 ≤ x) (h1 : x < 9223372036854775808) : wrap64 x = x := by unfold wrap64; omega
theorem xv_is {e f g h k w s ch : Int} (he : W32 e) (hf : W32 f) (hg : W32 g) (hh : W32 h) (hk : W32 k) (hw : W32 w) (hs : s = big e 6 11 25) (hc : ch = Go.bits .xor .u32 (Go.bits .and .u32 e f) (Go.bits .and .u32 (4294967295 - e) g)) :
    (wrap64 (wrap64 (wrap64 (wrap64 (h + s) + ch) + k) + w)).tmod 4294967296 = xv e f g h k w ∧ W32 (xv e f g h k w) := by
  have ws : W32 s := by rw [hs]; exact (big_is he (by decide) (by decide) (by decide)).2
  have wc : W32 ch := by rw [hc]; exact w_xor (w_and he hf) (w_and (by unfold W32 at *; omega) hg)
  have e1 : xv e f g h k w = (h + s + ch + k + w) % 4294967296 := by
    unfold xv
    rw [not_u32 he, ← hc]
    rw [show Go.bits .xor .u32 (Go.bits .xor .u32 (tr e 6) (tr e 11)) (tr e 25) = s from hs.symm]
    simp only [IntKind.wrap_u32]
    clear hs hc
    omega
  rw [e1]
  refine ⟨?_, w_mod _⟩
  clear e1 hs hc
  unfold W32 at *
  have e2 : wrap64 (wrap64 (wrap64 (wrap64 (h + s) + ch) + k) + w) = h + s + ch + k + w := by
    rw [wrap_id (show 0 ≤ h + s by omega) (by omega), wrap_id (show 0 ≤ h + s + ch by omega) (by omega), wrap_id (show 0 ≤ h + s + ch + k by omega) (by omega), wrap_id (show 0 ≤ h + s + ch + k + w by omega) (by omega)]
  rw [e2]
  clear e2
  exact Int.tmod_eq_emod_of_nonneg (by omega)
theorem yv_is {a b c s m : Int} (ha : W32 a) (hb : W32 b) (hc : W32 c) (hs : s = big a 2 13 22) (hm : m = Go.bits .xor .u32 (Go.bits .xor .u32 (Go.bits .and .u32 a b) (Go.bits .and .u32 a c)) (Go.bits .and .u32 b c)) :
    (wrap64 (s + m)).tmod 4294967296 = yv a b c % 4294967296 := by
  have ws : W32 s := by rw [hs]; exact (big_is ha (by decide) (by decide) (by decide)).2
  have wm : W32 m := by rw [hm]; exact w_xor (w_xor (w_and ha hb) (w_and ha hc)) (w_and hb hc)
  have e1 : yv a b c = s + m := by unfold yv; rw [hs, hm]; rfl
  rw [e1]
  clear e1 hs hm
  unfold W32 at *
  rw [wrap_id (by omega) (by omega)]
  exact Int.tmod_eq_emod_of_nonneg (by omega)
theorem vnew_is {x y xv yv : Int} (hx : x = xv) (hw : W32 xv) (hy : y = yv % 4294967296) : (wrap64 (x + y)).tmod 4294967296 = (xv + yv) % 4294967296 := by
  subst hx hy
  have h2 : 0 ≤ yv % 4294967296 ∧ yv % 4294967296 < 4294967296 := by omega
  unfold W32 at hw
  rw [wrap_id (by omega) (by omega), Int.tmod_eq_emod_of_nonneg (by omega)]
  omega
theorem vnew2_is {a x xv : Int} (ha : W32 a) (hx : x = xv) (hw : W32 xv) : (wrap64 (a + x)).tmod 4294967296 = (a + xv) % 4294967296 := by
  subst hx
  unfold W32 at *
  rw [wrap_id (by omega) (by omega), Int.tmod_eq_emod_of_nonneg (by omega)]
theorem addN_sym {h v : List Int} (hh : h.length = 8) (hv : v.length = 8) : addN h v 8 = addN v h 8 := by
  match h, hh, v, hv with
  | [a, b, c, d, e, f, g, i], _, [a', b', c', d', e', f', g', i'], _ =>
    simp [addN, rd]
    omega
theorem addN_all {h v : List Int} (hh : AllW h) : ∀ i, AllW (addN h v i)
  | 0 => hh
  | i + 1 => fun x hx => by
    have hx : x ∈ (addN h v i).set i ((rd (addN h v i) (i : Int) + rd v (i : Int)) % 4294967296) := hx
    rcases List.mem_or_eq_of_mem_set hx with h1 | h1
    · exact addN_all hh i x h1
    · rw [h1]; exact w_mod _
theorem sum_tmod {p q : Int} (hp : W32 p) (hq : W32 q) : (wrap64 (p + q)).tmod 4294967296 = (p + q) % 4294967296 := by
  unfold W32 at *
  rw [wrap_id (by omega) (by omega), Int.tmod_eq_emod_of_nonneg (by omega)]
end Go.Proofs.Ytlniejfbkcgneaa.HashT

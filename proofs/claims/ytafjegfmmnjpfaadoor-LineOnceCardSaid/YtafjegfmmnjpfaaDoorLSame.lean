/- Proved: SameTexts, short, begins, and an append of texts; conditions: the theorems' own premises. -/
import Derived.Test.YtafjegfmmnjpfaaDoorLHear
import Derived.Test.YtafjegfmmnjpfaaDoorLOpen
namespace Go.Proofs.YtafjegfmmnjpfaaDoor.LineT
open Go.RowKit Go.Proofs.YtafjegfmmnjpfaaDoor.YLine Go.Proofs.YtafjegfmmnjpfaaDoorW.PrintWords Go.Proofs.YtafjegfmmnjpfaaDoorW.PrintLast Go.Proofs.YtafjegfmmnjpfaaDoorW.PrintMore
set_option linter.unusedVariables false
set_option linter.unusedSimpArgs false
/-- Texts are laid behind others. -/
theorem texts_app {W : World} {base B2 : Nat} {v v2 : Value} {ms ns : List Pk} (ty : TypeId) (hq : QRow W base 32 1 v ms.length (ms.map Pk.val)) (hp : QRow W B2 32 1 v2 ns.length (ns.map Pk.val)) (hb : ms.length + ns.length ≤ 2000000) (hbase : base ≤ W.heap.size) :
    ∃ v' w', (Builtin.append_ #[22, 22] ty #[v, v2]).run Tryd.prog W = .ok v' w' ∧ QRow w' base 32 1 v' (ms ++ ns).length ((ms ++ ns).map Pk.val) ∧ W.grownBy w' v.ownBlock ∧ (v'.ownBlock = v.ownBlock ∨ ∃ b, v'.ownBlock = some b ∧ W.heap.size ≤ b) := by
  obtain ⟨i0, hi, hzz⟩ := Option.map_eq_some_iff.1 infoTx
  simp only [Prod.mk.injEq] at hzz
  obtain ⟨hz0, hz1, hz2⟩ := hzz
  obtain ⟨A2, c2, rfl, hle2⟩ := q_slice hp
  by_cases h0 : ns.length = 0
  · obtain rfl : ns = [] := List.eq_nil_of_length_eq_zero h0
    obtain ⟨A0, c0, hv, hle⟩ := q_slice hq
    subst hv
    refine ⟨_, W, run_append_nothing (P := Tryd.prog) W 22 22 ty 32 i0 Tryd.underlying22 hi A0 ms.length c0 hle _ ?_, by rw [List.append_nil]; exact hq, World.grownBy.refl _ _, .inl rfl⟩
    exact ⟨.inl ⟨32, Tryd.underlying22⟩, fun _ => rfl, first_none W _ A2 c2, first_none W.drew _ A2 c2, by simp, fun _ h => by cases h⟩
  · obtain ⟨ad, rfl, hr⟩ := q_cells hp (by omega)
    have h := q_append (P := Tryd.prog) W base 22 ty 32 i0 (.slice none 0 0) 1 24 Tryd.underlying22 hi hz0 hz1 hz2 rfl (by omega) v ms.length (ms.map Pk.val) hq ad ns.length c2 (ns.map Pk.val) (by rw [List.length_map, Nat.mul_one]) hr (by intro u hu; obtain ⟨x, _, rfl⟩ := List.mem_map.1 hu; rfl) (by omega) (by simp only [maxLen]; omega) (by omega) hbase
    obtain ⟨v', w', h1, h2, h3, h4⟩ := h
    exact ⟨v', w', h1, by rw [List.length_append, List.map_append]; exact h2, h3, h4⟩
theorem texts_event {ops : Array Oper} {rest' : List Oper} {o : Oper} {a : Act} {Q' : Exit → Act → World → Prop} {W : World} {base B2 : Nat} {v v2 : Value} {ms ns : List Pk} (hgd : o.guard = none) (s x : Operand)
    (ho : o.op = .call { callee := .builtin .append, args := #[s, x], argTypes := #[22, 22] }) (hs : a.eval s = v) (hx : a.eval x = v2)
    (hq : QRow W base 32 1 v ms.length (ms.map Pk.val)) (hp : QRow W B2 32 1 v2 ns.length (ns.map Pk.val)) (hb : ms.length + ns.length ≤ 2000000) (hbase : base ≤ W.heap.size)
    (h : ∀ v1 w1, QRow w1 base 32 1 v1 (ms ++ ns).length ((ms ++ ns).map Pk.val) → W.grownBy w1 v.ownBlock → (v1.ownBlock = v.ownBlock ∨ ∃ b, v1.ownBlock = some b ∧ W.heap.size ≤ b) → wpList Tryd.prog ops Q' rest' (a.put o.dst v1) w1) :
    wpList Tryd.prog ops Q' (o :: rest') a W := by
  obtain ⟨v1, w1, hr, h1, h2, h3⟩ := texts_app o.type hq hp hb hbase
  refine wpList_plain hgd fun K hK => ?_
  unfold Oper.wp execOp
  simp only [ho, resolve, invoke, builtin, Sem.run_bind, Sem.run_pure, Result.andThen_ok, List.map_toArray, List.map_cons, List.map_nil, hs, hx]
  erw [hr]
  exact hK _ _ (h v1 w1 h1 h2 h3)
/-- Texts that lie in a row are read. -/
theorem Msgs.at_ {w : World} {B : Nat} {v : Value} {ms : List Pk} (h : Msgs w B v ms) : ∃ A c, v = .slice A ms.length c ∧ ms.length ≤ c ∧ TextsAt w A (ms.map Pk.b) := by
  obtain ⟨hq, hk⟩ := h
  obtain ⟨A, c, rfl, hle⟩ := q_slice hq
  refine ⟨A, c, rfl, hle, fun hp => ?_⟩
  rw [List.length_map] at hp
  obtain ⟨gr, off, rfl⟩ := row_at hq hp
  refine ⟨gr, off, rfl, fun i hi => ?_⟩
  rw [List.length_map] at hi
  obtain ⟨ad, ea, hc⟩ := q_cells hq hp
  injection ea with ea
  subst ea
  have h1 := hc i (ms[i]).val (by rw [List.getElem?_map, List.getElem?_eq_getElem hi]; rfl)
  rw [add_at] at h1
  have h2 := hk _ (List.getElem_mem hi)
  rw [List.getElem_map]
  exact ⟨ms[i].A, ms[i].c, h1, h2.cap, h2.bytes⟩
theorem str_ne {a b : List Int} (h : a = b) : (strOfNums a).toList = (strOfNums b).toList := by rw [h]
theorem TextsAt.take {w : World} {A : Option Addr} {ps : List (List Int)} (h : TextsAt w A ps) (n : Nat) : TextsAt w A (ps.take n) := by
  intro hp
  rw [List.length_take] at hp
  obtain ⟨b, o, rfl, hx⟩ := h (by omega)
  refine ⟨b, o, rfl, fun i hi => ?_⟩
  rw [List.length_take] at hi
  rw [List.getElem_take]
  exact hx i (by omega)
set_option maxHeartbeats 4000000 in
set_option maxRecDepth 100000 in
/-- Texts that are the same are told so. -/
theorem same_true (w : World) (n : Nat) (A1 A2 : Option Addr) (c1 c2 : Nat) (l : List (List Int)) (h1 : TextsAt w A1 l) (h2 : TextsAt w A2 l) (hn : l.length = n) (hb : n ≤ 9000000000) (hl : ∀ q ∈ l, q.length ≤ 9223372036854775807) :
    Calls Tryd.prog 19 #[.slice A1 n c1, .slice A2 n c2] w fun e w' => e = .returned (.bool true) ∧ Below w.heap.size w w' := by
  have H1 := Aside0.mk h1
  have H2 := Aside0.mk h2
  have HN := Aside0.mk hn
  have HL := Aside0.mk hl
  have B0 := Aside0.mk (Below.refl w.heap.size w)
  clear h1 h2 hn hl
  go_enter Tryd.func19, Tryd.ntmps19
  go_wp2
  go_loopg [5] n (fun kq v5 w' => ∃ (i : Nat), i ≤ n ∧ v5 = .int .i64 (i : Int) ∧ Aside0 (kq = n - i) ∧ Aside0 (Below w.heap.size w w'))
  case atStart => exact ⟨0, by omega, rfl, ⟨rfl⟩, B0⟩
  case round =>
    clear B0
    obtain ⟨i, hi, rfl, HK, B1⟩ := hrel
    have zi : 0 ≤ (i : Int) := by omega
    by_cases hlt : i < n
    · have lt : (i : Int) < (n : Int) := by omega
      obtain ⟨b1, o1, hA1, hx1⟩ := (H1.out.below B1.out) (by rw [HN.out]; omega)
      obtain ⟨b2, o2, hA2, hx2⟩ := (H2.out.below B1.out) (by rw [HN.out]; omega)
      subst hA1
      subst hA2
      obtain ⟨Ai, ci, hc1, _, hy1⟩ := hx1 i (by rw [HN.out]; exact hlt)
      obtain ⟨Aj, cj, hc2, _, hy2⟩ := hx2 i (by rw [HN.out]; exact hlt)
      obtain ⟨t, ht⟩ : ∃ t, l[i]'(by rw [HN.out]; exact hlt) = t := ⟨_, rfl⟩
      have htl : t.length ≤ 9223372036854775807 := HL.out t (by rw [← ht]; exact List.getElem_mem _)
      rw [ht] at hc1 hc2 hy1 hy2
      have k1 := reads_bytes hy1 htl
      have k2 := reads_bytes hy2 htl
      have hcv := fun nq => Kd.C_string (P := Tryd.prog) (A := Ai) (c := ci) Tryd.underlying32 Tryd.underlying5 Tryd.underlying9 (Kd.C_drewN k1 nq)
      have hcb := fun nq => Kd.C_string (P := Tryd.prog) (A := Aj) (c := cj) Tryd.underlying32 Tryd.underlying5 Tryd.underlying9 (Kd.C_drewN k2 nq)
      clear hx1 hx2 hy1 hy2 ht
      go_upto_region 6 with (fail)
      go_quiet (fail)
      go_wp2
      go_roundg (n - i - 1)
      case measure => have := HK.out; omega
      case rel => exact ⟨i + 1, by omega, by go_num, ⟨by omega⟩, ⟨below_frame B1.out (Frame.of_drewN wr nq (fun _ => False)) B1.out.size (fun _ h => h.elim)⟩⟩
    · have lt : ¬ (i : Int) < (n : Int) := by omega
      go_wp2
      go_ret
      exact ⟨rfl, B1.out⟩
def shortB (l : List (List Int)) : Bool := l.all fun q => decide (1 ≤ q.length) && decide (q.length ≤ 600)
theorem short_all {l : List (List Int)} (h : shortB l = true) : ∀ q ∈ l, 1 ≤ q.length ∧ q.length ≤ 600 := fun q hq => by
  unfold shortB at h
  have := List.all_eq_true.1 h q hq
  simpa using this
set_option maxHeartbeats 4000000 in
set_option maxRecDepth 100000 in
theorem short_calls (w : World) (n : Nat) (A : Option Addr) (c : Nat) (l : List (List Int)) (h : TextsAt w A l) (hn : l.length = n) (hb : n ≤ 9000000000) (hl : ∀ q ∈ l, q.length ≤ 9223372036854775807) :
    Calls Tryd.prog 9 #[.slice A n c] w fun e w' => e = .returned (.bool (shortB l)) ∧ w' = w := by
  have H1 := Aside0.mk h
  have HN := Aside0.mk hn
  have HL := Aside0.mk hl
  clear h hn hl
  go_enter Tryd.func9, Tryd.ntmps9
  go_wp2
  go_loopg [3] n (fun kq v3 w' => ∃ (i : Nat), i ≤ n ∧ v3 = .int .i64 (i : Int) ∧ Aside0 (kq = n - i) ∧ Aside0 (shortB (l.take i) = true) ∧ w' = w)
  case atStart => exact ⟨0, by omega, rfl, ⟨rfl⟩, ⟨rfl⟩, rfl⟩
  case round =>
    obtain ⟨i, hi, rfl, HK, HS, hw⟩ := hrel
    have hw' := hw.symm
    subst hw'
    clear hw
    have zi : 0 ≤ (i : Int) := by omega
    by_cases hlt : i < n
    · have lt : (i : Int) < (n : Int) := by omega
      obtain ⟨b1, o1, hA1, hx1⟩ := H1.out (by rw [HN.out]; omega)
      subst hA1
      obtain ⟨Ai, ci, hc1, _, hy1⟩ := hx1 i (by rw [HN.out]; exact hlt)
      obtain ⟨t, ht⟩ : ∃ t, l[i]'(by rw [HN.out]; exact hlt) = t := ⟨_, rfl⟩
      have htl : t.length ≤ 9223372036854775807 := HL.out t (by rw [← ht]; exact List.getElem_mem _)
      have HM := Aside0.mk (show t ∈ l by rw [← ht]; exact List.getElem_mem _)
      have HT := Aside0.mk (show l.take (i + 1) = l.take i ++ [t] by rw [List.take_succ_eq_append_getElem (by rw [HN.out]; exact hlt), ht])
      rw [ht] at hc1
      clear hx1 hy1 ht
      have no : ∀ P : Prop, (shortB l = true → P) → ¬ P → shortB l = false := fun P h1 h2 => by
        cases h : shortB l with
        | false => rfl
        | true => exact absurd (h1 h) h2
      by_cases h0 : t.length = 0
      · have EF : Aside0 (shortB l = false) := ⟨no _ (fun h => (short_all h t HM.out).1) (by omega)⟩
        have z0 : ((t.length : Int) == 0) = true := by rw [h0]; rfl
        clear no
        go_wp2
        go_ret
        rw [EF.out]
        exact ⟨rfl, rfl⟩
      · have z0 : ((t.length : Int) == 0) = false := by
          have : ¬ (t.length : Int) = 0 := by omega
          simpa using this
        by_cases h6 : t.length ≤ 600
        · have HS2 : Aside0 (shortB (l.take (i + 1)) = true) := ⟨by
            rw [HT.out]
            unfold shortB
            rw [List.all_append]
            have h1 := HS.out
            unfold shortB at h1
            rw [h1, List.all_cons, List.all_nil, decide_eq_true (show 1 ≤ t.length by omega), decide_eq_true h6]
            rfl⟩
          have l6 : ¬ 600 < (t.length : Int) := by omega
          clear no
          go_wp2
          go_roundg (n - i - 1)
          case measure => have := HK.out; omega
          case rel => exact ⟨i + 1, by omega, by go_num, ⟨by omega⟩, HS2, rfl⟩
        · have EF : Aside0 (shortB l = false) := ⟨no _ (fun h => (short_all h t HM.out).2) h6⟩
          have l6 : 600 < (t.length : Int) := by omega
          clear no
          go_wp2
          go_ret
          rw [EF.out]
          exact ⟨rfl, rfl⟩
    · have lt : ¬ (i : Int) < (n : Int) := by omega
      have ES : Aside0 (shortB l = true) := ⟨by
        have h := HS.out
        rwa [List.take_of_length_le (by rw [HN.out]; omega)] at h⟩
      go_wp2
      go_ret
      rw [ES.out]
      exact ⟨rfl, rfl⟩
set_option maxHeartbeats 4000000 in
set_option maxRecDepth 100000 in
/-- Texts that are a beginning of others are told so. -/
theorem begins_true (w : World) (n m : Nat) (A1 A2 : Option Addr) (c1 c2 : Nat) (l : List (List Int)) (h1 : TextsAt w A1 (l.take n)) (h2 : TextsAt w A2 l) (hn : n ≤ m) (hm : l.length = m) (hc2 : m ≤ c2) (hb : m ≤ 9000000000) (hl : ∀ q ∈ l, q.length ≤ 9223372036854775807) :
    Calls Tryd.prog 14 #[.slice A1 n c1, .slice A2 m c2] w fun e w' => e = .returned (.bool true) ∧ Below w.heap.size w w' := by
  have H1 := Aside0.mk h1
  have H2 := Aside0.mk (h2.take n)
  have HM := Aside0.mk (show (l.take n).length = n by rw [List.length_take]; omega)
  have HL := Aside0.mk (show ∀ q ∈ l.take n, q.length ≤ 9223372036854775807 from fun q hq => hl q (List.mem_of_mem_take hq))
  have nm : (n : Int) ≤ (m : Int) := by omega
  have mc : (m : Int) ≤ (c2 : Int) := by omega
  have nc : (n : Int) ≤ (c2 : Int) := by omega
  clear h1 h2 hm hl
  obtain ⟨i0, hi0, hzz⟩ := Option.map_eq_some_iff.1 infoTx
  simp only [Prod.mk.injEq] at hzz
  go_enter Tryd.func14, Tryd.ntmps14
  go_wp2_with (go_at_call 19; refine stop_here ?_)
  refine ⟨?_⟩
  refine (same_true w n A1 A2 c1 _ (l.take n) H1.out H2.out HM.out (by omega) HL.out).mono ?_
  rintro e w1 ⟨rfl, hB⟩
  go_wp2
  go_ret
  exact ⟨rfl, hB⟩
end Go.Proofs.YtafjegfmmnjpfaaDoor.LineT

/- Proved: appends of bytes and of texts, a stored row, a deletion; conditions: the theorems' own premises. -/
import Derived.Test.YtafjegfmmnjpfaaDoorLAcked
import Derived.Deep.Upon
namespace Go.Proofs.YtafjegfmmnjpfaaDoor.LineT
open Go.RowKit Go.Proofs.YtafjegfmmnjpfaaDoor.YLine Go.Proofs.YtafjegfmmnjpfaaDoorW.PrintWords Go.Proofs.YtafjegfmmnjpfaaDoorW.PrintLast Go.Proofs.YtafjegfmmnjpfaaDoorW.PrintMore
set_option linter.unusedVariables false
set_option linter.unusedSimpArgs false
theorem info5 : (Tryd.prog.info? 5).map (fun i => (i.zero, i.size, i.bytes)) = some (some (.int .u8 0), 1, 1) := by kernel_rfl
theorem infoTx : (Tryd.prog.info? 32).map (fun i => (i.zero, i.size, i.bytes)) = some (some (.slice none 0 0), 1, 24) := by kernel_rfl
theorem first_none (W : World) (size : Nat) (A : Option Addr) (c : Nat) : (Builtin.firstCells size 0 (.slice A ([] : List Int).length c)).run Tryd.prog W = .ok [].toArray W := by
  cases A with
  | none => exact run_firstCells_none W size 0 0 c
  | some a => exact run_firstCells_some W size 0 a 0 c [] (by simp) (fun _ _ h => by simp at h)
theorem app_any {W : World} {base : Nat} {v : Value} {rest p : List Int} {A : Option Addr} {c : Nat} (ty : TypeId) (hq : QRow W base 5 1 v rest.length (nums .u8 rest)) (hp : Bytes W A p) (hb : rest.length + p.length ≤ 2000000) (hbase : base ≤ W.heap.size) :
    ∃ v' w', (Builtin.append_ #[32, 32] ty #[v, .slice A p.length c]).run Tryd.prog W = .ok v' w' ∧ QRow w' base 5 1 v' (rest ++ p).length (nums .u8 (rest ++ p)) ∧ W.grownBy w' v.ownBlock ∧ (v'.ownBlock = v.ownBlock ∨ ∃ b, v'.ownBlock = some b ∧ W.heap.size ≤ b) := by
  obtain ⟨i0, hi, hzz⟩ := Option.map_eq_some_iff.1 info5
  simp only [Prod.mk.injEq] at hzz
  obtain ⟨hz0, hz1, hz2⟩ := hzz
  by_cases h0 : p.length = 0
  · obtain rfl : p = [] := List.eq_nil_of_length_eq_zero h0
    obtain ⟨A0, c0, hv, hle⟩ := q_slice hq
    subst hv
    refine ⟨_, W, run_append_nothing (P := Tryd.prog) W 32 32 ty 5 i0 Tryd.underlying32 hi A0 rest.length c0 hle _ ?_, by rw [List.append_nil]; exact hq, World.grownBy.refl _ _, .inl rfl⟩
    exact ⟨.inl ⟨5, Tryd.underlying32⟩, fun _ => rfl, first_none W _ A c, first_none W.drew _ A c, by simp, fun _ h => by cases h⟩
  · obtain ⟨ad, rfl, hr⟩ := hp (by omega)
    have h := q_append (P := Tryd.prog) W base 32 ty 5 i0 (.int .u8 0) 1 1 Tryd.underlying32 hi hz0 hz1 hz2 rfl (by omega) v rest.length (nums .u8 rest) hq ad p.length c (nums .u8 p) (by simp [nums]) hr (by intro u hu; obtain ⟨x, _, rfl⟩ := List.mem_map.1 hu; rfl) (by omega) (by simp only [maxLen]; omega) (by omega) hbase
    obtain ⟨v', w', h1, h2, h3, h4⟩ := h
    exact ⟨v', w', h1, by rw [List.length_append]; unfold nums at h2 ⊢; rw [List.map_append]; exact h2, h3, h4⟩
theorem append_step {ops : Array Oper} {o : Oper} {a : Act} {Q' : Exit → Act → World → Prop} {Kc : Act → World → Prop} {W : World} {base : Nat} {v : Value} {rest p : List Int} {A : Option Addr} {c : Nat} (hw : Region.wanted o (yielded ops a.tmps) = true) (s x : Operand)
    (ho : o.op = .call { callee := .builtin .append, args := #[s, x], argTypes := #[32, 32] }) (hs : a.eval s = v) (hx : a.eval x = .slice A p.length c)
    (hq : QRow W base 5 1 v rest.length (nums .u8 rest)) (hp : Bytes W A p) (hb : rest.length + p.length ≤ 2000000) (hbase : base ≤ W.heap.size)
    (h : ∀ v1 w1, QRow w1 base 5 1 v1 (rest ++ p).length (nums .u8 (rest ++ p)) → W.grownBy w1 v.ownBlock → (v1.ownBlock = v.ownBlock ∨ ∃ b, v1.ownBlock = some b ∧ W.heap.size ≤ b) → Kc (a.put o.dst v1) w1) :
    if Region.wanted o (yielded ops a.tmps) = true then Oper.wp Tryd.prog o a W Kc Q' else Kc (a.put o.dst undef) W := by
  obtain ⟨v1, w1, hr, h1, h2, h3⟩ := app_any o.type hq hp hb hbase
  refine event_step hw (v := v1) (w1 := w1) ?_ (h v1 w1 h1 h2 h3)
  unfold execOp
  simp only [ho, resolve, invoke, builtin, Sem.run_bind, Sem.run_pure, Result.andThen_ok, List.map_toArray, List.map_cons, List.map_nil, hs, hx]
  erw [hr]
  rfl
/-- A text, as a value. -/
def Pk.val (p : Pk) : Value := .slice p.A p.b.length p.c
/-- A text is laid behind others. -/
theorem text_event {ops : Array Oper} {rest' : List Oper} {o : Oper} {a : Act} {Q' : Exit → Act → World → Prop} {W : World} {base gl : Nat} {v : Value} {ms : List Pk} {p : Pk} (hgd : o.guard = none) (s x : Operand)
    (ho : o.op = .call { callee := .builtin .append, args := #[s, x], argTypes := #[22, 22] }) (hs : a.eval s = v) (hx : a.eval x = .slice (some ⟨gl, 0, none⟩) 1 1)
    (hq : QRow W base 32 1 v ms.length (ms.map Pk.val)) (hb : W.heap[gl]? = some (.cells #[p.val] 32 (0, 0))) (hl : ms.length ≤ 100000) (hbase : base ≤ W.heap.size)
    (h : ∀ v1 w1, QRow w1 base 32 1 v1 (ms ++ [p]).length ((ms ++ [p]).map Pk.val) → W.grownBy w1 v.ownBlock → (v1.ownBlock = v.ownBlock ∨ ∃ b, v1.ownBlock = some b ∧ W.heap.size ≤ b) → wpList Tryd.prog ops Q' rest' (a.put o.dst v1) w1) :
    wpList Tryd.prog ops Q' (o :: rest') a W := by
  obtain ⟨i0, hi, hzz⟩ := Option.map_eq_some_iff.1 infoTx
  simp only [Prod.mk.injEq] at hzz
  obtain ⟨hz0, hz1, hz2⟩ := hzz
  obtain ⟨v1, w1, hr, h1, h2, h3⟩ := q_append (P := Tryd.prog) W base 22 o.type 32 i0 (.slice none 0 0) 1 24 Tryd.underlying22 hi hz0 hz1 hz2 rfl (by omega) v ms.length (ms.map Pk.val) hq ⟨gl, 0, none⟩ 1 1 [p.val] rfl (fun j u hu => by
      rw [add_at, blk_cell hb, Nat.zero_add]; rw [← hu]; cases j <;> rfl) (by intro u hu; rw [List.mem_singleton.1 hu]; rfl) (by omega) (by simp only [maxLen]; omega) (by omega) hbase
  refine wpList_plain hgd fun K hK => ?_
  unfold Oper.wp execOp
  simp only [ho, resolve, invoke, builtin, Sem.run_bind, Sem.run_pure, Result.andThen_ok, List.map_toArray, List.map_cons, List.map_nil, hs, hx]
  erw [hr]
  exact hK _ _ (h v1 w1 (by rw [List.length_append, List.map_append]; exact h1) h2 h3)
end Go.Proofs.YtafjegfmmnjpfaaDoor.LineT

/- Proved: (*hash.Sum).Add adds parts; conditions: the theorems' own premises. -/
import Derived.Test.YtlniejfbkcgneaaHText
import Derived.Deep.Upon
namespace Go.Proofs.Ytlniejfbkcgneaa.HashT
open Go.RowKit Go.Proofs.Ytlniejfbkcgneaa.YHash Go.Proofs.YtlniejfbkcgneaaW.PrintWords Go.Proofs.YtlniejfbkcgneaaW.PrintLast Go.Proofs.YtlniejfbkcgneaaW.PrintMore
set_option linter.unusedVariables false
set_option linter.unusedSimpArgs false
/-- The walk stands here. -/
structure Stop (p : Prop) : Prop where
  out : p
theorem stop_here {p : Prop} (h : Stop p) : p := h.out
/-- A slice of bytes that is read. -/
def Bytes (w : World) (A : Option Addr) (p : List Int) : Prop := 0 < p.length → ∃ ad, A = some ad ∧ ∀ j u, (nums .u8 p)[j]? = some u → w.cell? (ad.add j) = some u
/-- What was there stays there, but for the blocks of S. -/
structure Frame (w w' : World) (S : Nat → Prop) : Prop where
  os : w'.os = w.os
  tape : w'.tape = w.tape
  output : w'.output = w.output
  size : w.heap.size ≤ w'.heap.size
  block : ∀ k, k < w.heap.size → ¬ S k → w'.heap[k]? = w.heap[k]?
theorem Frame.refl (w : World) (S : Nat → Prop) : Frame w w S := ⟨rfl, rfl, rfl, Nat.le_refl _, fun _ _ _ => rfl⟩
theorem Frame.of_grown {w w1 : World} {row : Option Nat} (h : w.grownBy w1 row) : Frame w w1 (fun k => some k = row) := ⟨h.os, h.tape, h.output, h.size, fun k hk hn => h.block k hk hn⟩
theorem Frame.of_below {w w1 : World} (h : Below w.heap.size w w1) : Frame w w1 (fun _ => False) := ⟨h.os, h.tape, h.output, h.size, fun k hk _ => h.block k hk⟩
theorem Frame.of_set (w : World) (g i : Nat) (u : Value) : Frame w (w.setCell ⟨g, i, none⟩ u) (fun k => k = g) := ⟨rfl, rfl, rfl, by simp [World.setCell], fun k _ hn => Below.heap_setCell w ⟨g, i, none⟩ u k hn⟩
theorem Frame.of_drewN (w : World) (n : Nat) (S : Nat → Prop) : Frame w (w.drewN n) S := ⟨rfl, rfl, rfl, Nat.le_refl _, fun _ _ _ => rfl⟩
theorem Frame.trans {w w1 w2 : World} {S S' : Nat → Prop} (h : Frame w w1 S) (k : Frame w1 w2 S') (hs : ∀ i, S' i → S i ∨ w.heap.size ≤ i) : Frame w w2 S :=
  ⟨k.os.trans h.os, k.tape.trans h.tape, k.output.trans h.output, Nat.le_trans h.size k.size, fun i hi hn => (k.block i (Nat.lt_of_lt_of_le hi h.size) (fun hk => by rcases hs i hk with h1 | h1; exact hn h1; omega)).trans (h.block i hi hn)⟩
theorem Frame.cell {w w1 : World} {S : Nat → Prop} (h : Frame w w1 S) {a : Addr} {u : Value} (hc : w.cell? a = some u) (hn : ¬ S a.block) : w1.cell? a = some u := by
  have hl := World.block_lt_of_cell? w a hc
  have := h.block a.block hl hn
  simpa [World.cell?, this] using hc
theorem Frame.blk {w w1 : World} {S : Nat → Prop} (h : Frame w w1 S) {k : Nat} {o : Obj} (hc : w.heap[k]? = some o) (hn : ¬ S k) : w1.heap[k]? = some o := (h.block k (blk_lt hc) hn).trans hc
theorem Frame.below {w w1 : World} {S : Nat → Prop} (h : Frame w w1 S) (hs : ∀ k, S k → w.heap.size ≤ k) : Below w.heap.size w w1 := ⟨h.os, h.tape, h.output, h.size, fun k hk => h.block k hk (fun hn => by have := hs k hn; omega)⟩
theorem first_none (W : World) (size : Nat) (A : Option Addr) (c : Nat) : (Builtin.firstCells size 0 (.slice A ([] : List Int).length c)).run Try.prog W = .ok [].toArray W := by
  cases A with
  | none => exact run_firstCells_none W size 0 0 c
  | some a => exact run_firstCells_some W size 0 a 0 c [] (by simp) (fun _ _ h => by simp at h)
theorem app_any {W : World} {base : Nat} {v : Value} {rest p : List Int} {A : Option Addr} {c : Nat} (ty : TypeId) (hq : QRow W base 5 1 v rest.length (nums .u8 rest)) (hp : Bytes W A p) (hb : rest.length + p.length ≤ 2000000) (hbase : base ≤ W.heap.size) :
    ∃ v' w', (Builtin.append_ #[22, 22] ty #[v, .slice A p.length c]).run Try.prog W = .ok v' w' ∧ QRow w' base 5 1 v' (rest ++ p).length (nums .u8 (rest ++ p)) ∧ W.grownBy w' v.ownBlock ∧ (v'.ownBlock = v.ownBlock ∨ ∃ b, v'.ownBlock = some b ∧ W.heap.size ≤ b) := by
  obtain ⟨i0, hi, hzz⟩ := Option.map_eq_some_iff.1 info5
  simp only [Prod.mk.injEq] at hzz
  obtain ⟨hz0, hz1, hz2⟩ := hzz
  by_cases h0 : p.length = 0
  · obtain rfl : p = [] := List.eq_nil_of_length_eq_zero h0
    obtain ⟨A0, c0, hv, hle⟩ := q_slice hq
    subst hv
    refine ⟨_, W, run_append_nothing (P := Try.prog) W 22 22 ty 5 i0 Try.underlying22 hi A0 rest.length c0 hle _ ?_, by rw [List.append_nil]; exact hq, World.grownBy.refl _ _, .inl rfl⟩
    exact ⟨.inl ⟨5, Try.underlying22⟩, fun _ => rfl, first_none W _ A c, first_none W.drew _ A c, by simp, fun _ h => by cases h⟩
  · obtain ⟨ad, rfl, hr⟩ := hp (by omega)
    have h := q_append (P := Try.prog) W base 22 ty 5 i0 (.int .u8 0) 1 1 Try.underlying22 hi hz0 hz1 hz2 rfl (by omega) v rest.length (nums .u8 rest) hq ad p.length c (nums .u8 p) (by simp [nums]) hr (by intro u hu; obtain ⟨x, _, rfl⟩ := List.mem_map.1 hu; rfl) (by omega) (by simp only [maxLen]; omega) (by omega) hbase
    obtain ⟨v', w', h1, h2, h3, h4⟩ := h
    exact ⟨v', w', h1, by rw [List.length_append]; unfold nums at h2 ⊢; rw [List.map_append]; exact h2, h3, h4⟩
theorem append_event {ops : Array Oper} {rest' : List Oper} {o : Oper} {a : Act} {Q' : Exit → Act → World → Prop} {W : World} {base : Nat} {v : Value} {rest p : List Int} {A : Option Addr} {c : Nat} (hgd : o.guard = none) (s x : Operand)
    (ho : o.op = .call { callee := .builtin .append, args := #[s, x], argTypes := #[22, 22] }) (hs : a.eval s = v) (hx : a.eval x = .slice A p.length c)
    (hq : QRow W base 5 1 v rest.length (nums .u8 rest)) (hp : Bytes W A p) (hb : rest.length + p.length ≤ 2000000) (hbase : base ≤ W.heap.size)
    (h : ∀ v1 w1, QRow w1 base 5 1 v1 (rest ++ p).length (nums .u8 (rest ++ p)) → W.grownBy w1 v.ownBlock → (v1.ownBlock = v.ownBlock ∨ ∃ b, v1.ownBlock = some b ∧ W.heap.size ≤ b) → wpList Try.prog ops Q' rest' (a.put o.dst v1) w1) :
    wpList Try.prog ops Q' (o :: rest') a W := by
  obtain ⟨v1, w1, hr, h1, h2, h3⟩ := app_any o.type hq hp hb hbase
  refine wpList_plain hgd fun K hK => ?_
  unfold Oper.wp execOp
  simp only [ho, resolve, invoke, builtin, Sem.run_bind, Sem.run_pure, Result.andThen_ok, List.map_toArray, List.map_cons, List.map_nil, hs, hx]
  erw [hr]
  exact hK _ _ (h v1 w1 h1 h2 h3)
theorem sum_rest (h : List Int) (v : Value) (m : Int) (hh : h.length = 8) : (⟨sumCells h v m⟩ : Array Value)[8]? = some v := by
  match h, hh with
  | [a, b, c, d, e, f, g, i], _ => rfl
theorem sum_n (h : List Int) (v : Value) (m : Int) (hh : h.length = 8) : (⟨sumCells h v m⟩ : Array Value)[9]? = some (.int .u64 m) := by
  match h, hh with
  | [a, b, c, d, e, f, g, i], _ => rfl
theorem sum_set_rest (h : List Int) (v v' : Value) (m : Int) (hh : h.length = 8) : (⟨sumCells h v m⟩ : Array Value).setIfInBounds 8 v' = ⟨sumCells h v' m⟩ := by
  match h, hh with
  | [a, b, c, d, e, f, g, i], _ => rfl
theorem sum_set_n (h : List Int) (v : Value) (m m' : Int) (hh : h.length = 8) : (⟨sumCells h v m⟩ : Array Value).setIfInBounds 9 (.int .u64 m') = ⟨sumCells h v m'⟩ := by
  match h, hh with
  | [a, b, c, d, e, f, g, i], _ => rfl
/-- A sum at block g: its words, what waits, its count; v: where what waits lies. -/
structure IsSum (w : World) (base g : Nat) (v : Value) (h rest : List Int) (n : Int) : Prop where
  blk : w.heap[g]? = some (.cells ⟨sumCells h v n⟩ 46 (0, 0))
  row : QRow w base 5 1 v rest.length (nums .u8 rest)
  eight : h.length = 8
theorem IsSum.ne {w : World} {base g : Nat} {v : Value} {h rest : List Int} {n : Int} (hs : IsSum w base g v h rest n) : some g ≠ v.ownBlock := by
  intro he
  obtain ⟨_, cells, hc⟩ := q_typed hs.row g he.symm
  have := hs.blk.symm.trans hc
  simp at this
theorem IsSum.typed_ne {w : World} {base g t n m : Nat} {v : Value} {cells : Array Value} {xs : List Value} (hb : w.heap[g]? = some (.cells cells 46 (0, 0))) (hq : QRow w base 5 1 v n xs) : some g ≠ v.ownBlock := by
  intro he
  obtain ⟨_, cells', hc⟩ := q_typed hq g he.symm
  have := hb.symm.trans hc
  simp at this
theorem IsSum.set_rest {w : World} {base g : Nat} {v v2 : Value} {h rest : List Int} {n : Int} (hb : w.heap[g]? = some (.cells ⟨sumCells h v n⟩ 46 (0, 0))) (hq : QRow w base 5 1 v2 rest.length (nums .u8 rest)) (h8 : h.length = 8) : IsSum (w.setCell ⟨g, 8, none⟩ v2) base g v2 h rest n := by
  have hne : some g ≠ v2.ownBlock := IsSum.typed_ne (t := 0) (m := 0) hb hq
  refine ⟨(blk_set hb 8 v2).trans (by rw [sum_set_rest _ _ _ _ h8]), q_move hq (fun k hk => Below.heap_setCell w ⟨g, 8, none⟩ v2 k (fun e => hne ?_)), h8⟩
  rw [hk]
  exact congrArg some (show g = k from e.symm)
theorem Bytes.frame {w w1 : World} {A : Option Addr} {p : List Int} {S : Nat → Prop} (h : Bytes w A p) (hf : Frame w w1 S) (hA : 0 < p.length → ∀ ad, A = some ad → ¬ S ad.block) : Bytes w1 A p := by
  intro hp
  obtain ⟨ad, rfl, hr⟩ := h hp
  refine ⟨ad, rfl, fun j u hu => hf.cell (hr j u hu) ?_⟩
  have := hA hp ad rfl
  unfold Addr.add
  split <;> exact this
theorem append_sum_event {ops : Array Oper} {rest' : List Oper} {o : Oper} {a : Act} {Q' : Exit → Act → World → Prop} {W : World} {base g : Nat} {h rest p : List Int} {m : Int} {A A1 : Option Addr} {c c1 : Nat} (hgd : o.guard = none) (s x : Operand)
    (ho : o.op = .call { callee := .builtin .append, args := #[s, x], argTypes := #[22, 22] }) (hs : a.eval s = .slice A1 rest.length c1) (hx : a.eval x = .slice A p.length c)
    (hI : IsSum W base g (.slice A1 rest.length c1) h rest m) (hp : Bytes W A p) (hb : rest.length + p.length ≤ 2000000) (hbase : base ≤ W.heap.size)
    (hK : ∀ A2 c2 w2, w2.cell? ⟨g, 8, none⟩ = some (.slice A1 rest.length c1) → w2.frozen? ⟨g, 8, none⟩ = false →
      IsSum (w2.setCell ⟨g, 8, none⟩ (.slice A2 (rest ++ p).length c2)) base g (.slice A2 (rest ++ p).length c2) h (rest ++ p) m →
      Frame W w2 (fun k => k = g ∨ some k = (Value.slice A1 rest.length c1).ownBlock) → ((Value.slice A2 (rest ++ p).length c2).ownBlock = (Value.slice A1 rest.length c1).ownBlock ∨ ∃ k, (Value.slice A2 (rest ++ p).length c2).ownBlock = some k ∧ W.heap.size ≤ k) →
      wpList Try.prog ops Q' rest' (a.put o.dst (.slice A2 (rest ++ p).length c2)) w2) :
    wpList Try.prog ops Q' (o :: rest') a W := by
  have hne := hI.ne
  refine append_event (base := base) hgd s x ho hs hx hI.row hp hb hbase ?_
  intro v1 w1 hq hg hat
  obtain ⟨A2, c2, rfl, hle⟩ := q_slice hq
  have hB : w1.heap[g]? = some (.cells ⟨sumCells h (.slice A1 rest.length c1) m⟩ 46 (0, 0)) := blk_grown hI.blk hg hne
  exact hK A2 c2 w1 ((blk_cell hB 8).trans (sum_rest _ _ _ hI.eight)) (blk_frozen hB 8) (IsSum.set_rest hB hq hI.eight) ((Frame.refl W _).trans (Frame.of_grown hg) (fun k hk => .inl (.inr hk))) hat
theorem IsSum.set_n {w : World} {base g : Nat} {v : Value} {h rest : List Int} {n : Int} (hs : IsSum w base g v h rest n) (m : Int) : IsSum (w.setCell ⟨g, 9, none⟩ (.int .u64 m)) base g v h rest m := by
  have hne := hs.ne
  refine ⟨(blk_set hs.blk 9 _).trans (by rw [sum_set_n _ _ _ _ hs.eight]), q_move hs.row (fun k hk => Below.heap_setCell w ⟨g, 9, none⟩ _ k (fun e => hne ?_)), hs.eight⟩
  rw [hk]
  exact congrArg some (show g = k from e.symm)
theorem IsSum.block {w w1 : World} {base g : Nat} {v : Value} {h h2 rest : List Int} {n : Int} (hs : IsSum w base g v h rest n) (hb : w1.heap[g]? = some (.cells ⟨sumCells h2 v n⟩ 46 (0, 0))) (h8 : h2.length = 8) (hg : w.grownBy w1 (some g)) : IsSum w1 base g v h2 rest n := by
  have hne := hs.ne
  refine ⟨hb, q_move hs.row (fun k hk => hg.block k (q_lt hs.row k hk) (fun e => hne ?_)), h8⟩
  rw [hk]; exact e.symm
theorem IsSum.byte {w : World} {base g b o c : Nat} {h rest : List Int} {n : Int} (hs : IsSum w base g (.slice (some ⟨b, o, none⟩) rest.length c) h rest n) (i : Nat) (hi : i < rest.length) : w.cell? ⟨b, o + i, none⟩ = some (.int .u8 (rd rest (i : Int))) := by
  obtain ⟨ad, ha, hc⟩ := q_cells hs.row (by omega)
  injection ha with ha
  subst ha
  have := hc i (.int .u8 (rd rest (i : Int))) (by
    unfold nums rd
    rw [List.getElem?_map, List.getElem?_eq_getElem hi, Int.toNat_natCast, List.getD_eq_getElem?_getD, List.getElem?_eq_getElem hi]; rfl)
  rwa [add_at] at this
theorem Bytes.none_ {w : World} {p : List Int} (h : p.length = 0) (A : Option Addr) : Bytes w A p := fun h0 => by omega
/-- The blocks that a sum's own memory lies in. -/
def Foot (g : Nat) (r : Option Nat) (k : Nat) : Prop := k = g ∨ some k = r
/-- A sum at block g, to which the text T was added; r: the block in which what waits lies. -/
structure SumAt (w : World) (base g : Nat) (r : Option Nat) (T : List Int) : Prop where
  is : ∃ v, v.ownBlock = r ∧ IsSum w base g v (full T).1 (full T).2 (T.length : Int)
/-- Parts, as they lie there: the slices one by one, and their bytes; S: blocks that they do not lie in. -/
def PartsAt (w : World) (A : Option Addr) (ps : List (List Int)) (S : Nat → Prop) : Prop :=
  0 < ps.length → ∃ b o, A = some ⟨b, o, none⟩ ∧ ¬ S b ∧ ∀ i (hi : i < ps.length), ∃ A' c, w.cell? ⟨b, o + i, none⟩ = some (.slice A' (ps[i]).length c) ∧ Bytes w A' (ps[i]) ∧ (0 < (ps[i]).length → ∀ ad, A' = some ad → ¬ S ad.block)
end Go.Proofs.Ytlniejfbkcgneaa.HashT

/- Proved: words for walks: frames, rows, boxes; conditions: the theorems' own premises. -/
import Derived.Test.YtafjegfmmnjpfaaDoorYLinex3
import Derived.Deep.MidRow
namespace Go.Proofs.YtafjegfmmnjpfaaDoor.LineT
open Go.RowKit Go.Proofs.YtafjegfmmnjpfaaDoor.YLine Go.Proofs.YtafjegfmmnjpfaaDoorW.PrintWords Go.Proofs.YtafjegfmmnjpfaaDoorW.PrintLast Go.Proofs.YtafjegfmmnjpfaaDoorW.PrintMore
set_option linter.unusedVariables false
set_option linter.unusedSimpArgs false
structure Stop (p : Prop) : Prop where
  out : p
theorem stop_here {p : Prop} (h : Stop p) : p := h.out
def Bytes (w : World) (A : Option Addr) (p : List Int) : Prop := 0 < p.length → ∃ ad, A = some ad ∧ ∀ j u, (nums .u8 p)[j]? = some u → w.cell? (ad.add j) = some u
structure Frame (w w' : World) (S : Nat → Prop) : Prop where
  os : w'.os = w.os
  tape : w'.tape = w.tape
  output : w'.output = w.output
  size : w.heap.size ≤ w'.heap.size
  block : ∀ k, k < w.heap.size → ¬ S k → w'.heap[k]? = w.heap[k]?
theorem Frame.refl (w : World) (S : Nat → Prop) : Frame w w S := ⟨rfl, rfl, rfl, Nat.le_refl _, fun _ _ _ => rfl⟩
theorem Frame.of_grown {w w1 : World} {row : Option Nat} (h : w.grownBy w1 row) : Frame w w1 (fun k => some k = row) := ⟨h.os, h.tape, h.output, h.size, fun k hk hn => h.block k hk hn⟩
theorem Frame.of_below {w w1 : World} (h : Below w.heap.size w w1) : Frame w w1 (fun _ => False) := ⟨h.os, h.tape, h.output, h.size, fun k hk _ => h.block k hk⟩
theorem Frame.of_set (w : World) (g i : Nat) (u : Value) : Frame w (w.setCell ⟨g, i, none⟩ u) (fun k => k = g) := ⟨rfl, rfl, rfl, by simp [World.setCell], fun k _ hn => Below.heap_setCell w ⟨g, i, none⟩ u k hn⟩
theorem Frame.of_drewN (w : World) (n : Nat) (S : Nat → Prop) : Frame w (w.drewN n) S := ⟨rfl, rfl, rfl, Nat.le_refl _, fun _ _ _ => rfl⟩
theorem Frame.trans {w w1 w2 : World} {S S' : Nat → Prop} (h : Frame w w1 S) (k : Frame w1 w2 S') (hs : ∀ i, S' i → S i ∨ w.heap.size ≤ i) : Frame w w2 S :=
  ⟨k.os.trans h.os, k.tape.trans h.tape, k.output.trans h.output, Nat.le_trans h.size k.size, fun i hi hn => (k.block i (Nat.lt_of_lt_of_le hi h.size) (fun hk => by rcases hs i hk with h1 | h1; exact hn h1; omega)).trans (h.block i hi hn)⟩
theorem Frame.cell {w w1 : World} {S : Nat → Prop} (h : Frame w w1 S) {a : Addr} {u : Value} (hc : w.cell? a = some u) (hn : ¬ S a.block) : w1.cell? a = some u := by
  have hl := World.block_lt_of_cell? w a hc
  have := h.block a.block hl hn
  simpa [World.cell?, this] using hc
theorem Frame.blk {w w1 : World} {S : Nat → Prop} (h : Frame w w1 S) {k : Nat} {o : Obj} (hc : w.heap[k]? = some o) (hn : ¬ S k) : w1.heap[k]? = some o := (h.block k (blk_lt hc) hn).trans hc
theorem Frame.below {w w1 : World} {S : Nat → Prop} (h : Frame w w1 S) (hs : ∀ k, S k → w.heap.size ≤ k) : Below w.heap.size w w1 := ⟨h.os, h.tape, h.output, h.size, fun k hk => h.block k hk (fun hn => by have := hs k hn; omega)⟩
theorem Bytes.frame {w w1 : World} {A : Option Addr} {p : List Int} {S : Nat → Prop} (h : Bytes w A p) (hf : Frame w w1 S) (hA : 0 < p.length → ∀ ad, A = some ad → ¬ S ad.block) : Bytes w1 A p := by
  intro hp
  obtain ⟨ad, rfl, hr⟩ := h hp
  refine ⟨ad, rfl, fun j u hu => hf.cell (hr j u hu) ?_⟩
  have := hA hp ad rfl
  unfold Addr.add
  split <;> exact this
theorem Bytes.lt {w : World} {A : Option Addr} {p : List Int} (h : Bytes w A p) (hp : 0 < p.length) : ∀ ad, A = some ad → ad.block < w.heap.size := by
  intro ad e
  obtain ⟨ad', e', hc⟩ := h hp
  rw [e] at e'
  injection e' with e'
  subst e'
  have hn : (nums .u8 p)[0]? = some ((nums .u8 p)[0]'(by unfold nums; rw [List.length_map]; exact hp)) := List.getElem?_eq_getElem _
  have := World.block_lt_of_cell? w _ (hc 0 _ hn)
  unfold Addr.add at this
  split at this <;> exact this
theorem Bytes.below {w w1 : World} {A : Option Addr} {p : List Int} (h : Bytes w A p) (hb : Below w.heap.size w w1) : Bytes w1 A p := h.frame (Frame.of_below hb) (fun _ _ _ h => h)
theorem Frame.of_grown_at {w w1 : World} {g off n c : Nat} (h : w.grownBy w1 (Value.slice (some ⟨g, off, none⟩) n c).ownBlock) : Frame w w1 (fun k => k = g) := ⟨h.os, h.tape, h.output, h.size, fun k hk hn => h.block k hk (fun e => hn (Option.some.inj e))⟩
theorem qi_keep {w w1 : World} {base n e size : Nat} {v : Value} {xs : List Value} {S : Nat → Prop} (hq : QRow w base e size v n xs) (hf : Frame w w1 S) (h : ∀ k, v.ownBlock = some k → ¬ S k) : QRow w1 base e size v n xs :=
  q_move hq (fun k hk => hf.block k (q_lt hq k hk) (h k hk))
theorem qi_below {w w1 : World} {base n e size : Nat} {v : Value} {xs : List Value} (hq : QRow w base e size v n xs) (hb : Below w.heap.size w w1) : QRow w1 base e size v n xs := qi_keep hq (Frame.of_below hb) (fun _ _ h => h)
theorem below_frame {B : Nat} {w w1 w2 : World} {S : Nat → Prop} (h : Below B w w1) (hf : Frame w1 w2 S) (hB : B ≤ w1.heap.size) (hs : ∀ k, S k → B ≤ k) : Below B w w2 :=
  ⟨hf.os.trans h.os, hf.tape.trans h.tape, hf.output.trans h.output, Nat.le_trans h.size hf.size, fun k hk => (hf.block k (by omega) (fun h1 => by have := hs k h1; omega)).trans (h.block k hk)⟩
theorem reads_bytes {w : World} {A : Option Addr} {l : List Int} (h : Bytes w A l) (hl : l.length ≤ 9223372036854775807) : Kd.C (Kd.int .u8) w A l.length l := by
  refine Kd.C_of_reads (d := (0 : Int)) ⟨rfl, hl, fun hn => ?_⟩
  obtain ⟨ad, e, hc⟩ := h hn
  refine ⟨ad, e, fun j hj => hc j _ ?_⟩
  unfold nums
  rw [List.getElem?_map, List.getElem?_eq_getElem hj, List.getD_eq_getElem?_getD, List.getElem?_eq_getElem hj]; rfl
theorem own_bytes {w : World} {base : Nat} {ok : Nat → Prop} {v : Value} {l : List Int} (h : Kd.R (Kd.int .u8) 5 w base ok v l) : QRow w base 5 1 v l.length (nums .u8 l) := q_of_own (Kd.own_of_R h)
theorem made_step {ops : Array Oper} {o : Oper} {a : Act} {Q' : Exit → Act → World → Prop} {Kc : Act → World → Prop} {W : World} (cs : Array Value) (ty : TypeId) (n : Nat) (hw : Region.wanted o (yielded ops a.tmps) = true)
    (hrun : (execOp a.eval o).run Tryd.prog W = .ok (.value (.slice (some ⟨W.heap.size, 0, none⟩) n n)) (W.alloc (.cells cs ty (0, 0))))
    (h : ∀ g, g = W.heap.size → ∀ w1, w1.heap[g]? = some (.cells cs ty (0, 0)) → Below W.heap.size W w1 → Kc (a.put o.dst (.slice (some ⟨g, 0, none⟩) n n)) w1) :
    if Region.wanted o (yielded ops a.tmps) = true then Oper.wp Tryd.prog o a W Kc Q' else Kc (a.put o.dst undef) W :=
  event_step hw hrun (h _ rfl _ (blk_new W _) (below_alloc (Below.refl _ _) _))
theorem row_range {w : World} {m ty : Nat} {cs : List Value} (h : w.heap[m]? = some (.cells ⟨cs⟩ ty (0, 0))) : w.rangeAt m 0 cs := by
  intro j v hj
  rw [Nat.zero_add, blk_cell h, List.getElem?_toArray]; exact hj
theorem load_mid_run {op : Oper} {a : Act} {w : World} (ty : TypeId) (x : Operand) (ho : op.op = .load ty x) (b o : Nat) (hx : a.eval x = .pointer (some ⟨b, o, none⟩)) (cs : List Value) (d : TypeDesc) (hc : w.rangeAt b o cs)
    (hu : Tryd.prog.underlying ty = some d) (hd : d.isRow = true) (hi : (Tryd.prog.info? ty).map (·.size) = some cs.length) : (execOp a.eval op).run Tryd.prog w = .ok (.value (.agg cs.toArray)) w := by
  unfold execOp
  simp only [ho, hx, Instr.loadAt, Instr.sureAddr, Sem.run_bind, Sem.run_pure, Result.andThen_ok, run_loadVar_mid w b o ty cs d hc hu hd hi]
theorem made_event {ops : Array Oper} {rest : List Oper} {o : Oper} {a : Act} {Q' : Exit → Act → World → Prop} {W : World} (hgd : o.guard = none) (cs : Array Value) (ty : TypeId) (n : Nat)
    (hrun : (execOp a.eval o).run Tryd.prog W = .ok (.value (.slice (some ⟨W.heap.size, 0, none⟩) n n)) (W.alloc (.cells cs ty (0, 0))))
    (h : ∀ g, g = W.heap.size → ∀ w1, w1.heap[g]? = some (.cells cs ty (0, 0)) → Below W.heap.size W w1 → wpList Tryd.prog ops Q' rest (a.put o.dst (.slice (some ⟨g, 0, none⟩) n n)) w1) :
    wpList Tryd.prog ops Q' (o :: rest) a W :=
  Kd.event_run hgd hrun (h _ rfl _ (blk_new W _) (below_alloc (Below.refl _ _) _))
theorem row_at {w : World} {base e size n c : Nat} {A : Option Addr} {xs : List Value} (hq : QRow w base e size (.slice A n c) n xs) (hn : 0 < n) : ∃ gr off, A = some ⟨gr, off, none⟩ := by
  rcases hq.2 with ⟨h0, _⟩ | ⟨g, o, cap, cur, he, _⟩
  · omega
  · injection he with ha _ _
    exact ⟨_, _, ha⟩
theorem Frame.of_setCells (w : World) (g o : Nat) (vs : List Value) : Frame w (w.setCells g o vs) (fun k => k = g) := by
  obtain ⟨h1, h2, h3, h4⟩ := setCells_same g vs o w
  exact ⟨h1, h2, h3, Nat.le_of_eq h4.symm, fun k _ hn => setCells_far vs o k hn⟩
theorem box_put {w : World} {g : Nat} {cs : Array Value} {t : TypeId} (vs : List Value) (h : w.heap[g]? = some (.cells cs t (0, 0))) (hl : vs.length = cs.size) : (w.setCells g 0 vs).heap[g]? = some (.cells ⟨vs⟩ t (0, 0)) := by
  obtain ⟨cur', h1, h2, h3⟩ := setCells_row vs 0 w cs h (by omega)
  rw [h1, Nat.zero_add, hl, List.take_zero, List.nil_append, List.drop_of_length_le (by rw [Array.length_toList]; omega), List.append_nil] at *
  rw [← h3]
theorem box_there {w : World} {g : Nat} {cs : Array Value} {t : TypeId} (h : w.heap[g]? = some (.cells cs t (0, 0))) : w.there g 0 cs.size := fun j hj => by
  rw [Nat.zero_add]
  exact ⟨by rw [blk_cell h, Array.getElem?_eq_getElem hj]; rfl, blk_frozen h j⟩
theorem Frame.mono {w w1 : World} {S S' : Nat → Prop} (h : Frame w w1 S) (hs : ∀ k, S k → S' k) : Frame w w1 S' := ⟨h.os, h.tape, h.output, h.size, fun k hk hn => h.block k hk (fun h => hn (hs k h))⟩
theorem own_slice (A : Option Addr) (n c n' c' : Nat) : (Value.slice A n c).ownBlock = (Value.slice A n' c').ownBlock := by cases A <;> rfl
theorem own_chain2 {B C : Nat} {v v1 v2 : Value} (h : v1.ownBlock = v.ownBlock ∨ ∃ k, v1.ownBlock = some k ∧ B ≤ k) (h2 : v2.ownBlock = v1.ownBlock ∨ ∃ k, v2.ownBlock = some k ∧ C ≤ k) (hBC : B ≤ C) : v2.ownBlock = v.ownBlock ∨ ∃ k, v2.ownBlock = some k ∧ B ≤ k := by
  rcases h2 with h2 | ⟨q, h2, hq⟩
  · rw [h2]; exact h
  · exact .inr ⟨q, h2, Nat.le_trans hBC hq⟩
theorem tf {b : Bool} {p : Prop} (h : b = true) (k : b = false) : p := by rw [h] at k; cases k
theorem two_one (A B : Option Addr) (n c m d : Nat) : (#[Value.slice A n c, .slice B m d] : Array Value).all (·.oneCell') = true := by
  rw [List.all_toArray, List.all_eq_true]
  intro u hu
  simp only [List.mem_cons, List.not_mem_nil, or_false] at hu
  rcases hu with rfl | rfl <;> rfl
theorem spot_none {w : World} {a : Addr} {v : Value} (h : w.cell? a = some v) : ∃ b o, a = ⟨b, o, none⟩ := by
  rcases a with ⟨b, o, s⟩
  cases s with
  | none => exact ⟨b, o, rfl⟩
  | some s =>
    unfold World.cell? at h
    split at h
    · simp at h
    · cases h
theorem row_cell1 {w : World} {base gr off n c : Nat} {e : TypeId} {xs : List Value} (hq : QRow w base e 1 (.slice (some ⟨gr, off, none⟩) n c) n xs) (p : Nat) (hp : p < n) (u : Value) :
    QRow (w.setCell ⟨gr, off + p, none⟩ u) base e 1 (.slice (some ⟨gr, off, none⟩) n c) n (xs.set p u) := by
  obtain ⟨hl, h⟩ := hq
  refine ⟨by rw [List.length_set]; exact hl, ?_⟩
  rcases h with ⟨h0, _⟩ | ⟨g, o, cap, cur, he, hg, hh, hnc, hm, hcs, ht⟩
  · omega
  · injection he with ha _ hc
    injection ha with ha
    injection ha with ha1 ha2 _
    subst ha1
    subst ha2
    subst hc
    refine .inr ⟨gr, o, c, _, rfl, hg, blk_set hh (o * 1 + p) u, hnc, hm, by rw [Array.size_setIfInBounds]; exact hcs, ?_⟩
    rw [Array.toList_setIfInBounds, List.drop_set, if_neg (by omega), List.take_set, ht, Nat.add_sub_cancel_left]
theorem bytes_of_row {w : World} {B : Nat} {ok : Nat → Prop} {v : Value} {l : List Int} (h : Kd.R (Kd.int .u8) 5 w B ok v l) : ∃ A c, v = .slice A l.length c ∧ l.length ≤ c ∧ Bytes w A l ∧ (∀ ad, A = some ad → B ≤ ad.block ∧ ∃ cells, w.heap[ad.block]? = some (.cells cells 5 (0, 0))) := by
  have hq := own_bytes h
  obtain ⟨A, c, rfl, hc⟩ := q_slice hq
  exact ⟨A, c, rfl, hc, fun hp => q_cells hq hp, fun ad e => by
    subst e
    exact q_typed hq ad.block rfl⟩
theorem range_keep {w w1 : World} {g o : Nat} {cs : List Value} {S : Nat → Prop} (h : w.rangeAt g o cs) (hf : Frame w w1 S) (hn : ¬ S g) : w1.rangeAt g o cs := fun j u hj => hf.cell (h j u hj) hn
theorem bytesC {w : World} {A : Option Addr} {l : List Int} (h : Kd.C (Kd.int .u8) w A l.length l) : Bytes w A l := by
  intro hp
  obtain ⟨ad, e, _⟩ := Kd.at_int h 0 (by omega) (by omega)
  refine ⟨ad, e, fun j u hu => ?_⟩
  unfold nums at hu
  rw [List.getElem?_map] at hu
  have hj : j < l.length := by
    by_cases hj : j < l.length
    · exact hj
    · rw [List.getElem?_eq_none (by omega)] at hu; cases hu
  obtain ⟨ad', e', hc⟩ := Kd.at_int h (j : Int) (by omega) (by omega)
  rw [e] at e'
  injection e' with e'
  subst e'
  rw [List.getElem?_eq_getElem hj] at hu
  injection hu with hu
  rw [Int.toNat_natCast] at hc
  rw [hc, ← hu]
  unfold rd
  rw [Int.toNat_natCast, List.getD_eq_getElem?_getD, List.getElem?_eq_getElem hj]
  rfl
theorem lit_bytes {w : World} {g : Nat} {l : List Int} (h : w.heap[g]? = some (.cells ⟨nums .u8 l⟩ 5 (0, 0))) : Bytes w (some ⟨g, 0, none⟩) l := by
  intro hp
  refine ⟨_, rfl, fun j u hu => ?_⟩
  rw [add_at, Nat.zero_add, blk_cell h, List.getElem?_toArray]
  exact hu
theorem row_bytes {w : World} {a : Option Addr} {len cap : Nat} {zs : List Int} (h : (a = none ∧ len = 0 ∧ cap = 0 ∧ zs = []) ∨ ∃ x, a = some x ∧ len ≤ cap ∧ cap ≤ maxLen ∧ zs.length = cap ∧ (∀ i, i < zs.length → w.cell? (x.add i) = some (.int .u8 (zs.getD i 0))) ∧ ∀ n ∈ zs, (Lit.int .u8 n).wf = true) :
    ∃ l : List Int, l.length = len ∧ Bytes w a l ∧ ∀ n ∈ l, 0 ≤ n ∧ n ≤ 255 := by
  rcases h with ⟨rfl, rfl, rfl, rfl⟩ | ⟨x, rfl, h1, h2, h3, h4, h5⟩
  · exact ⟨[], rfl, fun h => by simp at h, fun n hn => by cases hn⟩
  · refine ⟨zs.take len, by rw [List.length_take]; omega, fun _ => ⟨x, rfl, fun j u hu => ?_⟩, fun n hn => ?_⟩
    · unfold nums at hu
      rw [List.getElem?_map, List.getElem?_take] at hu
      by_cases hj : j < len
      · rw [if_pos hj, List.getElem?_eq_getElem (by omega)] at hu
        have hz := h4 j (by omega)
        rw [List.getD_eq_getElem?_getD, List.getElem?_eq_getElem (by omega)] at hz
        rw [hz]
        simpa using hu
      · rw [if_neg hj] at hu; simp at hu
    · have := h5 n (List.mem_of_mem_take hn)
      simp [Lit.wf, IntKind.min, IntKind.max, IntKind.signed, IntKind.bits] at this
      exact this
section
variable {P : Program} {ops : Array Oper} {Q : Exit → Act → World → Prop} {md : Region.Mode}
theorem ready_spec {l : Array Bool} {i : Nat} (h : i ∈ Region.ready md ops l) : i < ops.size ∧ l.getD i true = false ∧ ∀ o, ops[i]? = some o → ∀ k (h : k < o.after.size), Region.binds md (o.after[k]) = true → l.getD (o.after[k]).on false = true := by
  unfold Region.ready at h
  obtain ⟨h1, h2⟩ := List.mem_filter.1 h
  simp only [Bool.and_eq_true, Bool.not_eq_true'] at h2
  refine ⟨List.mem_range.1 h1, h2.1, fun o ho k hk hb => ?_⟩
  have h3 := h2.2
  rw [ho] at h3
  simp only [Option.map_some, Option.getD_some] at h3
  have h4 := (Array.all_eq_true_iff_forall_mem.1 h3) (o.after[k]) (Array.getElem_mem hk)
  simpa [hb] using h4
theorem ready_none {l : Array Bool} (h : ∀ i, i < ops.size → l.getD i true = true) : Region.ready md ops l = [] := by
  unfold Region.ready
  rw [List.filter_eq_nil_iff]
  intro i hi
  simp [h i (List.mem_range.1 hi)]
/-- Nothing is ready any more: all was done (each operation waits for earlier ones alone). -/
theorem ready_all {l : Array Bool} (hs : l.size = ops.size) (hd : ∀ i o, ops[i]? = some o → ∀ e ∈ o.after, Region.binds md e = true → e.on < i) (h : Region.ready md ops l = []) : ∀ i, i < ops.size → l.getD i false = true := by
  intro i
  induction i using Nat.strongRecOn with
  | ind i ih =>
    intro hi
    have ho : ops[i]? = some ops[i] := Array.getElem?_eq_getElem hi
    unfold Region.ready at h
    rw [List.filter_eq_nil_iff] at h
    have h1 := h i (List.mem_range.2 hi)
    rw [ho] at h1
    have h2 : (ops[i].after.all fun e => !Region.binds md e || l.getD e.on false) = true := by
      rw [Array.all_eq_true_iff_forall_mem]
      intro e he
      by_cases hb : Region.binds md e = true
      · have h3 := hd i _ ho e he hb
        simp [ih e.on h3 (by omega)]
      · simp [hb]
    simp only [Option.map_some, Option.getD_some, h2, Bool.and_true, Bool.not_eq_true', Bool.not_eq_false] at h1
    rw [Array.getD_eq_getD_getElem?] at h1 ⊢
    rw [Array.getElem?_eq_getElem (by omega)] at h1 ⊢
    exact h1
theorem getD_up {l : Array Bool} {i : Nat} (hi : i < l.size) (j : Nat) : (l.setIfInBounds i true).getD j false = if i = j then true else l.getD j false := by
  rw [Array.getD_eq_getD_getElem?, Array.getD_eq_getD_getElem?, Array.getElem?_setIfInBounds]
  split
  · simp [hi]
  · rfl
theorem wpOp_of {i : Nat} {o : Oper} {K : Act → World → Prop} {a : Act} {w : World} (ho : ops[i]? = some o) (h : if Region.wanted o (yielded ops a.tmps) = true then Oper.wp P o a w K Q else K (a.put o.dst undef) w) : wpOp P ops Q i K a w := by
  unfold wpOp
  rw [ho]
  by_cases hw : Region.wanted o (yielded ops a.tmps) = true
  · rw [if_pos hw] at h
    simp only [hw, if_true]
    exact .inl h
  · rw [if_neg hw] at h
    simp only [hw]
    exact h
theorem any_inv (G : Array Bool → Act → World → Prop) (hs : ∀ l a w, G l a w → l.size = ops.size)
    (hend : ∀ l a w, G l a w → Region.ready md ops l = [] → Q .normal a w)
    (hstep : ∀ l a w i, G l a w → i ∈ Region.ready md ops l → wpOp P ops Q i (G (l.setIfInBounds i true)) a w) :
    ∀ (n : Nat) (l : Array Bool) (a : Act) (w : World), l.toList.countP (· == false) ≤ n → G l a w → wpAny P md ops Q n l a w := by
  intro n
  induction n with
  | zero =>
    intro l a w hn hg
    have hr : Region.ready md ops l = [] := ready_none fun i hi => by
      have hz : l.toList.countP (· == false) = 0 := by omega
      rw [List.countP_eq_zero] at hz
      have hl := hs l a w hg
      have hi' : i < l.size := by omega
      have := hz l[i] (by simp)
      rw [Array.getD_eq_getD_getElem?, Array.getElem?_eq_getElem hi']
      simpa using this
    exact ⟨hr, hend l a w hg hr⟩
  | succ n ih =>
    intro l a w hn hg
    refine ⟨hend l a w hg, fun i hi => wpOp_mono (fun a' w' h => ih _ a' w' ?_ h) (hstep l a w i hg hi)⟩
    obtain ⟨h1, h2, _⟩ := ready_spec hi
    have hl := hs l a w hg
    have hi' : i < l.size := by omega
    have hf : l.toList[i]'(by simpa using hi') = false := by
      rw [Array.getD_eq_getD_getElem?, Array.getElem?_eq_getElem hi'] at h2
      simpa using h2
    rw [Array.toList_setIfInBounds, List.countP_set (by simpa using hi'), hf]
    have hp : 0 < l.toList.countP (· == false) := List.countP_pos_iff.2 ⟨false, by rw [← hf]; exact List.getElem_mem _, rfl⟩
    have e1 : ((false == false) = true) := rfl
    rw [if_pos e1, if_neg (by decide)]
    omega
theorem getD_tf {l : Array Bool} {i : Nat} (hi : i < l.size) (h : l.getD i true = false) : l.getD i false = false := by
  rw [Array.getD_eq_getD_getElem?, Array.getElem?_eq_getElem hi] at h ⊢
  exact h
/-- Each operation waits for earlier ones alone. -/
def depsB (md : Region.Mode) (ops : Array Oper) : Bool := (List.range ops.size).all fun i => match ops[i]? with
  | some o => o.after.all (fun e => !Region.binds md e || decide (e.on < i))
  | none => true
theorem deps_of (h : depsB md ops = true) : ∀ i o, ops[i]? = some o → ∀ e ∈ o.after, Region.binds md e = true → e.on < i := by
  intro i o ho e he hb
  have hi : i < ops.size := (Array.getElem?_eq_some_iff.1 ho).1
  have h2 := List.all_eq_true.1 h i (List.mem_range.2 hi)
  rw [ho] at h2
  have h3 := Array.all_eq_true_iff_forall_mem.1 h2 e he
  simpa [hb] using h3
/-- A region that draws its order, by an invariant. -/
theorem region_inv {id : Nat} {a : Act} {w : World} (hm : P.follows .mixedOrders = true) (G : Array Bool → Act → World → Prop) (hs : ∀ l a w, G l a w → l.size = ops.size)
    (hd : depsB .any ops = true)
    (hend : ∀ l a w, G l a w → (∀ i, i < ops.size → l.getD i false = true) → Q .normal a w)
    (hstep : ∀ l a w i, G l a w → i ∈ Region.ready .any ops l → wpOp P ops Q i (G (l.setIfInBounds i true)) a w)
    (h0 : G (Array.replicate ops.size false) a w.drew) : (Code.region id ops true).wp P Q a w := by
  refine wp_region_any hm (any_inv G hs (fun l a w hg hr => hend l a w hg (ready_all (hs l a w hg) (deps_of hd) hr)) hstep ops.size _ a _ ?_ h0)
  have := List.countP_le_length (p := (· == false)) (l := (Array.replicate ops.size false).toList)
  simpa using this
end
end Go.Proofs.YtafjegfmmnjpfaaDoor.LineT

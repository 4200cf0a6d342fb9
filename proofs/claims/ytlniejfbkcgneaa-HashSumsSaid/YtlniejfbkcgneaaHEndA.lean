/- Proved: words for (*hash.Sum).End; conditions: the theorems' own premises. -/
import Derived.Test.YtlniejfbkcgneaaHNew
namespace Go.Proofs.Ytlniejfbkcgneaa.HashT
open Go.RowKit Go.Proofs.Ytlniejfbkcgneaa.YHash Go.Proofs.YtlniejfbkcgneaaW.PrintWords Go.Proofs.YtlniejfbkcgneaaW.PrintLast Go.Proofs.YtlniejfbkcgneaaW.PrintMore
set_option linter.unusedVariables false
set_option linter.unusedSimpArgs false
theorem append_step {ops : Array Oper} {o : Oper} {a : Act} {Q' : Exit → Act → World → Prop} {Kc : Act → World → Prop} {W : World} {base : Nat} {v : Value} {rest p : List Int} {A : Option Addr} {c : Nat} (hw : Region.wanted o (yielded ops a.tmps) = true) (s x : Operand)
    (ho : o.op = .call { callee := .builtin .append, args := #[s, x], argTypes := #[22, 22] }) (hs : a.eval s = v) (hx : a.eval x = .slice A p.length c)
    (hq : QRow W base 5 1 v rest.length (nums .u8 rest)) (hp : Bytes W A p) (hb : rest.length + p.length ≤ 2000000) (hbase : base ≤ W.heap.size)
    (h : ∀ v1 w1, QRow w1 base 5 1 v1 (rest ++ p).length (nums .u8 (rest ++ p)) → W.grownBy w1 v.ownBlock → (v1.ownBlock = v.ownBlock ∨ ∃ b, v1.ownBlock = some b ∧ W.heap.size ≤ b) → Kc (a.put o.dst v1) w1) :
    if Region.wanted o (yielded ops a.tmps) = true then Oper.wp Try.prog o a W Kc Q' else Kc (a.put o.dst undef) W := by
  obtain ⟨v1, w1, hr, h1, h2, h3⟩ := app_any o.type hq hp hb hbase
  refine event_step hw (v := v1) (w1 := w1) ?_ (h v1 w1 h1 h2 h3)
  unfold execOp
  simp only [ho, resolve, invoke, builtin, Sem.run_bind, Sem.run_pure, Result.andThen_ok, List.map_toArray, List.map_cons, List.map_nil, hs, hx]
  erw [hr]
  rfl
theorem q_bytes {w : World} {base : Nat} {A : Option Addr} {c : Nat} {p : List Int} (h : QRow w base 5 1 (.slice A p.length c) p.length (nums .u8 p)) : Bytes w A p := fun hp => q_cells h hp
/-- A row that is made of some bytes. -/
theorem lit_row (W : World) (l : List Int) (base : Nat) (hb : base ≤ W.heap.size) (hl : l.length ≤ maxLen) : QRow (W.alloc (.cells (nums .u8 l).toArray 5 (0, 0))) base 5 1 (.slice (some ⟨W.heap.size, 0, none⟩) l.length l.length) l.length (nums .u8 l) := by
  have hn : (nums .u8 l).length = l.length := by unfold nums; rw [List.length_map]
  refine ⟨by rw [hn]; omega, .inr ⟨W.heap.size, 0, l.length, (nums .u8 l).toArray, by rw [Nat.zero_mul], hb, blk_new W _, Nat.le_refl _, by omega, by rw [List.size_toArray, hn]; omega, ?_⟩⟩
  rw [Nat.zero_mul, List.drop_zero, Nat.mul_one, ← hn]
  exact List.take_length
theorem empty_row {W : World} {g base : Nat} (hg : W.heap[g]? = some (.cells #[] 5 (0, 0))) (hb : base ≤ g) : QRow W base 5 1 (.slice (some ⟨g, 0, none⟩) 0 0) ([] : List Int).length (nums .u8 []) :=
  ⟨rfl, .inl ⟨rfl, some ⟨g, 0, none⟩, rfl, fun a ha => by injection ha with ha; subst ha; exact ⟨hb, _, hg⟩⟩⟩
theorem IsSum.keep {w w1 : World} {base g : Nat} {v : Value} {h rest : List Int} {n : Int} {S : Nat → Prop} (hs : IsSum w base g v h rest n) (hf : Frame w w1 S) (h1 : ¬ S g) (h2 : ∀ k, v.ownBlock = some k → ¬ S k) : IsSum w1 base g v h rest n :=
  ⟨hf.blk hs.blk h1, q_move hs.row (fun k hk => hf.block k (q_lt hs.row k hk) (h2 k hk)), hs.eight⟩
theorem SumAt.keep {w w1 : World} {base g : Nat} {r : Option Nat} {T : List Int} {S : Nat → Prop} (hs : SumAt w base g r T) (hf : Frame w w1 S) (h1 : ¬ S g) (h2 : ∀ k, r = some k → ¬ S k) : SumAt w1 base g r T := by
  obtain ⟨v, hv, h⟩ := hs.is
  exact ⟨v, hv, h.keep hf h1 (fun k hk => h2 k (hv.symm.trans hk))⟩
theorem q_keep {w w1 : World} {base n : Nat} {v : Value} {xs : List Value} {S : Nat → Prop} (hq : QRow w base 5 1 v n xs) (hf : Frame w w1 S) (h : ∀ k, v.ownBlock = some k → ¬ S k) : QRow w1 base 5 1 v n xs :=
  q_move hq (fun k hk => hf.block k (q_lt hq k hk) (h k hk))
theorem load_mid_run {op : Oper} {a : Act} {w : World} (ty : TypeId) (x : Operand) (ho : op.op = .load ty x) (b o : Nat) (hx : a.eval x = .pointer (some ⟨b, o, none⟩)) (cs : List Value) (d : TypeDesc) (hc : w.rangeAt b o cs)
    (hu : Try.prog.underlying ty = some d) (hd : d.isRow = true) (hi : (Try.prog.info? ty).map (·.size) = some cs.length) : (execOp a.eval op).run Try.prog w = .ok (.value (.agg cs.toArray)) w := by
  unfold execOp
  simp only [ho, hx, Instr.loadAt, Instr.sureAddr, Sem.run_bind, Sem.run_pure, Result.andThen_ok, run_loadVar_mid w b o ty cs d hc hu hd hi]
/-- A row of bytes is made of some. -/
theorem lit_run_row {w : World} {g base n : Nat} {l : List Int} (hg : w.heap[g]? = some (.cells (nums .u8 l).toArray 5 (0, 0))) (hb : base ≤ g) (hn : l.length = n) (hl : n ≤ 1000000) : QRow w base 5 1 (.slice (some ⟨g, 0, none⟩) n n) l.length (nums .u8 l) := by
  subst hn
  have hm : (nums .u8 l).length = l.length := by unfold nums; rw [List.length_map]
  refine ⟨by rw [hm]; omega, .inr ⟨g, 0, l.length, (nums .u8 l).toArray, by rw [Nat.zero_mul], hb, hg, Nat.le_refl _, by simp only [maxLen]; omega, by rw [List.size_toArray, hm]; omega, ?_⟩⟩
  rw [Nat.zero_mul, List.drop_zero, Nat.mul_one, ← hm]
  exact List.take_length
theorem lit_step {ops : Array Oper} {o : Oper} {a : Act} {Q' : Exit → Act → World → Prop} {Kc : Act → World → Prop} {W : World} (l : List Int) (n : Nat) (hw : Region.wanted o (yielded ops a.tmps) = true)
    (hrun : (execOp a.eval o).run Try.prog W = .ok (.value (.slice (some ⟨W.heap.size, 0, none⟩) n n)) (W.alloc (.cells (nums .u8 l).toArray 5 (0, 0))))
    (h : ∀ g, g = W.heap.size → ∀ w1, w1.heap[g]? = some (.cells (nums .u8 l).toArray 5 (0, 0)) → Below W.heap.size W w1 → Kc (a.put o.dst (.slice (some ⟨g, 0, none⟩) n n)) w1) :
    if Region.wanted o (yielded ops a.tmps) = true then Oper.wp Try.prog o a W Kc Q' else Kc (a.put o.dst undef) W :=
  event_step hw hrun (h _ rfl _ (blk_new W _) (below_alloc (Below.refl _ _) _))
theorem lit_event {ops : Array Oper} {rest : List Oper} {o : Oper} {a : Act} {Q' : Exit → Act → World → Prop} {W : World} (hgd : o.guard = none) (l : List Int) (n : Nat)
    (hrun : (execOp a.eval o).run Try.prog W = .ok (.value (.slice (some ⟨W.heap.size, 0, none⟩) n n)) (W.alloc (.cells (nums .u8 l).toArray 5 (0, 0))))
    (h : ∀ g, g = W.heap.size → ∀ w1, w1.heap[g]? = some (.cells (nums .u8 l).toArray 5 (0, 0)) → Below W.heap.size W w1 → wpList Try.prog ops Q' rest (a.put o.dst (.slice (some ⟨g, 0, none⟩) n n)) w1) :
    wpList Try.prog ops Q' (o :: rest) a W :=
  Kd.event_run hgd hrun (h _ rfl _ (blk_new W _) (below_alloc (Below.refl _ _) _))
theorem IsSum.below {w w1 : World} {base g : Nat} {v : Value} {h rest : List Int} {n : Int} (hs : IsSum w base g v h rest n) (hb : Below w.heap.size w w1) : IsSum w1 base g v h rest n := hs.keep (Frame.of_below hb) (fun h => h) (fun _ _ h => h)
theorem q_below {w w1 : World} {base n : Nat} {v : Value} {xs : List Value} (hq : QRow w base 5 1 v n xs) (hb : Below w.heap.size w w1) : QRow w1 base 5 1 v n xs := q_keep hq (Frame.of_below hb) (fun _ _ h => h)
theorem Frame.of_grown_at {w w1 : World} {g off n c : Nat} (h : w.grownBy w1 (Value.slice (some ⟨g, off, none⟩) n c).ownBlock) : Frame w w1 (fun k => k = g) := ⟨h.os, h.tape, h.output, h.size, fun k hk hn => h.block k hk (fun e => hn (Option.some.inj e))⟩
theorem Frame.of_alloc (w : World) (o : Obj) (S : Nat → Prop) : Frame w (w.alloc o) S := ⟨rfl, rfl, rfl, by simp, fun k hk _ => Below.heap_alloc w o k hk⟩
theorem Frame.of_row {w w1 : World} {g t : Nat} {cells : Array Value} (h : RowPut w w1 g cells t) (hs : w.heap.size ≤ w1.heap.size) (e : w1.os = w.os ∧ w1.tape = w.tape ∧ w1.output = w.output) (hb : ∀ k, k < w.heap.size → k ≠ g → w1.heap[k]? = w.heap[k]?) : Frame w w1 (fun k => k = g) := ⟨e.1, e.2.1, e.2.2, hs, hb⟩
theorem pad_test {q k n : Nat} (hq : q = n % 64) (hk : k ≤ 64) : ((wrap64 ((q : Int) + ((k : Int) + 1))).tmod 64 != 56) = decide ((n % 64 + (1 + k)) % 64 ≠ 56) := by
  have hw : wrap64 ((q : Int) + ((k : Int) + 1)) = ((n % 64 + (1 + k) : Nat) : Int) := by unfold wrap64; omega
  rw [hw, Int.tmod_eq_emod_of_nonneg (by omega)]
  have : (((n % 64 + (1 + k) : Nat) : Int) % 64) = (((n % 64 + (1 + k)) % 64 : Nat) : Int) := by omega
  rw [this]
  generalize (n % 64 + (1 + k)) % 64 = m
  by_cases h : m = 56
  · subst h; decide
  · have h1 : ((m : Int) != 56) = true := by simp; omega
    rw [h1]; simp [h]
theorem tail_more (k : Nat) : ((128 : Int) :: List.replicate k 0) ++ [0] = (128 : Int) :: List.replicate (k + 1) 0 := by
  rw [List.cons_append, List.replicate_succ']
theorem tail_len (k : Nat) : ((128 : Int) :: List.replicate k 0).length = k + 1 := by rw [List.length_cons, List.length_replicate]
theorem own_apart {v v1 u : Value} {B : Nat} (h : v1.ownBlock = v.ownBlock ∨ ∃ b, v1.ownBlock = some b ∧ B ≤ b) (h0 : ∀ k, v.ownBlock = some k → u.ownBlock ≠ some k) (hu : ∀ k, u.ownBlock = some k → k < B) : ∀ k, v1.ownBlock = some k → u.ownBlock ≠ some k := by
  intro k hk hk2
  rcases h with h | ⟨b, h, hb⟩
  · exact h0 k (h.symm.trans hk) hk2
  · have := hu k hk2
    rw [h] at hk
    injection hk with hk
    omega
theorem outByte_is (h : List Int) (j q m : Nat) (hm : m < 4) (e : j = 4 * q + m) : rd h (q : Int) / 2 ^ (24 - 8 * m) % 256 = outByte h j := by
  unfold outByte
  have e1 : j / 4 = q := by omega
  have e2 : j % 4 = m := by omega
  rw [e1, e2, Int.natCast_pow]; rfl
def tailB (Z n i : Nat) : List Int := (128 : Int) :: (List.replicate Z 0 ++ (List.range i).map (byte8 n))
theorem tailB_len (Z n i : Nat) : (tailB Z n i).length = Z + 1 + i := by unfold tailB; simp; omega
theorem tailB_zero (Z n : Nat) : tailB Z n 0 = (128 : Int) :: List.replicate Z 0 := by unfold tailB; simp
theorem tailB_succ (Z n i : Nat) : tailB Z n (i + 1) = tailB Z n i ++ [byte8 n i] := by
  unfold tailB
  rw [List.range_succ, List.map_append, List.cons_append, List.append_assoc]; rfl
theorem tailB_of (n : Nat) : tailB (padN n) n 8 = tailOf n := rfl
theorem byte8_is (n i : Nat) : ((8 * n : Nat) : Int) / 2 ^ (56 - 8 * i) % 256 = byte8 n i := by
  unfold byte8
  rw [Int.natCast_emod, Int.natCast_ediv, Int.natCast_pow]; rfl
/-- A row of slices of bytes is made of some. -/
theorem slices_event {ops : Array Oper} {rest : List Oper} {o : Oper} {a : Act} {Q' : Exit → Act → World → Prop} {W : World} (hgd : o.guard = none) (cs : Array Value) (n : Nat)
    (hrun : (execOp a.eval o).run Try.prog W = .ok (.value (.slice (some ⟨W.heap.size, 0, none⟩) n n)) (W.alloc (.cells cs 22 (0, 0))))
    (h : ∀ g, g = W.heap.size → ∀ w1, w1.heap[g]? = some (.cells cs 22 (0, 0)) → Below W.heap.size W w1 → wpList Try.prog ops Q' rest (a.put o.dst (.slice (some ⟨g, 0, none⟩) n n)) w1) :
    wpList Try.prog ops Q' (o :: rest) a W :=
  Kd.event_run hgd hrun (h _ rfl _ (blk_new W _) (below_alloc (Below.refl _ _) _))
theorem below_frame {B : Nat} {w w1 w2 : World} {S : Nat → Prop} (h : Below B w w1) (hf : Frame w1 w2 S) (hB : B ≤ w1.heap.size) (hs : ∀ k, S k → B ≤ k) : Below B w w2 :=
  ⟨hf.os.trans h.os, hf.tape.trans h.tape, hf.output.trans h.output, Nat.le_trans h.size hf.size, fun k hk => (hf.block k (by omega) (fun h1 => by have := hs k h1; omega)).trans (h.block k hk)⟩
theorem parts_one {w : World} {gp : Nat} {A : Option Addr} {p : List Int} {n c : Nat} {S : Nat → Prop} (hg : w.heap[gp]? = some (.cells #[.slice A n c] 22 (0, 0))) (hn : p.length = n) (hb : Bytes w A p) (h1 : ¬ S gp) (h2 : 0 < p.length → ∀ ad, A = some ad → ¬ S ad.block) : PartsAt w (some ⟨gp, 0, none⟩) [p] S := by
  subst hn
  intro _
  refine ⟨gp, 0, rfl, h1, fun i hi => ?_⟩
  obtain rfl : i = 0 := by simp at hi; exact hi
  exact ⟨A, c, (blk_cell hg 0).trans rfl, hb, h2⟩
theorem outs_set (f : Nat → Int) (i : Nat) (hi : i < 32) : (⟨nums .u8 ((List.range i).map f ++ zeros (32 - i))⟩ : Array Value).setIfInBounds i (.int .u8 (f i)) = ⟨nums .u8 ((List.range (i + 1)).map f ++ zeros (32 - (i + 1)))⟩ := by
  rw [List.setIfInBounds_toArray]
  congr 1
  unfold nums
  have hz : zeros (32 - i) = 0 :: zeros (32 - (i + 1)) := by rw [← zeros_succ]; congr 1; omega
  have hl : ((List.range i).map f).length = i := by simp
  rw [hz, List.map_append, List.set_append_right _ _ (by simp), List.length_map, hl, Nat.sub_self, List.map_cons, List.set_cons_zero, List.range_succ, List.map_append, List.map_append, List.map_append, List.append_assoc]
  rfl
theorem outs_at (f : Nat → Int) (i : Nat) (hi : i < 32) : (⟨nums .u8 ((List.range i).map f ++ zeros (32 - i))⟩ : Array Value)[i]? = some (.int .u8 0) := by
  rw [List.getElem?_toArray]
  unfold nums
  have hz : zeros (32 - i) = 0 :: zeros (32 - (i + 1)) := by rw [← zeros_succ]; congr 1; omega
  have hl : ((List.range i).map f).length = i := by simp
  rw [List.getElem?_map, List.getElem?_append_right (by rw [hl]; exact Nat.le_refl _), hl, Nat.sub_self, hz]; rfl
theorem u8s_one (xs : List Int) : (⟨nums .u8 xs⟩ : Array Value).all (·.oneCell') = true := by
  rw [List.all_toArray]
  unfold nums
  rw [List.all_map, List.all_eq_true]
  intro x _; rfl
theorem digest_len (T : List Int) : (digest T).length = 32 := by unfold digest; simp
theorem u8s_size (xs : List Int) {n : Nat} (h : xs.length = n) : (⟨nums .u8 xs⟩ : Array Value).size = n := by rw [List.size_toArray]; unfold nums; rw [List.length_map, h]
end Go.Proofs.Ytlniejfbkcgneaa.HashT

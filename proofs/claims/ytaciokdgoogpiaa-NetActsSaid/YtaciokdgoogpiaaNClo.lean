/- Proved: the closure of (*net.Air).Tick, and (*net.Air).Flying; conditions: the theorems' own premises. -/
import Derived.Test.YtaciokdgoogpiaaNThrow
namespace Go.Proofs.Ytaciokdgoogpiaa.NetT
open Go.RowKit Go.Proofs.Ytaciokdgoogpiaa.YNet Go.Proofs.YtaciokdgoogpiaaW.PrintWords Go.Proofs.YtaciokdgoogpiaaW.PrintLast Go.Proofs.YtaciokdgoogpiaaW.PrintMore
set_option linter.unusedVariables false
set_option linter.unusedSimpArgs false
def Fl.mail (f : Fl) : List Value := [.string f.src, .int .i64 f.dir, .string f.goal, .slice f.A f.b.length f.c]
def mlCells (fs : List Fl) : List Value := fs.flatMap Fl.mail
theorem mlCells_append (xs ys : List Fl) : mlCells (xs ++ ys) = mlCells xs ++ mlCells ys := List.flatMap_append
theorem ml_one (f : Fl) : ∀ u ∈ Fl.mail f, u.oneCell' = true := by
  intro u hu
  simp only [Fl.mail, List.mem_cons, List.not_mem_nil, or_false] at hu
  rcases hu with rfl | rfl | rfl | rfl
  all_goals rfl
def ml0 : Value := .agg #[.string ⟨#[]⟩, .int .i64 0, .string ⟨#[]⟩, .slice none 0 0]
theorem infoMl : (Try.prog.info? 32).map (fun i => (i.zero, i.size, i.bytes)) = some (some ml0, 4, 64) := by kernel_rfl
theorem app_ml {W : World} {base : Nat} {v : Value} {fs : List Fl} {f : Fl} {gl : Nat} (ty : TypeId) (hq : QRow W base 32 4 v fs.length (mlCells fs)) (hb : W.heap[gl]? = some (.cells ⟨Fl.mail f⟩ 32 (0, 0))) (hl : fs.length ≤ 200) (hbase : base ≤ W.heap.size) :
    ∃ v' w', (Builtin.append_ #[26, 26] ty #[v, .slice (some ⟨gl, 0, none⟩) 1 1]).run Try.prog W = .ok v' w' ∧ QRow w' base 32 4 v' (fs ++ [f]).length (mlCells (fs ++ [f])) ∧ W.grownBy w' v.ownBlock ∧ (v'.ownBlock = v.ownBlock ∨ ∃ b, v'.ownBlock = some b ∧ W.heap.size ≤ b) := by
  obtain ⟨i0, hi, hzz⟩ := Option.map_eq_some_iff.1 infoMl
  simp only [Prod.mk.injEq] at hzz
  obtain ⟨hz0, hz1, hz2⟩ := hzz
  obtain ⟨v', w', h1, h2, h3, h4⟩ := q_append (P := Try.prog) W base 26 ty 32 i0 ml0 4 64 Try.underlying26 hi hz0 hz1 hz2 (by rfl) (by omega) v fs.length (mlCells fs) hq ⟨gl, 0, none⟩ 1 1 (Fl.mail f) rfl (fun j u hu => by
    have := (blk_cell hb (0 + j)).trans (show (⟨Fl.mail f⟩ : Array Value)[0 + j]? = some u by rw [Nat.zero_add, List.getElem?_toArray]; exact hu)
    unfold Addr.add
    split
    · rename_i h
      subst h
      exact this
    · exact this) (ml_one f) (by omega) (by simp only [maxLen]; omega) (by omega) hbase
  refine ⟨v', w', h1, ?_, h3, h4⟩
  rw [List.length_append, mlCells_append]
  have e : mlCells [f] = Fl.mail f := by unfold mlCells; rw [List.flatMap_cons, List.flatMap_nil, List.append_nil]
  rw [e]
  exact h2
theorem ml_event {ops : Array Oper} {rest' : List Oper} {o : Oper} {a : Act} {Q' : Exit → Act → World → Prop} {W : World} {base : Nat} {v : Value} {fs : List Fl} {f : Fl} {gl : Nat} (hgd : o.guard = none) (s x : Operand)
    (ho : o.op = .call { callee := .builtin .append, args := #[s, x], argTypes := #[26, 26] }) (hs : a.eval s = v) (hx : a.eval x = .slice (some ⟨gl, 0, none⟩) 1 1)
    (hq : QRow W base 32 4 v fs.length (mlCells fs)) (hb : W.heap[gl]? = some (.cells ⟨Fl.mail f⟩ 32 (0, 0))) (hl : fs.length ≤ 200) (hbase : base ≤ W.heap.size)
    (h : ∀ v1 w1, QRow w1 base 32 4 v1 (fs ++ [f]).length (mlCells (fs ++ [f])) → W.grownBy w1 v.ownBlock → (v1.ownBlock = v.ownBlock ∨ ∃ b, v1.ownBlock = some b ∧ W.heap.size ≤ b) → wpList Try.prog ops Q' rest' (a.put o.dst v1) w1) :
    wpList Try.prog ops Q' (o :: rest') a W := by
  obtain ⟨v1, w1, hr, h1, h2, h3⟩ := app_ml o.type hq hb hl hbase
  refine wpList_plain hgd fun K hK => ?_
  unfold Oper.wp execOp
  simp only [ho, resolve, invoke, builtin, Sem.run_bind, Sem.run_pure, Result.andThen_ok, List.map_toArray, List.map_cons, List.map_nil, hs, hx]
  erw [hr]
  exact hK _ _ (h v1 w1 h1 h2 h3)
theorem made_event {ops : Array Oper} {rest : List Oper} {o : Oper} {a : Act} {Q' : Exit → Act → World → Prop} {W : World} (hgd : o.guard = none) (cs : Array Value) (ty : TypeId) (n : Nat)
    (hrun : (execOp a.eval o).run Try.prog W = .ok (.value (.slice (some ⟨W.heap.size, 0, none⟩) n n)) (W.alloc (.cells cs ty (0, 0))))
    (h : ∀ g, g = W.heap.size → ∀ w1, w1.heap[g]? = some (.cells cs ty (0, 0)) → Below W.heap.size W w1 → wpList Try.prog ops Q' rest (a.put o.dst (.slice (some ⟨g, 0, none⟩) n n)) w1) :
    wpList Try.prog ops Q' (o :: rest) a W :=
  Kd.event_run hgd hrun (h _ rfl _ (blk_new W _) (below_alloc (Below.refl _ _) _))
/-- What a tick gives, in its box. -/
structure IsOut (w : World) (base g : Nat) (v : Value) (ms : List Fl) : Prop where
  blk : w.heap[g]? = some (.cells #[v] 26 (0, 0))
  row : QRow w base 32 4 v ms.length (mlCells ms)
theorem IsOut.ne {w : World} {base g : Nat} {v : Value} {fs : List Fl} (h : IsOut w base g v fs) : some g ≠ v.ownBlock := fun e => by
  obtain ⟨_, cc, hc⟩ := q_typed h.row g e.symm
  have := h.blk.symm.trans hc
  simp at this
theorem IsOut.typed {w : World} {base g : Nat} {v : Value} {fs : List Fl} (h : IsOut w base g v fs) {k ty : Nat} {cells : Array Value} (hk : w.heap[k]? = some (.cells cells ty (0, 0))) (h1 : ty ≠ 26) (h2 : ty ≠ 32) : ¬ AirFoot g v k := by
  intro hf
  rcases hf with rfl | hf
  · have := hk.symm.trans h.blk
    simp at this
    exact h1 this.2
  · obtain ⟨_, cc, hc⟩ := q_typed h.row k hf.symm
    have := hk.symm.trans hc
    simp at this
    exact h2 this.2
theorem IsOut.keep {w w1 : World} {base g : Nat} {v : Value} {fs : List Fl} {S : Nat → Prop} (h : IsOut w base g v fs) (hf : Frame w w1 S) (h1 : ¬ S g) (h2 : ∀ k, v.ownBlock = some k → ¬ S k) : IsOut w1 base g v fs := ⟨hf.blk h.blk h1, qi_keep h.row hf h2⟩
theorem IsOut.below {w w1 : World} {base g : Nat} {v : Value} {fs : List Fl} (h : IsOut w base g v fs) (hb : Below w.heap.size w w1) : IsOut w1 base g v fs := h.keep (Frame.of_below hb) (fun h => h) (fun _ _ h => h)
theorem out_more {w w5 : World} {base g : Nat} {v v5 : Value} {ms : List Fl} {f : Fl} (hO : IsOut w base g v ms) (hR : QRow w5 base 32 4 v5 (ms ++ [f]).length (mlCells (ms ++ [f]))) (hG : w.grownBy w5 v.ownBlock) :
    IsOut (w5.setCell ⟨g, 0, none⟩ v5) base g v5 (ms ++ [f]) ∧ Frame w (w5.setCell ⟨g, 0, none⟩ v5) (AirFoot g v) := by
  have hF : Frame w (w5.setCell ⟨g, 0, none⟩ v5) (AirFoot g v) := ((Frame.refl w (AirFoot g v)).trans (Frame.of_grown hG) (fun k hk => .inl (.inr hk))).trans (Frame.of_set w5 g 0 v5) (fun k hk => .inl (.inl hk))
  have hb5 := blk_grown hO.blk hG hO.ne
  have hn : ∀ k, v5.ownBlock = some k → k ≠ g := fun k hk e => by
    subst e
    obtain ⟨_, cc, hc⟩ := q_typed hR k hk
    have := hb5.symm.trans hc
    simp at this
  exact ⟨⟨(blk_set hb5 0 v5).trans rfl, qi_keep hR (Frame.of_set w5 g 0 v5) (fun k hk => hn k hk)⟩, hF⟩
theorem fly_calls (w : World) (base g : Nat) (v : Value) (fs : List Fl) (hI : IsAir w base g v fs) : Calls Try.prog 15 #[.pointer (some ⟨g, 0, none⟩)] w fun e w' => e = .returned (.int .i64 (fs.length : Int)) ∧ w' = w := by
  obtain ⟨Av, cv, hv, hle⟩ := q_slice hI.row
  subst hv
  have c0 := (blk_cell hI.blk 0).trans (show (#[Value.slice Av fs.length cv] : Array Value)[0]? = some _ from rfl)
  go_enter Try.func15, Try.ntmps15
  go_wp2
  go_ret
  exact ⟨rfl, rfl⟩
set_option maxHeartbeats 4000000 in
set_option maxRecDepth 100000 in
theorem clo_calls (w : World) (base g : Nat) (v : Value) (ms : List Fl) (f : Fl) (hO : IsOut w base g v ms) (hbase : base ≤ w.heap.size) (hms : ms.length ≤ 200) :
    Calls Try.prog 18 #[.agg ⟨Fl.cells f⟩, .pointer (some ⟨g, 0, none⟩)] w fun e w' => e = .returned (.bool (decide (f.t = 0))) ∧ ∃ v', IsOut w' base g v' (if f.t = 0 then ms ++ [f] else ms) ∧ (v'.ownBlock = v.ownBlock ∨ ∃ k, v'.ownBlock = some k ∧ w.heap.size ≤ k) ∧ Frame w w' (AirFoot g v) := by
  have HO := Aside0.mk hO
  have HF := Aside0.mk (Frame.refl w (AirFoot g v))
  clear hO
  obtain ⟨Av, cv, hv, hle⟩ := q_slice HO.out.row
  subst hv
  obtain ⟨s, d, o, A, c, b, t⟩ := f
  unfold Fl.cells
  go_enter Try.func18, Try.ntmps18
  go_wp2_with ((with_reducible refine gate_dst (N := 2) rfl ?_); refine stop_here ?_)
  refine ⟨?_⟩
  refine box_event rfl (N := 2) rfl (cs := #[.string s, .int .i64 d, .string o, .slice A b.length c, .int .i64 t]) (t := 56) ?hr ?_
  case hr => first | (go_simp; done) | (go_simp; rfl)
  intro m hm w1 hbox hb
  have HX := Aside0.mk hbox
  have O1 := Aside0.mk (HO.out.below hb)
  have F1 := Aside0.mk (HF.out.trans (Frame.of_below hb) (fun _ h => h.elim))
  clear HO HF hm hbox hb
  have c4 := (blk_cell HX.out 4).trans (show (#[Value.string s, .int .i64 d, .string o, .slice A b.length c, .int .i64 t] : Array Value)[4]? = some (.int .i64 t) from rfl)
  have c0 := (blk_cell O1.out.blk 0).trans (show (#[Value.slice Av ms.length cv] : Array Value)[0]? = some _ from rfl)
  have xr : w1.rangeAt m 0 [.string s, .int .i64 d, .string o, .slice A b.length c] := by
    intro j u hj
    rw [Nat.zero_add, blk_cell HX.out, List.getElem?_toArray]
    rw [show ([.string s, .int .i64 d, .string o, .slice A b.length c, .int .i64 t] : List Value) = [.string s, .int .i64 d, .string o, .slice A b.length c] ++ [.int .i64 t] from rfl, List.getElem?_append_left (List.getElem?_eq_some_iff.1 hj).1]
    exact hj
  by_cases ht : t = 0
  · subst ht
    go_wp2_with ((with_reducible refine gate_dst (N := 9) rfl ?_); refine stop_here ?_)
    refine ⟨?_⟩
    refine wpList_load_mid rfl 32 (.tmp 8) rfl m 0 rfl [.string s, .int .i64 d, .string o, .slice A b.length c] _ xr Try.underlying32 rfl ?hi ?_
    case hi => rfl
    go_wp2_with ((with_reducible refine gate_dst (N := 10) rfl ?_); refine stop_here ?_)
    refine ⟨?_⟩
    refine made_event rfl ⟨Fl.mail ⟨s, d, o, A, c, b, 0⟩⟩ 32 1 ?hr10 ?_
    case hr10 => first | (go_simp; done) | (go_simp; rfl)
    intro gl hgl w2 hbx hb
    have O2 := Aside0.mk (O1.out.below hb)
    have F2 := Aside0.mk (F1.out.trans (Frame.of_below hb) (fun _ h => h.elim))
    have X2 := Aside0.mk (blk_below HX.out hb)
    have E2 := Aside0.mk hbx
    clear O1 F1 HX hgl hbx hb c4 c0 xr
    go_wp2_with (at_builtin; refine stop_here ?_)
    refine ⟨?_⟩
    refine ml_event (base := base) (v := .slice Av ms.length cv) (fs := ms) (f := ⟨s, d, o, A, c, b, 0⟩) (gl := gl) rfl (.tmp 7) (.tmp 10) rfl rfl rfl O2.out.row E2.out hms (Nat.le_trans hbase F2.out.size) ?_
    intro v3 w3 hq hg3 hat
    obtain ⟨A3, c3, hv3, hle3⟩ := q_slice hq
    subst hv3
    have B3 := Aside0.mk (blk_grown O2.out.blk hg3 O2.out.ne)
    have N3 := Aside0.mk (O2.out.typed X2.out (by decide) (by decide))
    have X3 := Aside0.mk (blk_grown X2.out hg3 (fun e => N3.out (.inr e)))
    have K := Aside0.mk (out_more O2.out hq hg3)
    have A3' := Aside0.mk hat
    clear hq hg3 hat hle3
    have f0 := blk_frozen B3.out 0
    have c0 := (blk_cell B3.out 0).trans (show (#[Value.slice Av ms.length cv] : Array Value)[0]? = some _ from rfl)
    rw [List.length_append, List.length_singleton] at K A3'
    go_upto_region 3 with (fail)
    obtain ⟨W, hW⟩ : ∃ W, w3.setCell ⟨g, 0, none⟩ (.slice A3 (ms.length + 1) c3) = W := ⟨_, rfl⟩
    have X4 : Aside0 (W.heap[m]? = some (.cells #[.string s, .int .i64 d, .string o, .slice A b.length c, .int .i64 0] 56 (0, 0))) := ⟨by rw [← hW]; exact blk_far X3.out (fun e => N3.out (.inl e)) _⟩
    rw [hW] at K
    rw [hW]
    clear hW f0 c0
    have c4 := (blk_cell X4.out 4).trans (show (#[Value.string s, .int .i64 d, .string o, .slice A b.length c, .int .i64 0] : Array Value)[4]? = some (.int .i64 0) from rfl)
    go_wp2
    go_ret
    exact ⟨rfl, .slice A3 (ms.length + 1) c3, K.out.1, own_chain2 (v := .slice Av ms.length cv) (.inl rfl) A3'.out F2.out.size, F2.out.trans K.out.2 (fun _ h => .inl h)⟩
  · have tt : (t == 0) = false := by simpa using ht
    go_wp2
    go_ret
    exact ⟨rfl, .slice Av ms.length cv, O1.out, .inl rfl, F1.out⟩
end Go.Proofs.Ytaciokdgoogpiaa.NetT

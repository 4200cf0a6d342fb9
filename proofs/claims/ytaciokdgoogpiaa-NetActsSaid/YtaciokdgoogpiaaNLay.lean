/- Proved: net.New makes air, and (*net.Air).lay lays a datagram into it; conditions: the theorems' own premises. -/
import Derived.Test.YtaciokdgoogpiaaNBase
namespace Go.Proofs.Ytaciokdgoogpiaa.NetT
open Go.RowKit Go.Proofs.Ytaciokdgoogpiaa.YNet Go.Proofs.YtaciokdgoogpiaaW.PrintWords Go.Proofs.YtaciokdgoogpiaaW.PrintLast Go.Proofs.YtaciokdgoogpiaaW.PrintMore
set_option linter.unusedVariables false
set_option linter.unusedSimpArgs false
def fl0 : Value := .agg #[.string ⟨#[]⟩, .int .i64 0, .string ⟨#[]⟩, .slice none 0 0, .int .i64 0]
theorem infoFl : (Try.prog.info? 56).map (fun i => (i.zero, i.size, i.bytes)) = some (some fl0, 5, 72) := by kernel_rfl
theorem fl_one (f : Fl) : ∀ u ∈ Fl.cells f, u.oneCell' = true := by
  intro u hu
  simp only [Fl.cells, List.mem_cons, List.not_mem_nil, or_false] at hu
  rcases hu with rfl | rfl | rfl | rfl | rfl
  all_goals rfl
theorem app_fl {W : World} {base : Nat} {v : Value} {fs : List Fl} {f : Fl} {gl : Nat} (ty : TypeId) (hq : QRow W base 56 5 v fs.length (flCells fs)) (hb : W.heap[gl]? = some (.cells ⟨Fl.cells f⟩ 56 (0, 0))) (hl : fs.length ≤ 200) (hbase : base ≤ W.heap.size) :
    ∃ v' w', (Builtin.append_ #[50, 50] ty #[v, .slice (some ⟨gl, 0, none⟩) 1 1]).run Try.prog W = .ok v' w' ∧ QRow w' base 56 5 v' (fs ++ [f]).length (flCells (fs ++ [f])) ∧ W.grownBy w' v.ownBlock ∧ (v'.ownBlock = v.ownBlock ∨ ∃ b, v'.ownBlock = some b ∧ W.heap.size ≤ b) := by
  obtain ⟨i0, hi, hzz⟩ := Option.map_eq_some_iff.1 infoFl
  simp only [Prod.mk.injEq] at hzz
  obtain ⟨hz0, hz1, hz2⟩ := hzz
  obtain ⟨v', w', h1, h2, h3, h4⟩ := q_append (P := Try.prog) W base 50 ty 56 i0 fl0 5 72 Try.underlying50 hi hz0 hz1 hz2 (by rfl) (by omega) v fs.length (flCells fs) hq ⟨gl, 0, none⟩ 1 1 (Fl.cells f) rfl (fun j u hu => by
    have := (blk_cell hb (0 + j)).trans (show (⟨Fl.cells f⟩ : Array Value)[0 + j]? = some u by rw [Nat.zero_add, List.getElem?_toArray]; exact hu)
    unfold Addr.add
    split
    · rename_i h
      subst h
      exact this
    · exact this) (fl_one f) (by omega) (by simp only [maxLen]; omega) (by omega) hbase
  refine ⟨v', w', h1, ?_, h3, h4⟩
  rw [List.length_append, flCells_append]
  have e : flCells [f] = Fl.cells f := by unfold flCells; rw [List.flatMap_cons, List.flatMap_nil, List.append_nil]
  rw [e]
  exact h2
theorem fl_step {ops : Array Oper} {o : Oper} {a : Act} {Q' : Exit → Act → World → Prop} {Kc : Act → World → Prop} {W : World} {base : Nat} {v : Value} {fs : List Fl} {f : Fl} {gl : Nat} (hw : Region.wanted o (yielded ops a.tmps) = true) (s x : Operand)
    (ho : o.op = .call { callee := .builtin .append, args := #[s, x], argTypes := #[50, 50] }) (hs : a.eval s = v) (hx : a.eval x = .slice (some ⟨gl, 0, none⟩) 1 1)
    (hq : QRow W base 56 5 v fs.length (flCells fs)) (hb : W.heap[gl]? = some (.cells ⟨Fl.cells f⟩ 56 (0, 0))) (hl : fs.length ≤ 200) (hbase : base ≤ W.heap.size)
    (h : ∀ v1 w1, QRow w1 base 56 5 v1 (fs ++ [f]).length (flCells (fs ++ [f])) → W.grownBy w1 v.ownBlock → (v1.ownBlock = v.ownBlock ∨ ∃ b, v1.ownBlock = some b ∧ W.heap.size ≤ b) → Kc (a.put o.dst v1) w1) :
    if Region.wanted o (yielded ops a.tmps) = true then Oper.wp Try.prog o a W Kc Q' else Kc (a.put o.dst undef) W := by
  obtain ⟨v1, w1, hr, h1, h2, h3⟩ := app_fl o.type hq hb hl hbase
  refine event_step hw (v := v1) (w1 := w1) ?_ (h v1 w1 h1 h2 h3)
  unfold execOp
  simp only [ho, resolve, invoke, builtin, Sem.run_bind, Sem.run_pure, Result.andThen_ok, List.map_toArray, List.map_cons, List.map_nil, hs, hx]
  erw [hr]
  rfl
theorem made_step {ops : Array Oper} {o : Oper} {a : Act} {Q' : Exit → Act → World → Prop} {Kc : Act → World → Prop} {W : World} (cs : Array Value) (ty : TypeId) (n : Nat) (hw : Region.wanted o (yielded ops a.tmps) = true)
    (hrun : (execOp a.eval o).run Try.prog W = .ok (.value (.slice (some ⟨W.heap.size, 0, none⟩) n n)) (W.alloc (.cells cs ty (0, 0))))
    (h : ∀ g, g = W.heap.size → ∀ w1, w1.heap[g]? = some (.cells cs ty (0, 0)) → Below W.heap.size W w1 → Kc (a.put o.dst (.slice (some ⟨g, 0, none⟩) n n)) w1) :
    if Region.wanted o (yielded ops a.tmps) = true then Oper.wp Try.prog o a W Kc Q' else Kc (a.put o.dst undef) W :=
  event_step hw hrun (h _ rfl _ (blk_new W _) (below_alloc (Below.refl _ _) _))
theorem row_range {w : World} {m ty : Nat} {cs : List Value} (h : w.heap[m]? = some (.cells ⟨cs⟩ ty (0, 0))) : w.rangeAt m 0 cs := by
  intro j v hj
  rw [Nat.zero_add, blk_cell h, List.getElem?_toArray]; exact hj
theorem load_mid_run {op : Oper} {a : Act} {w : World} (ty : TypeId) (x : Operand) (ho : op.op = .load ty x) (b o : Nat) (hx : a.eval x = .pointer (some ⟨b, o, none⟩)) (cs : List Value) (d : TypeDesc) (hc : w.rangeAt b o cs)
    (hu : Try.prog.underlying ty = some d) (hd : d.isRow = true) (hi : (Try.prog.info? ty).map (·.size) = some cs.length) : (execOp a.eval op).run Try.prog w = .ok (.value (.agg cs.toArray)) w := by
  unfold execOp
  simp only [ho, hx, Instr.loadAt, Instr.sureAddr, Sem.run_bind, Sem.run_pure, Result.andThen_ok, run_loadVar_mid w b o ty cs d hc hu hd hi]
theorem nil_air (w : World) (base g : Nat) (h : w.heap[g]? = some (.cells #[.slice none 0 0] 52 (0, 0))) : IsAir w base g (.slice none 0 0) [] :=
  ⟨h, ⟨rfl, .inl ⟨rfl, none, rfl, fun a ha => by cases ha⟩⟩, fun f hf => by simp at hf, List.Pairwise.nil⟩
set_option maxHeartbeats 4000000 in
set_option maxRecDepth 100000 in
theorem new_calls (w : World) : Calls Try.prog 9 #[] w fun e w' => ∃ g, e = .returned (.pointer (some ⟨g, 0, none⟩)) ∧ w.heap.size ≤ g ∧ IsAir w' w.heap.size g (.slice none 0 0) [] ∧ Below w.heap.size w w' := by
  have HB := Aside0.mk (Below.refl w.heap.size w)
  go_enter Try.func9, Try.ntmps9
  go_wp2_with ((with_reducible refine gate_dst (N := 2) rfl ?_); refine stop_here ?_)
  refine ⟨?_⟩
  refine box_event rfl (N := 2) rfl (cs := #[.slice none 0 0]) (t := 52) ?hr ?_
  case hr => first | (go_simp; done) | (go_simp; rfl)
  intro g hg w1 hbox hb
  have HG := Aside0.mk (show w.heap.size ≤ g by rw [hg]; exact Nat.le_refl _)
  have HX := Aside0.mk hbox
  have HB1 := Aside0.mk (below_step HB.out hb)
  clear HB hg hbox hb
  go_wp2
  go_ret
  exact ⟨g, rfl, HG.out, nil_air _ _ _ HX.out, HB1.out⟩
theorem copied_f (s : ByteArray) (d : Int) (o : ByteArray) (b : List Int) (h : b.length < 140737488355328) : net_copied.f s d o b = some (s, d, o, b) := by
  unfold net_copied.f slices_Clone_byte_byte.f
  simp [h]
theorem air_more {w w5 : World} {base B g : Nat} {v v5 : Value} {fs : List Fl} {s : ByteArray} {d : Int} {o : ByteArray} {A : Option Addr} {c : Nat} {b : List Int} {t : Int} (hI : IsAir w base g v fs) (hQ : QRow w B 5 1 (.slice A b.length c) b.length (nums .u8 b)) (hc : b.length ≤ c) (hB : base ≤ B) (hlt : ∀ f ∈ fs, ∀ ad, f.A = some ad → ad.block < B)
    (hR : QRow w5 base 56 5 v5 (fs ++ [Fl.mk s d o A c b t]).length (flCells (fs ++ [Fl.mk s d o A c b t]))) (hG : w.grownBy w5 v.ownBlock) (hA : v5.ownBlock = v.ownBlock ∨ ∃ k, v5.ownBlock = some k ∧ w.heap.size ≤ k) :
    IsAir (w5.setCell ⟨g, 0, none⟩ v5) base g v5 (fs ++ [Fl.mk s d o A c b t]) ∧ Frame w (w5.setCell ⟨g, 0, none⟩ v5) (AirFoot g v) := by
  have hF : Frame w (w5.setCell ⟨g, 0, none⟩ v5) (AirFoot g v) := ((Frame.refl w (AirFoot g v)).trans (Frame.of_grown hG) (fun k hk => .inl (.inr hk))).trans (Frame.of_set w5 g 0 v5) (fun k hk => .inl (.inl hk))
  have hb5 := blk_grown hI.blk hG hI.ne
  have hn : ∀ k, v5.ownBlock = some k → k ≠ g := fun k hk e => by
    subst e
    obtain ⟨_, cc, hc⟩ := q_typed hR k hk
    have := hb5.symm.trans hc
    simp at this
  have hty : ∀ ad, A = some ad → B ≤ ad.block ∧ ∃ cells, w.heap[ad.block]? = some (.cells cells 5 (0, 0)) := fun ad e => by
    subst e
    exact q_typed hQ ad.block rfl
  have hoff : ∀ ad, A = some ad → ¬ AirFoot g v ad.block := fun ad e => by
    obtain ⟨_, cells, h⟩ := hty ad e
    exact hI.typed h (by decide) (by decide)
  refine ⟨⟨(blk_set hb5 0 v5).trans rfl, qi_keep hR (Frame.of_set w5 g 0 v5) (fun k hk => hn k hk), fun f hm => ?_, ?_⟩, hF⟩
  · rcases List.mem_append.1 hm with h | h
    · exact (hI.els f h).keep hF (hI.els_off f h)
    · obtain rfl := List.mem_singleton.1 h
      refine ⟨Bytes.frame (fun hp => q_cells hQ hp) hF (fun _ ad e => hoff ad e), hc, fun ad e => ?_⟩
      obtain ⟨h1, cells, h2⟩ := hty ad e
      exact ⟨Nat.le_trans hB h1, cells, hF.blk h2 (hoff ad e)⟩
  · rw [List.pairwise_append]
    refine ⟨hI.apart, List.pairwise_singleton _ _, fun x hx y hy => ?_⟩
    obtain rfl := List.mem_singleton.1 hy
    intro a a' e e'
    have := hlt x hx a e
    have := (hty a' e').1
    omega
set_option maxHeartbeats 4000000 in
set_option maxRecDepth 100000 in
theorem lay_calls (w : World) (base g : Nat) (v : Value) (fs : List Fl) (s : ByteArray) (d : Int) (o : ByteArray) (A : Option Addr) (c : Nat) (b : List Int) (t : Int) (hI : IsAir w base g v fs) (hb : Bytes w A b) (hc : b.length ≤ c) (hbl : b.length < 140737488355328) (hbase : base ≤ w.heap.size) (hfs : fs.length ≤ 200) :
    Calls Try.prog 19 #[.pointer (some ⟨g, 0, none⟩), .agg #[.string s, .int .i64 d, .string o, .slice A b.length c], .int .i64 t] w fun e w' => e = .returned (.tuple #[]) ∧ ∃ A' c' v', IsAir w' base g v' (if fs.length < 200 then fs ++ [⟨s, d, o, A', c', b, t⟩] else fs) ∧ (v'.ownBlock = v.ownBlock ∨ ∃ k, v'.ownBlock = some k ∧ w.heap.size ≤ k) ∧ Frame w w' (AirFoot g v) := by
  have HI := Aside0.mk hI
  have HBy := Aside0.mk hb
  have HF := Aside0.mk (Frame.refl w (AirFoot g v))
  clear hI hb
  obtain ⟨Av, cv, hv, hle⟩ := q_slice HI.out.row
  subst hv
  go_enter Try.func19, Try.ntmps19
  go_wp2_with ((with_reducible refine gate_dst (N := 4) rfl ?_); refine stop_here ?_)
  refine ⟨?_⟩
  refine box_event rfl (N := 4) rfl (cs := #[.string s, .int .i64 d, .string o, .slice A b.length c]) (t := 32) ?hr ?_
  case hr => first | (go_simp; done) | (go_simp; rfl)
  intro m hm w1 hbox hb
  have HM := Aside0.mk (show w.heap.size ≤ m by rw [hm]; exact Nat.le_refl _)
  have HX := Aside0.mk hbox
  have I1 := Aside0.mk (HI.out.below hb)
  have By1 := Aside0.mk (HBy.out.below hb)
  have F1 := Aside0.mk (HF.out.trans (Frame.of_below hb) (fun _ h => h.elim))
  clear HI HBy HF hm hbox hb
  have c0 := (blk_cell I1.out.blk 0).trans (show (#[Value.slice Av fs.length cv] : Array Value)[0]? = some _ from rfl)
  by_cases hlt : fs.length < 200
  · have lt : ((fs.length : Nat) : Int) < 200 := by omega
    go_wp2
    have I2 := Aside0.mk (I1.out.below (below_drew1 (Below.refl w1.heap.size w1)))
    have By2 := Aside0.mk (By1.out.below (below_drew1 (Below.refl w1.heap.size w1)))
    have F2 := Aside0.mk (F1.out.trans (Frame.of_drewN w1 1 (AirFoot g (.slice Av fs.length cv))) (fun _ h => .inl h))
    have X2 := Aside0.mk (blk_drew HX.out)
    have xr : w1.rangeAt m 0 [.string s, .int .i64 d, .string o, .slice A b.length c] := row_range HX.out
    have HLt := Aside0.mk (show ∀ f ∈ fs, ∀ ad, f.A = some ad → ad.block < w1.drew.heap.size from fun f hm ad e => by
      obtain ⟨_, cells, h⟩ := (I2.out.els f hm).own ad e
      exact blk_lt h)
    clear I1 By1 F1
    refine start_ (n := 14) (S := fun w' => w'.cell? ⟨g, 0, none⟩ = some (.slice Av fs.length cv) ∧ w'.rangeAt m 0 [.string s, .int .i64 d, .string o, .slice A b.length c]) (ds := [13]) #[false, false, false, false, false, false, false, false, false, false, false, false, false, false] (by kernel_rfl) rfl rfl ⟨c0, xr⟩ (fun hHeld => ?_)
    refine pure_ (i := 0) (N := some 12) (v := ?_) (a' := ?_) #[true, false, false, false, false, false, false, false, false, false, false, false, false, false] rfl rfl (by kernel_rfl) (fun _ _ _ h => h) (Or.inl ⟨by rfl, ?_⟩) ?_ ?_
    rotate_left
    · intro w'
      go_simp
      with_reducible rfl
    rotate_left
    · simp only [Act.put, List.setIfInBounds_toArray, List.set_cons_zero, List.set_cons_succ, i64_w, i32_w]
      rfl
    refine pure_ (i := 1) (N := some 13) (v := ?_) (a' := ?_) #[true, true, false, false, false, false, false, false, false, false, false, false, false, false] rfl rfl (by kernel_rfl) (fun _ _ _ h => h) (Or.inl ⟨by rfl, ?_⟩) ?_ ?_
    rotate_left
    · intro w'
      go_simp
      with_reducible rfl
    rotate_left
    · simp only [Act.put, List.setIfInBounds_toArray, List.set_cons_zero, List.set_cons_succ, i64_w, i32_w]
      rfl
    refine pure_ (i := 2) (N := some 14) (v := ?_) (a' := ?_) #[true, true, true, false, false, false, false, false, false, false, false, false, false, false] rfl rfl (by kernel_rfl) (fun _ _ _ h => h) (Or.inl ⟨by rfl, ?_⟩) ?_ ?_
    rotate_left
    · intro w'
      go_simp
      with_reducible rfl
    rotate_left
    · simp only [Act.put, List.setIfInBounds_toArray, List.set_cons_zero, List.set_cons_succ, i64_w, i32_w]
      rfl
    refine pure_ (i := 3) (N := some 15) (v := ?_) (a' := ?_) #[true, true, true, true, false, false, false, false, false, false, false, false, false, false] rfl rfl (by kernel_rfl) (fun _ _ _ h => h) (Or.inl ⟨by rfl, ?_⟩) ?_ ?_
    rotate_left
    · intro w'
      go_simp
      with_reducible rfl
    rotate_left
    · simp only [Act.put, List.setIfInBounds_toArray, List.set_cons_zero, List.set_cons_succ, i64_w, i32_w]
      rfl
    refine pure_ (i := 7) (N := some 19) (v := ?_) (a' := ?_) #[true, true, true, true, false, false, false, true, false, false, false, false, false, false] rfl rfl (by kernel_rfl) (fun _ _ _ h => h) (Or.inl ⟨by rfl, ?_⟩) ?_ ?_
    rotate_left
    · intro w'
      go_simp
      with_reducible rfl
    rotate_left
    · simp only [Act.put, List.setIfInBounds_toArray, List.set_cons_zero, List.set_cons_succ, i64_w, i32_w]
      rfl
    refine take_ (i := 4) (N := some 16) (v := ?_) (a' := ?_) #[true, true, true, true, true, false, false, true, false, false, false, false, false, false] rfl rfl (by kernel_rfl) (fun _ _ _ h => h) (Or.inl ⟨by rfl, ?_⟩) hHeld ?_ ?_
    rotate_left
    · rintro w' ⟨s0, s1⟩
      go_simp
      with_reducible rfl
    rotate_left
    · simp only [Act.put, List.setIfInBounds_toArray, List.set_cons_zero, List.set_cons_succ, i64_w, i32_w]
      rfl
    refine take_ (i := 5) (N := some 17) (v := ?_) (a' := ?_) #[true, true, true, true, true, true, false, true, false, false, false, false, false, false] rfl rfl (by kernel_rfl) (fun _ _ _ h => h) (Or.inl ⟨by rfl, ?_⟩) hHeld ?_ ?_
    rotate_left
    · rintro w' ⟨s0, s1⟩
      refine (load_mid_run 32 (.tmp 4) ?q1 m 0 ?q2 [.string s, .int .i64 d, .string o, .slice A b.length c] _ s1 Try.underlying32 rfl rfl); rfl; rfl
    rotate_left
    · simp only [Act.put, List.setIfInBounds_toArray, List.set_cons_zero, List.set_cons_succ, i64_w, i32_w]
      rfl
    refine one_ (i := 6) (N := some 18) #[true, true, true, true, true, true, true, true, false, false, false, false, false, false] rfl rfl (by kernel_rfl) (by decide) (fun K hK => ?_)
    refine goes_ Try.func22 (by kernel_rfl) rfl #[.agg #[.string s, .int .i64 d, .string o, .slice A b.length c]] (by rfl) rfl rfl (by simp only [List.map_toArray, List.map_cons, List.map_nil]; rfl) ?_
    with_reducible refine (net_copied.calls s d o A c b s d o b _ (reads_bytes By2.out (by omega)) hc (copied_f s d o b hbl)).mono ?_
    rintro e w3 ⟨vb, rfl, hR, hb⟩
    refine ⟨_, rfl, ?_⟩
    have hq := own_bytes hR
    obtain ⟨Ab, cb, hvb, hle2⟩ := q_slice hq
    subst hvb
    have Q3 := Aside0.mk hq
    have I3 := Aside0.mk (I2.out.below hb)
    have F3 := Aside0.mk (F2.out.trans (Frame.of_below hb) (fun _ h => h.elim))
    have X3 := Aside0.mk (blk_below X2.out hb)
    have L3 := Aside0.mk (show w.heap.size ≤ w1.drew.heap.size from F2.out.size)
    clear I2 By2 F2 X2 hR hb hq
    refine hK.out _ _ ⟨(blk_cell I3.out.blk 0).trans rfl, row_range X3.out⟩ (fun hHeld => ?_)
    clear hK K
    refine norm_ (a' := ?_) ?_ ?_
    rotate_left
    · show Act.put _ (some 18) _ = _
      simp only [Act.put, List.setIfInBounds_toArray, List.set_cons_zero, List.set_cons_succ, i64_w, i32_w]
      rfl
    refine pure_ (i := 8) (N := some 20) (v := ?_) (a' := ?_) #[true, true, true, true, true, true, true, true, true, false, false, false, false, false] rfl rfl (by kernel_rfl) (fun _ _ _ h => h) (Or.inl ⟨by rfl, ?_⟩) ?_ ?_
    rotate_left
    · intro w'
      go_simp
      with_reducible rfl
    rotate_left
    · simp only [Act.put, List.setIfInBounds_toArray, List.set_cons_zero, List.set_cons_succ, i64_w, i32_w]
      rfl
    refine one_ (i := 9) (N := some 21) #[true, true, true, true, true, true, true, true, true, true, false, false, false, false] rfl rfl (by kernel_rfl) (by decide) (fun K hK => ?_)
    refine made_step ⟨Fl.cells ⟨s, d, o, Ab, cb, b, t⟩⟩ 56 1 (by rfl) ?hr9 ?_
    case hr9 => first | (go_simp; done) | (go_simp; rfl)
    intro gl hgl w4 hbx hb
    have Q4 := Aside0.mk (qi_below Q3.out hb)
    have I4 := Aside0.mk (I3.out.below hb)
    have F4 := Aside0.mk (F3.out.trans (Frame.of_below hb) (fun _ h => h.elim))
    have X4 := Aside0.mk (blk_below X3.out hb)
    have E4 := Aside0.mk hbx
    clear I3 F3 X3 Q3 hgl hbx hb
    refine hK.out _ _ ⟨(blk_cell I4.out.blk 0).trans rfl, row_range X4.out⟩ (fun hHeld => ?_)
    clear hK K
    refine norm_ (a' := ?_) ?_ ?_
    rotate_left
    · show Act.put _ (some 21) _ = _
      simp only [Act.put, List.setIfInBounds_toArray, List.set_cons_zero, List.set_cons_succ, i64_w, i32_w]
      rfl
    refine one_ (i := 10) (N := some 22) #[true, true, true, true, true, true, true, true, true, true, true, false, false, false] rfl rfl (by kernel_rfl) (by decide) (fun K hK => ?_)
    refine fl_step (base := base) (v := .slice Av fs.length cv) (fs := fs) (f := ⟨s, d, o, Ab, cb, b, t⟩) (gl := gl) (by rfl) (.tmp 16) (.tmp 21) (by rfl) (by rfl) (by rfl) I4.out.row E4.out hfs (Nat.le_trans hbase F4.out.size) ?_
    intro v5 w5 hq hg5 hat
    obtain ⟨A5', c5, hv5, hle5⟩ := q_slice hq
    subst hv5
    clear hle5
    have R5 := Aside0.mk hq
    have G5 := Aside0.mk hg5
    have A5 := Aside0.mk hat
    have B5 := Aside0.mk (blk_grown I4.out.blk hg5 I4.out.ne)
    clear hq hg5 hat
    refine hK.out _ _ ⟨(blk_cell B5.out 0).trans rfl, row_range (blk_grown X4.out G5.out (fun e => I4.out.typed X4.out (by decide) (by decide) (.inr e)))⟩ (fun hHeld => ?_)
    clear hK K
    refine norm_ (a' := ?_) ?_ ?_
    rotate_left
    · show Act.put _ (some 22) _ = _
      simp only [Act.put, List.setIfInBounds_toArray, List.set_cons_zero, List.set_cons_succ, i64_w, i32_w]
      rfl
    refine pure_ (i := 11) (N := some 23) (v := ?_) (a' := ?_) #[true, true, true, true, true, true, true, true, true, true, true, true, false, false] rfl rfl (by kernel_rfl) (fun _ _ _ h => h) (Or.inl ⟨by rfl, ?_⟩) ?_ ?_
    rotate_left
    · intro w'
      go_simp
      with_reducible rfl
    rotate_left
    · simp only [Act.put, List.setIfInBounds_toArray, List.set_cons_zero, List.set_cons_succ, i64_w, i32_w]
      rfl
    refine pure_ (i := 12) (N := some 24) (v := ?_) (a' := ?_) #[true, true, true, true, true, true, true, true, true, true, true, true, true, false] rfl rfl (by kernel_rfl) (fun _ _ _ h => h) (Or.inl ⟨by rfl, ?_⟩) ?_ ?_
    rotate_left
    · intro w'
      go_simp
      with_reducible rfl
    rotate_left
    · simp only [Act.put, List.setIfInBounds_toArray, List.set_cons_zero, List.set_cons_succ, i64_w, i32_w]
      rfl
    refine last_ (i := 13) (N := none) #[true, true, true, true, true, true, true, true, true, true, true, true, true, true] rfl rfl (by kernel_rfl) (by decide) (fun K hK => ?_)
    have f0 := blk_frozen B5.out 0
    have c1 := (blk_cell B5.out 0).trans (show (#[Value.slice Av fs.length cv] : Array Value)[0]? = some _ from rfl)
    refine skip_ (w1 := ?_) (by rfl) rfl ?_ ?_
    rotate_left
    · go_simp
      rfl
    refine hK.out _ _ ?_
    clear hK K
    refine done_ (by kernel_rfl) ?_
    go_wp2
    go_end0
    have A6 := A5.out
    rw [List.length_append, List.length_singleton] at A6
    have K := air_more I4.out Q4.out hle2 (Nat.le_trans hbase L3.out) HLt.out R5.out G5.out A5.out
    rw [List.length_append, List.length_singleton] at K
    refine ⟨rfl, Ab, cb, .slice A5' (fs.length + 1) c5, K.1, ?_, F4.out.trans K.2 (fun _ h => .inl h)⟩
    rcases A6 with h | ⟨k, h, hk⟩
    · exact .inl h
    · exact .inr ⟨k, h, Nat.le_trans F4.out.size hk⟩
  · have lt : ¬ (((fs.length : Nat) : Int) < 200) := by omega
    go_wp2
    go_end0
    exact ⟨rfl, .slice Av fs.length cv, I1.out, .inl rfl, F1.out⟩
end Go.Proofs.Ytaciokdgoogpiaa.NetT

/- Proved: slices.DeleteFunc over the datagrams in the air; conditions: the theorems' own premises. -/
import Derived.Test.YtaciokdgoogpiaaNRow
namespace Go.Proofs.Ytaciokdgoogpiaa.NetT
open Go.RowKit Go.Proofs.Ytaciokdgoogpiaa.YNet Go.Proofs.YtaciokdgoogpiaaW.PrintWords Go.Proofs.YtaciokdgoogpiaaW.PrintLast Go.Proofs.YtaciokdgoogpiaaW.PrintMore
set_option linter.unusedVariables false
set_option linter.unusedSimpArgs false
def kept (fs : List Fl) : List Fl := fs.filter (fun f => decide (f.t ≠ 0))
def gone (fs : List Fl) : List Fl := fs.filter (fun f => decide (f.t = 0))
theorem kept_all (fs : List Fl) (h : ∀ j (h : j < fs.length), (fs[j]).t ≠ 0) : kept fs = fs := by
  unfold kept
  rw [List.filter_eq_self]
  intro f hf
  obtain ⟨j, hj, rfl⟩ := List.mem_iff_getElem.1 hf
  simpa using h j hj
theorem gone_none (fs : List Fl) (h : ∀ j (h : j < fs.length), (fs[j]).t ≠ 0) : gone fs = [] := by
  unfold gone
  rw [List.filter_eq_nil_iff]
  intro f hf
  obtain ⟨j, hj, rfl⟩ := List.mem_iff_getElem.1 hf
  simpa using h j hj
theorem take_snoc' (fs : List Fl) (j : Nat) (h : j < fs.length) : fs.take (j + 1) = fs.take j ++ [fs[j]] := by
  rw [List.take_succ_eq_append_getElem h]
theorem kept_snoc (fs : List Fl) (j : Nat) (h : j < fs.length) (x : Fl) (hx : fs[j] = x) : kept (fs.take (j + 1)) = if x.t = 0 then kept (fs.take j) else kept (fs.take j) ++ [x] := by
  subst hx
  unfold kept
  rw [take_snoc' fs j h, List.filter_append]
  by_cases hz : (fs[j]).t = 0 <;> simp [hz]
theorem gone_snoc (fs : List Fl) (j : Nat) (h : j < fs.length) (x : Fl) (hx : fs[j] = x) : gone (fs.take (j + 1)) = if x.t = 0 then gone (fs.take j) ++ [x] else gone (fs.take j) := by
  subst hx
  unfold gone
  rw [take_snoc' fs j h, List.filter_append]
  by_cases hz : (fs[j]).t = 0 <;> simp [hz]
theorem kept_len (fs : List Fl) (j : Nat) : (kept (fs.take j)).length + (gone (fs.take j)).length = (fs.take j).length := by
  unfold kept gone
  generalize fs.take j = l
  induction l with
  | nil => rfl
  | cons x l ih => by_cases hz : x.t = 0 <;> simp [hz] at ih ⊢ <;> omega
theorem take_none (fs : List Fl) (k : Nat) (h : ∀ j (h2 : j < k), (h3 : j < fs.length) → (fs[j]).t ≠ 0) : kept (fs.take k) = fs.take k ∧ gone (fs.take k) = [] := by
  have h' : ∀ j (h : j < (fs.take k).length), ((fs.take k)[j]).t ≠ 0 := fun j hj => by
    rw [List.length_take] at hj
    rw [List.getElem_take]
    exact h j (by omega) (by omega)
  exact ⟨kept_all _ h', gone_none _ h'⟩
theorem row_room {w : World} {base gr off n c : Nat} {e : TypeId} {xs : List Value} (hq : QRow w base e 5 (.slice (some ⟨gr, off, none⟩) n c) n xs) (i m : Nat) (hi : i + m ≤ n) (hn : 0 < n) : w.there gr (off + i * 5) (m * 5) := by
  obtain ⟨hl, h⟩ := hq
  rcases h with ⟨h0, _⟩ | ⟨g, o, cap, cur, he, hg, hh, hnc, hm, hcs, ht⟩
  · omega
  · injection he with ha _ hc
    injection ha with ha
    injection ha with ha1 ha2 _
    subst ha1
    subst ha2
    intro j hj
    constructor
    · rw [blk_cell hh, Array.getElem?_eq_getElem (by rw [hcs]; rw [Nat.add_mul]; have := Nat.mul_le_mul_right 5 (Nat.le_trans hi hnc); rw [Nat.add_mul] at this; omega)]
      rfl
    · exact blk_frozen hh _
theorem row_clear {w : World} {base gr off n c : Nat} {e : TypeId} {xs : List Value} (hq : QRow w base e 5 (.slice (some ⟨gr, off, none⟩) n c) n xs) (p : Nat) (hp : p < n) (zs : List Value) (hz : zs.length = (n - p) * 5) :
    QRow (w.setCells gr (off + p * 5) zs) base e 5 (.slice (some ⟨gr, off, none⟩) p c) p (xs.take (p * 5)) := by
  obtain ⟨hl, h⟩ := hq
  refine ⟨by rw [List.length_take, hl]; omega, ?_⟩
  rcases h with ⟨h0, _⟩ | ⟨g, o, cap, cur, he, hg, hh, hnc, hm, hcs, ht⟩
  · omega
  · injection he with ha _ hc
    injection ha with ha
    injection ha with ha1 ha2 _
    subst ha1
    subst ha2
    subst hc
    obtain ⟨cur', h1, h2, h3⟩ := setCells_row zs (o * 5 + p * 5) w cur hh (by rw [hcs, hz]; omega)
    refine .inr ⟨gr, o, c, cur', rfl, hg, h1, by omega, hm, by rw [h2, hcs], ?_⟩
    have hs : cur.toList.length = (o + c) * 5 := by rw [Array.length_toList, hcs]
    rw [h3, ← ht, List.append_assoc, List.drop_append_of_le_length (by rw [List.length_take, hs]; omega), List.take_append_of_le_length (by rw [List.length_drop, List.length_take, hs]; omega), List.drop_take, List.take_take, List.take_take]
    congr 1
    omega
theorem box_put {w : World} {g : Nat} {cs : Array Value} {t : TypeId} (vs : List Value) (h : w.heap[g]? = some (.cells cs t (0, 0))) (hl : vs.length = cs.size) : (w.setCells g 0 vs).heap[g]? = some (.cells ⟨vs⟩ t (0, 0)) := by
  obtain ⟨cur', h1, h2, h3⟩ := setCells_row vs 0 w cs h (by omega)
  rw [h1, Nat.zero_add, hl, List.take_zero, List.nil_append, List.drop_of_length_le (by rw [Array.length_toList]; omega), List.append_nil] at *
  rw [← h3]
theorem box_there {w : World} {g : Nat} {cs : Array Value} {t : TypeId} (h : w.heap[g]? = some (.cells cs t (0, 0))) : w.there g 0 cs.size := fun j hj => by
  rw [Nat.zero_add]
  exact ⟨by rw [blk_cell h, Array.getElem?_eq_getElem hj]; rfl, blk_frozen h j⟩
theorem fl_all (f : Fl) : (⟨Fl.cells f⟩ : Array Value).all (·.oneCell') = true := by
  rw [List.all_toArray, List.all_eq_true]
  exact fl_one f
theorem set_take (X : List Fl) (p : Nat) (F : Fl) (h : p < X.length) : (X.set p F).take (p + 1) = X.take p ++ [F] := by
  rw [List.take_succ_eq_append_getElem (by rw [List.length_set]; exact h), List.getElem_set_self, List.take_set, List.set_eq_of_length_le (by rw [List.length_take]; omega)]
theorem clear_event {ops : Array Oper} {rest' : List Oper} {o : Oper} {a : Act} {Q' : Exit → Act → World → Prop} {W : World} (hgd : o.guard = none) (x : Operand)
    (ho : o.op = .call { callee := .builtin .clear, args := #[x], argTypes := #[50] }) (b off n c : Nat) (hx : a.eval x = .slice (some ⟨b, off, none⟩) n c) (hn : 0 < n) (ht : W.there b off (n * 5))
    (h : ∀ zs : List Value, zs.length = n * 5 → wpList Try.prog ops Q' rest' (a.put o.dst (.tuple #[])) (W.setCells b off zs)) :
    wpList Try.prog ops Q' (o :: rest') a W := by
  obtain ⟨zs, hl, hr⟩ := run_clear_fl W o.type b off n c hn (fun j hj => (ht j hj).1) (fun j hj => (ht j hj).2)
  refine wpList_plain hgd fun K hK => ?_
  unfold Oper.wp execOp
  simp only [ho, resolve, invoke, builtin, Sem.run_bind, Sem.run_pure, Result.andThen_ok, List.map_toArray, List.map_cons, List.map_nil, hx]
  erw [hr]
  exact hK _ _ (h zs hl)
set_option maxHeartbeats 4000000 in
set_option maxRecDepth 100000 in
theorem del_calls (w : World) (base bo ob c : Nat) (A : Option Addr) (vo : Value) (fs ms : List Fl) (hq : QRow w base 56 5 (.slice A fs.length c) fs.length (flCells fs)) (hO : IsOut w bo ob vo ms) (hbo : bo ≤ w.heap.size) (hms : ms.length + fs.length ≤ 200) :
    Calls Try.prog 17 #[.slice A fs.length c, tickFn ob] w fun e w' => ∃ (c' : Nat) (vo' : Value), e = .returned (.slice A (kept fs).length c') ∧ QRow w' base 56 5 (.slice A (kept fs).length c') (kept fs).length (flCells (kept fs)) ∧ IsOut w' bo ob vo' (ms ++ gone fs) ∧ (vo'.ownBlock = vo.ownBlock ∨ ∃ k, vo'.ownBlock = some k ∧ w.heap.size ≤ k) ∧ Frame w w' (fun k => AirFoot ob vo k ∨ some k = (Value.slice A fs.length c).ownBlock) := by
  have Q0 := Aside0.mk hq
  have O0 := Aside0.mk hO
  have F0 := Aside0.mk (Frame.refl w (AirFoot ob vo))
  have O0' := Aside0.mk hO
  have Q0f := Aside0.mk (show ∀ k, (Value.slice A fs.length c).ownBlock = some k → ¬ AirFoot ob vo k from fun k hk => by
    obtain ⟨_, cc, h1⟩ := q_typed hq k hk
    exact hO.typed h1 (by decide) (by decide))
  clear hq hO
  unfold tickFn
  go_enter Try.func17, Try.ntmps17
  go_wp2_with (go_at_call 21; refine stop_here ?_)
  refine ⟨?_⟩
  refine (idx_calls w base bo ob c A vo fs ms Q0.out O0.out hbo (by omega) (by omega)).mono ?_
  rintro e w1 ⟨i, v1, ms1, rfl, hcase, hO1, hV1, hF1⟩
  have O1 := Aside0.mk hO1
  have V1 := Aside0.mk hV1
  have F1 := Aside0.mk hF1
  clear hO1 hV1 hF1 O0 F0
  rcases hcase with ⟨rfl, rfl, hz⟩ | ⟨k, hk, rfl, rfl, hkz, hkn⟩
  · have Q1 := Aside0.mk (qi_keep Q0.out F1.out Q0f.out)
    have e1 := kept_all fs hz
    have e2 := gone_none fs hz
    go_wp2
    go_ret
    refine ⟨c, v1, ?_, ?_, ?_, V1.out, ⟨F1.out.os, F1.out.tape, F1.out.output, F1.out.size, fun k hk hn => F1.out.block k hk (fun h => hn (.inl h))⟩⟩
    · rw [e1]; rfl
    · rw [e1]; exact Q1.out
    · rw [e2, List.append_nil]; exact O1.out
  · clear Q0f
    obtain ⟨gr, off, hA⟩ := row_at Q0.out (by omega)
    subst hA
    have Q0f := Aside0.mk (show ¬ AirFoot ob vo gr from by
      obtain ⟨_, cc, h1⟩ := q_typed Q0.out gr rfl
      exact O0'.out.typed h1 (by decide) (by decide))
    have Q1 := Aside0.mk (qi_keep Q0.out F1.out (fun k hk => by
      have e : gr = k := Option.some.inj hk
      subst e
      exact Q0f.out))
    have G1 := Aside0.mk (show Frame w w1 (fun k => AirFoot ob vo k ∨ k = gr) from ⟨F1.out.os, F1.out.tape, F1.out.output, F1.out.size, fun k hk hn => F1.out.block k hk (fun h => hn (.inl h))⟩)
    have HT := Aside0.mk (take_none fs k (fun j h1 h2 => hkn j h1))
    have HKS := Aside0.mk (kept_snoc fs k hk fs[k] rfl)
    have HGS := Aside0.mk (gone_snoc fs k hk fs[k] rfl)
    rw [if_pos hkz] at HKS HGS
    rw [HT.out.1] at HKS
    rw [HT.out.2] at HGS
    have O2 : Aside0 (IsOut w1 bo ob v1 (ms ++ gone (fs.take (k + 1)))) := ⟨by rw [HGS.out]; exact O1.out⟩
    have HP : Aside0 ((kept (fs.take (k + 1))).length = k) := ⟨by rw [HKS.out, List.length_take]; omega⟩
    have Q0b := Aside0.mk Q0.out
    clear Q0 hkn F1 O0' O1 HGS HT
    have zk : 0 ≤ (k : Int) := by omega
    have zk1 : ¬ ((k : Int) = -1) := by omega
    have lk : (k : Int) + 1 ≤ (fs.length : Int) := by omega
    have l200 : (fs.length : Int) ≤ 200 := by omega
    have HKL := Aside0.mk (show k < fs.length from hk)
    clear hkz hk
    go_wp2
    go_loopg [5, 6] (fs.length - (k + 1)) (fun kq v5 v6 w' => ∃ (p j : Nat) (X : List Fl) (v2 : Value), p < j ∧ j ≤ fs.length ∧ v5 = .int .i64 (p : Int) ∧ v6 = .int .i64 (j : Int) ∧ Aside0 (kq = fs.length - j) ∧ Aside0 (p = (kept (fs.take j)).length) ∧ Aside0 (X.length = fs.length ∧ X.take p = kept (fs.take j) ∧ X.drop j = fs.drop j) ∧ Aside0 (QRow w' base 56 5 (.slice (some ⟨gr, off, none⟩) fs.length c) fs.length (flCells X)) ∧ Aside0 (IsOut w' bo ob v2 (ms ++ gone (fs.take j))) ∧ Aside0 (v2.ownBlock = vo.ownBlock ∨ ∃ k, v2.ownBlock = some k ∧ w.heap.size ≤ k) ∧ Aside0 (Frame w w' (fun k => AirFoot ob vo k ∨ k = gr)))
    case atStart =>
      have := HKL.out
      exact ⟨k, k + 1, fs, v1, by omega, by omega, rfl, by go_num, ⟨rfl⟩, ⟨HP.out.symm⟩, ⟨rfl, HKS.out.symm, rfl⟩, Q1, O2, V1, G1⟩
    case round =>
      clear Q1 O2 V1 G1
      obtain ⟨p, j, X, v2, hpj, hj, rfl, rfl, HK, HPL, HX, Q1, O1, V1, F1⟩ := hrel
      have zp : 0 ≤ (p : Int) := by omega
      have zj : 0 ≤ (j : Int) := by omega
      by_cases hlt : j < fs.length
      · have lt : (j : Int) < (fs.length : Int) := by omega
        have pt : (p : Int) < (fs.length : Int) := by omega
        go_wp2_with ((with_reducible refine gate_dst (N := 25) rfl ?_); refine stop_here ?_)
        refine ⟨?_⟩
        have hXj : ∃ h : j < X.length, X[j] = fs[j] := by
          have h1 : j < X.length := by rw [HX.out.1]; exact hlt
          refine ⟨h1, ?_⟩
          have e := congrArg (fun l => l[0]?) HX.out.2.2
          simp only [List.getElem?_drop, Nat.add_zero] at e
          rw [List.getElem?_eq_getElem h1, List.getElem?_eq_getElem hlt] at e
          exact Option.some.inj e
        obtain ⟨hjX, hXj⟩ := hXj
        have xr := fl_range (fs := X) (c := c) (by rw [HX.out.1]; exact Q1.out) j hjX
        rw [hXj] at xr
        obtain ⟨F, hF⟩ : ∃ F, fs[j] = F := ⟨_, rfl⟩
        rw [hF] at xr
        have HKS := Aside0.mk (kept_snoc fs j hlt F hF)
        have HGS := Aside0.mk (gone_snoc fs j hlt F hF)
        have HFX := Aside0.mk (hXj.trans hF)
        have HLT := Aside0.mk hlt
        refine wpList_load_mid rfl 56 (.tmp 24) rfl gr (off + j * 5) rfl (Fl.cells F) _ xr Try.underlying56 rfl ?hi ?_
        case hi => rfl
        clear xr hF hXj
        go_wp2_with ((with_reducible refine gate_dst (N := 7) rfl ?_); refine stop_here ?_)
        refine ⟨?_⟩
        refine box_event rfl (N := 7) rfl (cs := ⟨Fl.cells ⟨⟨#[]⟩, 0, ⟨#[]⟩, none, 0, [], 0⟩⟩) (t := 56) ?hr7 ?_
        case hr7 => first | (go_simp; done) | (go_simp; rfl)
        intro m hm w2 hbox hb
        have N2 := Aside0.mk (show m ≠ gr from fun e => by have := q_lt Q1.out gr rfl; omega)
        have M2 := Aside0.mk (show w.heap.size ≤ m by rw [hm]; exact F1.out.size)
        have X2 := Aside0.mk hbox
        have Q2 := Aside0.mk (qi_below Q1.out hb)
        have O2 := Aside0.mk (O1.out.below hb)
        have F2 := Aside0.mk (F1.out.trans (Frame.of_below hb) (fun _ h => h.elim))
        clear hm hbox hb Q1 O1 F1
        go_wp2_with ((with_reducible refine gate_store (t := 56) (p := 7) rfl ?_); refine stop_here ?_)
        refine ⟨?_⟩
        refine wpList_store_mid rfl 56 (.tmp 7) (.tmp 25) rfl m 0 ⟨Fl.cells F⟩ rfl rfl (by have h := box_there X2.out; exact h) ?hi7 (fl_all F) ?_
        case hi7 => rfl
        have X3 := Aside0.mk (box_put (Fl.cells F) X2.out rfl)
        have G3 := Aside0.mk (Frame.of_setCells w2 m 0 (Fl.cells F))
        have Q3 := Aside0.mk (qi_keep Q2.out G3.out (fun k hk e => N2.out (e ▸ (Option.some.inj hk).symm)))
        have O3 := Aside0.mk (O2.out.keep G3.out (fun e => by
          have := O2.out.blk.symm.trans (e ▸ X2.out)
          simp at this) (fun k hk e => by
          obtain ⟨_, cc, h⟩ := q_typed O2.out.row k hk
          have := h.symm.trans (e ▸ X2.out)
          simp at this))
        have F3 := Aside0.mk (F2.out.trans G3.out (fun i e => .inr (e ▸ M2.out)))
        obtain ⟨w3, hw3⟩ : ∃ w3, w2.setCells m 0 (Fl.cells F) = w3 := ⟨_, rfl⟩
        have e3 : w2.setCells m 0 (⟨Fl.cells F⟩ : Array Value).toList = w3 := hw3
        rw [e3]
        rw [hw3] at X3 Q3 O3 F3
        clear hw3 e3 G3 X2 Q2 O2 F2
        go_wp2_with ((with_reducible refine gate_dst (N := 27) rfl ?_); refine stop_here ?_)
        refine ⟨?_⟩
        refine wpList_load_row rfl 56 (.tmp 7) rfl m rfl 56 ⟨Fl.cells F⟩ (0, 0) _ X3.out Try.underlying56 rfl rfl ?_
        go_wp2_with (go_at_call 18; refine stop_here ?_)
        refine ⟨?_⟩
        refine (clo_calls _ bo ob v2 (ms ++ gone (fs.take j)) F O3.out (Nat.le_trans hbo F3.out.size) ?hms).mono ?_
        case hms =>
          have := kept_len fs j
          rw [List.length_take] at this
          rw [List.length_append]
          omega
        rintro e w4 ⟨rfl, v3, hO4, hV4, hF4⟩
        have O4 : Aside0 (IsOut w4 bo ob v3 (ms ++ gone (fs.take (j + 1)))) := ⟨by
          rw [HGS.out]
          by_cases hz : F.t = 0
          · rw [if_pos hz] at hO4 ⊢
            rw [← List.append_assoc]; exact hO4
          · rw [if_neg hz] at hO4 ⊢
            exact hO4⟩
        have X4 := Aside0.mk (hF4.blk X3.out (O3.out.typed X3.out (by decide) (by decide)))
        have Q4 := Aside0.mk (qi_keep Q3.out hF4 (fun k hk => by
          obtain ⟨_, cc, h⟩ := q_typed Q3.out k hk
          exact O3.out.typed h (by decide) (by decide)))
        have V4 := Aside0.mk (own_chain2 V1.out hV4 F3.out.size)
        have F4 := Aside0.mk (F3.out.trans hF4 (fun k hk => by
          rcases foot_chain V1.out k hk with h | h
          · exact .inl (.inl h)
          · exact .inr h))
        clear hO4 hV4 hF4 X3 Q3 O3 F3 V1
        by_cases hz : F.t = 0
        · have dz : decide (F.t = 0) = true := by simpa using hz
          rw [if_pos hz] at HKS
          go_wp2
          go_roundg (fs.length - j - 1)
          case measure => have := HK.out; have := HLT.out; omega
          case rel =>
            exact ⟨p, j + 1, X, v3, by omega, by omega, rfl, by go_num, ⟨by omega⟩, ⟨by rw [HKS.out]; exact HPL.out⟩, ⟨HX.out.1, by rw [HKS.out]; exact HX.out.2.1, by
              have := congrArg (List.drop 1) HX.out.2.2
              simpa only [List.drop_drop] using this⟩, Q4, O4, V4, F4⟩
        · have dz : decide (F.t = 0) = false := by simpa using hz
          rw [if_neg hz] at HKS
          go_wp2_with ((with_reducible refine gate_dst (N := 32) rfl ?_); refine stop_here ?_)
          refine ⟨?_⟩
          refine wpList_load_row rfl 56 (.tmp 7) rfl m rfl 56 ⟨Fl.cells F⟩ (0, 0) _ X4.out Try.underlying56 rfl rfl ?_
          go_wp2_with ((with_reducible refine gate_store (t := 56) (p := 33) rfl ?_); refine stop_here ?_)
          refine ⟨?_⟩
          have HPX : p < X.length := by rw [HX.out.1]; exact Nat.lt_trans hpj HLT.out
          refine wpList_store_mid rfl 56 (.tmp 33) (.tmp 32) rfl gr (off + p * 5) ⟨Fl.cells F⟩ rfl rfl (by have h := row_room Q4.out p 1 (by have := HLT.out; omega) (by have := HLT.out; omega); exact h) ?hi33 (fl_all F) ?_
          case hi33 => rfl
          have Q5 := Aside0.mk (row_set Q4.out p (by rw [HX.out.1] at HPX; exact HPX) (Fl.cells F) rfl)
          rw [← flCells_set X p F HPX] at Q5
          have G5 := Aside0.mk (Frame.of_setCells w4 gr (off + p * 5) (Fl.cells F))
          have O5 := Aside0.mk (O4.out.keep G5.out (fun e => by
            obtain ⟨_, cc, h⟩ := q_typed Q4.out gr rfl
            have := O4.out.blk.symm.trans (e ▸ h)
            simp at this) (fun k hk e => by
            obtain ⟨_, cc, h⟩ := q_typed O4.out.row k hk
            obtain ⟨_, cc', h'⟩ := q_typed Q4.out gr rfl
            have := h.symm.trans (e ▸ h')
            simp at this))
          have F5 := Aside0.mk (F4.out.trans G5.out (fun i e => .inl (.inr e)))
          obtain ⟨w5, hw5⟩ : ∃ w5, w4.setCells gr (off + p * 5) (Fl.cells F) = w5 := ⟨_, rfl⟩
          have e5 : w4.setCells gr (off + p * 5) (⟨Fl.cells F⟩ : Array Value).toList = w5 := hw5
          rw [e5]
          rw [hw5] at Q5 O5 F5
          clear hw5 e5 G5 Q4 O4 F4 X4
          have lp : (p : Int) + 1 ≤ 200 := by omega
          go_wp2
          go_roundg (fs.length - j - 1)
          case measure => have := HK.out; have := HLT.out; omega
          case rel =>
            exact ⟨p + 1, j + 1, X.set p F, v3, by omega, by omega, by go_num, by go_num, ⟨by omega⟩, ⟨by rw [HKS.out, List.length_append, List.length_singleton, ← HPL.out]⟩, ⟨by rw [List.length_set]; exact HX.out.1, by rw [set_take X p F HPX, HX.out.2.1, HKS.out], by
              rw [List.drop_set_of_lt (by omega)]
              have := congrArg (List.drop 1) HX.out.2.2
              simpa only [List.drop_drop] using this⟩, Q5, O5, V4, F5⟩
      · have HJ : Aside0 (j = fs.length) := ⟨by omega⟩
        have lt : ¬ ((j : Int) < (fs.length : Int)) := by omega
        have pt : (p : Int) < (fs.length : Int) := by omega
        have HC : fs.length ≤ c := by
          obtain ⟨A', c', he, h⟩ := q_slice Q1.out
          injection he with _ _ he
          subst he
          exact h
        have pc : ¬ (c = p) := by omega
        go_wp2_with ((with_reducible refine gate_builtin (b := .clear) rfl ?_); refine stop_here ?_)
        refine ⟨?_⟩
        have HPJ := Aside0.mk (show p < fs.length by omega)
        refine clear_event rfl (.tmp 38) rfl gr (off + p * 5) (fs.length - p) (c - p) rfl (by omega) (row_room Q1.out p (fs.length - p) (by omega) (by omega)) ?_
        intro zs hz
        have Q5 := Aside0.mk (row_clear Q1.out p HPJ.out zs hz)
        have G5 := Aside0.mk (Frame.of_setCells wr gr (off + p * 5) zs)
        have O5 := Aside0.mk (O1.out.keep G5.out (fun e => by
            obtain ⟨_, cc, h⟩ := q_typed Q1.out gr rfl
            have := O1.out.blk.symm.trans (e ▸ h)
            simp at this) (fun k hk e => by
            obtain ⟨_, cc, h⟩ := q_typed O1.out.row k hk
            obtain ⟨_, cc', h'⟩ := q_typed Q1.out gr rfl
            have := h.symm.trans (e ▸ h')
            simp at this))
        have F5 := Aside0.mk (F1.out.trans G5.out (fun i e => .inl (.inr e)))
        generalize wr.setCells gr (off + p * 5) zs = w5 at Q5 O5 F5 ⊢
        clear Q1 O1 F1 G5 hz
        go_wp2
        go_ret
        have EK : kept fs = kept (fs.take j) := by rw [HJ.out, List.take_length]
        have EG : gone fs = gone (fs.take j) := by rw [HJ.out, List.take_length]
        rw [EK, EG, ← HPL.out]
        refine ⟨c, v2, rfl, ?_, O5.out, V1.out, ⟨F5.out.os, F5.out.tape, F5.out.output, F5.out.size, fun k hk hn => F5.out.block k hk (fun h => hn (by
          rcases h with h | h
          · exact .inl h
          · exact .inr (by rw [h]; rfl)))⟩⟩
        rw [← HX.out.2.1]
        have Q6 := Q5.out
        rw [show flCells (X.take p) = (flCells X).take (p * 5) by
          have e : flCells X = flCells (X.take p) ++ flCells (X.drop p) := by rw [← flCells_append, List.take_append_drop]
          rw [e, List.take_left' (by rw [flCells_length, List.length_take, HX.out.1]; have := HPJ.out; omega)]]
        exact Q6
end Go.Proofs.Ytaciokdgoogpiaa.NetT

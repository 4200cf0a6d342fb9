/- Proved: (*net.Air).Tick takes a tick; conditions: the theorems' own premises. -/
import Derived.Test.YtaciokdgoogpiaaNDel
namespace Go.Proofs.Ytaciokdgoogpiaa.NetT
open Go.RowKit Go.Proofs.Ytaciokdgoogpiaa.YNet Go.Proofs.YtaciokdgoogpiaaW.PrintWords Go.Proofs.YtaciokdgoogpiaaW.PrintLast Go.Proofs.YtaciokdgoogpiaaW.PrintMore
set_option linter.unusedVariables false
set_option linter.unusedSimpArgs false
def Fl.less (f : Fl) : Fl := { f with t := f.t - 1 }
theorem flCells_take (X : List Fl) (p : Nat) : flCells (X.take p) = (flCells X).take (p * 5) := by
  by_cases h : p ≤ X.length
  · have e : flCells X = flCells (X.take p) ++ flCells (X.drop p) := by rw [← flCells_append, List.take_append_drop]
    rw [e, List.take_left' (by rw [flCells_length, List.length_take]; omega)]
  · rw [List.take_of_length_le (by omega), List.take_of_length_le (by rw [flCells_length]; omega)]
theorem Frame.mono {w w1 : World} {S S' : Nat → Prop} (h : Frame w w1 S) (hs : ∀ k, S k → S' k) : Frame w w1 S' := ⟨h.os, h.tape, h.output, h.size, fun k hk hn => h.block k hk (fun h => hn (hs k h))⟩
theorem own_slice (A : Option Addr) (n c n' c' : Nat) : (Value.slice A n c).ownBlock = (Value.slice A n' c').ownBlock := by cases A <;> rfl
/-- One cell of a row is stored. -/
theorem row_cell {w : World} {base gr off n c : Nat} {e : TypeId} {xs : List Value} (hq : QRow w base e 5 (.slice (some ⟨gr, off, none⟩) n c) n xs) (p : Nat) (hp : p < n * 5) (u : Value) :
    QRow (w.setCell ⟨gr, off + p, none⟩ u) base e 5 (.slice (some ⟨gr, off, none⟩) n c) n (xs.set p u) := by
  obtain ⟨hl, h⟩ := hq
  refine ⟨by rw [List.length_set]; exact hl, ?_⟩
  rcases h with ⟨h0, _⟩ | ⟨g, o, cap, cur, he, hg, hh, hnc, hm, hcs, ht⟩
  · omega
  · injection he with ha _ hc
    injection ha with ha
    injection ha with ha1 ha2 _
    subst ha1
    subst ha2
    subst hc
    refine .inr ⟨gr, o, c, _, rfl, hg, blk_set hh (o * 5 + p) u, hnc, hm, by rw [Array.size_setIfInBounds]; exact hcs, ?_⟩
    rw [Array.toList_setIfInBounds, List.drop_set, if_neg (by omega), List.take_set, ht, Nat.add_sub_cancel_left]
theorem less_set (X : List Fl) (i : Nat) (h : i < X.length) : (flCells X).set (i * 5 + 4) (.int .i64 ((X[i]).t - 1)) = flCells (X.set i (X[i]).less) := by
  rw [flCells_set X i _ h]
  have e : flCells X = (flCells X).take (i * 5) ++ Fl.cells X[i] ++ (flCells X).drop (i * 5 + 5) := by
    have h1 := flCells_set X i X[i] h
    rwa [List.set_getElem_self] at h1
  have hl : ((flCells X).take (i * 5)).length = i * 5 := by rw [List.length_take, flCells_length]; omega
  conv => lhs; rw [e]
  rw [List.append_assoc, List.set_append_right _ _ (by omega), hl, show i * 5 + 4 - i * 5 = 4 by omega, List.append_assoc]
  rfl
/-- Of the first i datagrams the ticks are one less. -/
def lessTo (X : List Fl) (i : Nat) : List Fl := (X.take i).map Fl.less ++ X.drop i
theorem lessTo_length (X : List Fl) (i : Nat) : (lessTo X i).length = X.length := by
  unfold lessTo
  rw [List.length_append, List.length_map, List.length_take, List.length_drop]; omega
theorem lessTo_at (X : List Fl) (i : Nat) (h : i < X.length) : (lessTo X i)[i]'(by rw [lessTo_length]; exact h) = X[i] := by
  unfold lessTo
  rw [List.getElem_append_right (by rw [List.length_map, List.length_take]; omega), List.getElem_drop]
  congr 1
  rw [List.length_map, List.length_take]; omega
theorem lessTo_succ (X : List Fl) (i : Nat) (h : i < X.length) : (lessTo X i).set i (X[i]).less = lessTo X (i + 1) := by
  unfold lessTo
  have hl : ((X.take i).map Fl.less).length = i := by rw [List.length_map, List.length_take]; omega
  rw [List.set_append_right _ _ (by omega), hl, Nat.sub_self, List.take_succ_eq_append_getElem h, List.map_append, List.append_assoc, List.drop_eq_getElem_cons h]
  rfl
theorem lessTo_all (X : List Fl) : lessTo X X.length = X.map Fl.less := by
  unfold lessTo
  rw [List.take_length, List.drop_length, List.append_nil]
theorem less_far {X : List Fl} (h : X.Pairwise Far) : (X.map Fl.less).Pairwise Far := by
  rw [List.pairwise_map]
  exact h.imp (fun h => h)
theorem FlOk.less {w : World} {base : Nat} {f : Fl} (h : FlOk w base f) : FlOk w base f.less := ⟨h.bytes, h.cap, h.own⟩
/-- The datagrams that a tick answers, in new memory. -/
def Ticked (w : World) (base : Nat) (e : Ending) (ms : List Fl) : Prop := ∃ vo, e = .returned vo ∧ QRow w base 32 4 vo ms.length (mlCells ms)
set_option maxHeartbeats 4000000 in
set_option maxRecDepth 100000 in
theorem tick_calls (w : World) (base g : Nat) (v : Value) (fs : List Fl) (hI : IsAir w base g v fs) (hfs : fs.length ≤ 200) (ht : ∀ f ∈ fs, 0 ≤ f.t ∧ f.t ≤ 3000) :
    Calls Try.prog 12 #[.pointer (some ⟨g, 0, none⟩)] w fun e w' => ∃ (v' : Value), Ticked w' w.heap.size e (gone fs) ∧ IsAir w' base g v' ((kept fs).map Fl.less) ∧ v'.ownBlock = v.ownBlock ∧ Frame w w' (AirFoot g v) := by
  have I0 := Aside0.mk hI
  have HT := Aside0.mk ht
  clear hI ht
  obtain ⟨Av, cv, hv, hle⟩ := q_slice I0.out.row
  subst hv
  go_enter Try.func12, Try.ntmps12
  go_wp2_with ((with_reducible refine gate_dst (N := 3) rfl ?_); refine stop_here ?_)
  refine ⟨?_⟩
  refine box_event rfl (N := 3) rfl (cs := #[.slice none 0 0]) (t := 26) ?hr3 ?_
  case hr3 => first | (go_simp; done) | (go_simp; rfl)
  intro ob hob w1 hbox hb
  have I1 := Aside0.mk (I0.out.below hb)
  have L1 := Aside0.mk (show w.heap.size ≤ ob by rw [hob]; exact Nat.le_refl _)
  have F1 := Aside0.mk (Frame.of_below hb)
  have O1 : Aside0 (IsOut w1 w.heap.size ob (.slice none 0 0) []) := ⟨⟨hbox, ⟨rfl, .inl ⟨rfl, none, rfl, fun a ha => by cases ha⟩⟩⟩⟩
  clear hob hbox hb
  have c0 := (blk_cell I1.out.blk 0).trans (show (#[Value.slice Av fs.length cv] : Array Value)[0]? = some _ from rfl)
  go_wp2_with (go_at_call 17; refine stop_here ?_)
  refine ⟨?_⟩
  refine (del_calls w1 base w.heap.size ob cv Av (.slice none 0 0) fs [] I1.out.row O1.out F1.out.size (by simpa using hfs)).mono ?_
  rintro e w2 ⟨c2, vo, rfl, hQ, hO, hV, hF⟩
  have HGL := Aside0.mk (show g < ob from Nat.lt_of_lt_of_le (blk_lt I0.out.blk) L1.out)
  have hgn : ¬ (AirFoot ob (.slice none 0 0) g ∨ some g = (Value.slice Av fs.length cv).ownBlock) := by
    rintro ((h | h) | h)
    · have := HGL.out; omega
    · cases h
    · exact I0.out.ne h
  have B2 := Aside0.mk (hF.blk I1.out.blk hgn)
  have F2 := Aside0.mk ((F1.out.mono (S' := AirFoot g (.slice Av fs.length cv)) (fun _ h => h.elim)).trans hF (fun k hk => by
    rcases hk with (h | h) | h
    · exact .inr (by rw [h]; exact L1.out)
    · cases h
    · exact .inl (.inr h)))
  have Q2 := Aside0.mk hQ
  have O2 := Aside0.mk hO
  have HI := Aside0.mk I0.out
  obtain ⟨K, hK⟩ : ∃ K, kept fs = K := ⟨_, rfl⟩
  have HKL := Aside0.mk (show K.length ≤ 200 by rw [← hK]; exact Nat.le_trans (List.length_filter_le _ _) hfs)
  have HKT := Aside0.mk (show ∀ i (h : i < K.length), 1 ≤ (K[i]).t ∧ (K[i]).t ≤ 3000 from fun i h => by
    have hm : K[i] ∈ kept fs := by rw [hK]; exact List.getElem_mem h
    have h2 := List.mem_filter.1 hm
    have h3 := HT.out _ h2.1
    have h4 : (K[i]).t ≠ 0 := by simpa using h2.2
    omega)
  rw [hK] at Q2
  have HKE := Aside0.mk hK
  have c0' := (blk_cell B2.out 0).trans (show (#[Value.slice Av fs.length cv] : Array Value)[0]? = some _ from rfl)
  have f0 := blk_frozen B2.out 0
  rw [hK]
  clear hQ hO hV hF hgn hK c0 I1 O1 F1 I0 HT
  go_upto_region 3 with (fail)
  have B3 := Aside0.mk ((blk_set B2.out 0 (.slice Av K.length c2)).trans (show _ = some (Obj.cells #[.slice Av K.length c2] 52 (0, 0)) from rfl))
  have G3 := Aside0.mk (Frame.of_set w2 g 0 (.slice Av K.length c2))
  have Q3 := Aside0.mk (qi_keep Q2.out G3.out (fun k hk e => HI.out.ne (by rw [← e]; exact ((own_slice Av _ _ _ _).trans hk).symm)))
  have O3 := Aside0.mk (O2.out.keep G3.out (fun e => by have := HGL.out; omega) (fun k hk e => by
    obtain ⟨_, cc, h⟩ := q_typed O2.out.row k hk
    have := h.symm.trans (e ▸ B2.out)
    simp at this))
  have F3 := Aside0.mk (F2.out.trans G3.out (fun k hk => .inl (.inl hk)))
  obtain ⟨w3, hw3⟩ : ∃ w3, w2.setCell ⟨g, 0, none⟩ (.slice Av K.length c2) = w3 := ⟨_, rfl⟩
  rw [hw3] at B3 Q3 O3 F3
  rw [hw3]
  clear hw3 G3 B2 Q2 O2 F2 c0' f0
  have kl : (K.length : Int) ≤ 200 := by have := HKL.out; omega
  have c0 := (blk_cell B3.out 0).trans (show (#[Value.slice Av K.length c2] : Array Value)[0]? = some _ from rfl)
  go_upto_region 4 with (fail)
  clear c0
  go_loopg [19] K.length (fun kq v19 w' => ∃ (i : Nat), i ≤ K.length ∧ v19 = .int .i64 (i : Int) ∧ Aside0 (kq = K.length - i) ∧ Aside0 (w'.heap[g]? = some (.cells #[.slice Av K.length c2] 52 (0, 0))) ∧ Aside0 (QRow w' base 56 5 (.slice Av K.length c2) K.length (flCells (lessTo K i))) ∧ Aside0 (IsOut w' w.heap.size ob vo ([] ++ gone fs)) ∧ Aside0 (Frame w w' (AirFoot g (.slice Av fs.length cv))))
  case atStart => exact ⟨0, by omega, rfl, ⟨rfl⟩, B3, Q3, O3, F3⟩
  case round =>
    clear B3 Q3 O3 F3
    obtain ⟨i, hi, rfl, HK, B3, Q3, O3, F3⟩ := hrel
    have zi : 0 ≤ (i : Int) := by omega
    by_cases hlt : i < K.length
    · have lt : (i : Int) < (K.length : Int) := by omega
      have HLT := Aside0.mk hlt
      obtain ⟨gr, off, hA⟩ := row_at Q3.out (by omega)
      subst hA
      have hn : i < (lessTo K i).length := by rw [lessTo_length]; exact hlt
      have xr := fl_range (fs := lessTo K i) (c := c2) (by rw [lessTo_length]; exact Q3.out) i hn
      rw [lessTo_at K i hlt] at xr
      obtain ⟨T, hT⟩ : ∃ T, (K[i]).t = T := ⟨_, rfl⟩
      have ht := HKT.out i hlt
      rw [hT] at ht
      obtain ⟨ht0, ht1⟩ := ht
      have c4 : wr.cell? ⟨gr, off + i * 5 + 4, none⟩ = some (.int .i64 T) := by rw [← hT]; exact xr 4 _ rfl
      have f4 : wr.frozen? ⟨gr, off + i * 5 + 4, none⟩ = false := by
        have h := (row_room Q3.out i 1 (by omega) (by omega) 4 (by omega)).2
        exact h
      have HTT := Aside0.mk hT
      clear xr hn hT
      have c0 := (blk_cell B3.out 0).trans (show (#[Value.slice (some ⟨gr, off, none⟩) K.length c2] : Array Value)[0]? = some _ from rfl)
      go_upto_region 7 with (fail)
      have NG := Aside0.mk (show gr ≠ g from fun e => by
        obtain ⟨_, cc, h⟩ := q_typed Q3.out gr rfl
        subst e
        have := h.symm.trans B3.out
        simp at this)
      have Q4 := Aside0.mk (row_cell Q3.out (i * 5 + 4) (by omega) (.int .i64 (T - 1)))
      rw [show (flCells (lessTo K i)).set (i * 5 + 4) (.int .i64 (T - 1)) = flCells (lessTo K (i + 1)) by
        have h := less_set (lessTo K i) i (by rw [lessTo_length]; exact hlt)
        rw [lessTo_at K i hlt, HTT.out, lessTo_succ K i hlt] at h
        exact h, ← Nat.add_assoc] at Q4
      have G4 := Aside0.mk (Frame.of_set wr gr (off + i * 5 + 4) (.int .i64 (T - 1)))
      have B4 := Aside0.mk (G4.out.blk B3.out (fun e => NG.out e.symm))
      have O4 := Aside0.mk (O3.out.keep G4.out (fun e => by
        obtain ⟨_, cc, h⟩ := q_typed Q3.out gr rfl
        have := h.symm.trans (e ▸ O3.out.blk)
        simp at this) (fun k hk e => by
        obtain ⟨_, cc, h⟩ := q_typed O3.out.row k hk
        obtain ⟨_, cc', h'⟩ := q_typed Q3.out gr rfl
        have := h.symm.trans (e ▸ h')
        simp at this))
      have F4 := Aside0.mk (F3.out.trans G4.out (fun k hk => .inl (.inr (by rw [hk]; rfl))))
      obtain ⟨w5, hw5⟩ : ∃ w5, wr.setCell ⟨gr, off + i * 5 + 4, none⟩ (.int .i64 (T - 1)) = w5 := ⟨_, rfl⟩
      rw [hw5] at B4 Q4 O4 F4
      rw [hw5]
      clear hw5 G4 B3 Q3 O3 F3 c0 c4 f4
      go_wp2
      go_roundg (K.length - i - 1)
      case measure => have := HK.out; have := HLT.out; omega
      case rel => exact ⟨i + 1, by omega, by go_num, ⟨by omega⟩, B4, Q4, O4, F4⟩
    · have HI' : Aside0 (i = K.length) := ⟨by omega⟩
      have lt : ¬ ((i : Int) < (K.length : Int)) := by omega
      have c0 := (blk_cell O3.out.blk 0).trans (show (#[vo] : Array Value)[0]? = some _ from rfl)
      go_wp2
      go_ret
      have e1 : (kept fs).map Fl.less = lessTo K i := by rw [HKE.out, HI'.out, lessTo_all]
      have e2 : K.length = (lessTo K i).length := (lessTo_length K i).symm
      refine ⟨⟨vo, rfl, ?_⟩, .slice Av K.length c2, ?_, own_slice Av _ _ _ _, F3.out⟩
      rotate_left
      · refine ⟨B3.out, ?_, ?_, ?_⟩
        · rw [e1, lessTo_length]; exact Q3.out
        · intro f hf
          obtain ⟨x, hx, rfl⟩ := List.mem_map.1 hf
          have hm := (List.mem_filter.1 hx).1
          exact ((HI.out.els x hm).keep F3.out (HI.out.els_off x hm)).less
        · exact less_far (HI.out.apart.sublist List.filter_sublist)
      · have h := O3.out.row
        rw [List.nil_append] at h
        exact h
end Go.Proofs.Ytaciokdgoogpiaa.NetT

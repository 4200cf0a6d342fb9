/- Proved: (*hash.Sum).Add adds parts; conditions: the theorems' own premises. -/
import Derived.Test.YtlniejfbkcgneaaHAddA
namespace Go.Proofs.Ytlniejfbkcgneaa.HashT
open Go.RowKit Go.Proofs.Ytlniejfbkcgneaa.YHash Go.Proofs.YtlniejfbkcgneaaW.PrintWords Go.Proofs.YtlniejfbkcgneaaW.PrintLast Go.Proofs.YtlniejfbkcgneaaW.PrintMore
set_option linter.unusedVariables false
set_option linter.unusedSimpArgs false
def more (n : Int) (p : List Int) : Int := IntKind.u64.wrap (n + IntKind.u64.wrap (p.length : Int))
theorem more_is {n : Nat} {p : List Int} (h : n + p.length ≤ 1001000) : more (n : Int) p = ((n + p.length : Nat) : Int) := by
  unfold more IntKind.wrap
  simp [IntKind.bits, IntKind.signed]
  omega
theorem take_flat (ps : List (List Int)) (i : Nat) (p : List Int) (h : ps.drop i = p :: ps.drop (i + 1)) : (ps.take (i + 1)).flatten = (ps.take i).flatten ++ p := by
  have hi : i < ps.length := by
    by_cases hi : i < ps.length
    · exact hi
    · rw [List.drop_eq_nil_of_le (by omega)] at h; cases h
  have hp : ps[i] = p := by
    rw [List.drop_eq_getElem_cons hi] at h
    exact (List.cons.inj h).1
  rw [← List.take_append_getElem hi, List.flatten_append, hp]
  simp
theorem flat_len (ps : List (List Int)) (i : Nat) (p : List Int) (h : ps.drop i = p :: ps.drop (i + 1)) : (ps.take i).flatten.length + p.length ≤ ps.flatten.length := by
  have : ps.flatten = (ps.take i).flatten ++ (ps.drop i).flatten := by rw [← List.flatten_append, List.take_append_drop]
  rw [this, h]
  simp
theorem own_chain {v v1 : Value} {r : Option Nat} {a b : Nat} (h : v1.ownBlock = v.ownBlock ∨ ∃ k, v1.ownBlock = some k ∧ b ≤ k) (h0 : v.ownBlock = r ∨ ∃ k, v.ownBlock = some k ∧ a ≤ k) (hab : a ≤ b) : v1.ownBlock = r ∨ ∃ k, v1.ownBlock = some k ∧ a ≤ k := by
  rcases h with h | ⟨k, h, hk⟩
  · rw [h]; exact h0
  · exact .inr ⟨k, h, Nat.le_trans hab hk⟩
set_option maxHeartbeats 4000000 in
set_option maxRecDepth 100000 in
theorem add_calls (g base : Nat) (r : Option Nat) (T : List Int) (A : Option Addr) (np cp : Nat) (ps : List (List Int)) (w : World) (hnp : ps.length = np) (hbase : base ≤ w.heap.size)
    (hs : SumAt w base g r T) (hp : PartsAt w A ps (Foot g r)) (hb : T.length + ps.flatten.length ≤ 1001000) (hnp1 : np ≤ 1000) :
    Calls Try.prog 12 #[.pointer (some ⟨g, 0, none⟩), .slice A np cp] w fun e w' => e = .returned (.pointer (some ⟨g, 0, none⟩)) ∧ ∃ r', SumAt w' base g r' (T ++ ps.flatten) ∧ (r' = r ∨ ∃ k, r' = some k ∧ w.heap.size ≤ k) ∧ Frame w w' (Foot g r) := by
  subst hnp
  obtain ⟨v, hv, hs⟩ := hs.is
  have HP := Aside0.mk hp
  have HI := Aside0.mk hs
  have HV0 := Aside0.mk hv
  clear hp hs hv
  go_enter Try.func12, Try.ntmps12
  go_wp2
  go_loopg [9] ps.length (fun kq v9 w' => ∃ (i : Nat) (v' : Value) (h' r' : List Int) (n' : Nat), i ≤ ps.length ∧ v9 = .int .i64 (i : Int) ∧ Aside0 (kq = ps.length - i) ∧ Aside0 (IsSum w' base g v' h' r' (n' : Int)) ∧ Aside0 ((h', r') = full (T ++ (ps.take i).flatten)) ∧ Aside0 (n' = T.length + (ps.take i).flatten.length) ∧ Aside0 (v'.ownBlock = r ∨ ∃ k, v'.ownBlock = some k ∧ w.heap.size ≤ k) ∧ Aside0 (Frame w w' (Foot g r)))
  case atStart => exact ⟨0, v, (full T).1, (full T).2, T.length, by omega, rfl, ⟨rfl⟩, HI, ⟨by simp⟩, ⟨by simp⟩, ⟨.inl HV0.out⟩, ⟨Frame.refl _ _⟩⟩
  case round =>
    obtain ⟨i, v', h', r', n', hi, rfl, HK, HI', HF, HN, HV, HFr⟩ := hrel
    by_cases hlt : i < ps.length
    · obtain ⟨b, o, rfl, hS, hat⟩ := HP.out (by omega)
      obtain ⟨A0, c, hc, hbts, hA⟩ := hat i hlt
      have hx := HFr.out.cell hc hS
      obtain ⟨p, hpp⟩ : ∃ p, p = ps[i] := ⟨_, rfl⟩
      rw [← hpp] at hx hbts hA
      have HBy := Aside0.mk (hbts.frame HFr.out hA)
      have HA := Aside0.mk hA
      have HPp := Aside0.mk (show ps.drop i = p :: ps.drop (i + 1) by rw [hpp]; exact List.drop_eq_getElem_cons (by omega))
      clear hc hbts hA hpp hat hS
      obtain ⟨A1, c1, hv, hle⟩ := q_slice HI'.out.row
      subst hv
      have c9 := (blk_cell HI'.out.blk 9).trans (sum_n _ _ _ HI'.out.eight)
      have c8 := (blk_cell HI'.out.blk 8).trans (sum_rest _ _ _ HI'.out.eight)
      have f9 := blk_frozen HI'.out.blk 9
      have f8 := blk_frozen HI'.out.blk 8
      have zt : 0 ≤ (i : Int) := by omega
      have lt : (i : Int) < (ps.length : Int) := by omega
      have HNg := Aside0.mk (show 0 < p.length → ∀ ad, A0 = some ad → ¬ (ad.block = g) from fun h0 ad e he => HA.out h0 ad e (.inl he))
      have HLe := Aside0.mk (show n' + p.length ≤ 1001000 by have := flat_len ps i p HPp.out; rw [HN.out]; omega)
      have HRl := Aside0.mk (show r'.length ≤ 63 by have := full_rest (T ++ (ps.take i).flatten); have e := congrArg (fun s => s.2.length) HF.out; replace e : r'.length = (full (T ++ (ps.take i).flatten)).2.length := e; omega)
      have HBs := Aside0.mk (show base ≤ wr.heap.size from Nat.le_trans hbase HFr.out.size)
      have HI1 := Aside0.mk (HI'.out.set_n (more n' p))
      have HBy1 := Aside0.mk (HBy.out.frame (Frame.of_set wr g 9 (.int .u64 (more n' p))) HNg.out)
      have HFr1 := Aside0.mk (HFr.out.trans (Frame.of_set wr g 9 (.int .u64 (more n' p))) (fun k hk => .inl (.inl hk)))
      have HBs1 := Aside0.mk (show base ≤ (wr.setCell ⟨g, 9, none⟩ (.int .u64 (more n' p))).heap.size from Nat.le_trans hbase HFr1.out.size)
      go_upto_region 5 with (fail)
      obtain ⟨W1, hW1⟩ : ∃ W1, wr.setCell ⟨g, 9, none⟩ (.int .u64 (more n' p)) = W1 := ⟨_, rfl⟩
      rw [hW1] at HI1 HBy1 HFr1 HBs1
      unfold more at hW1
      rw [hW1]
      clear hW1 c8 c9 f8 f9 HFr HBy HBs
      have c8 := (blk_cell HI1.out.blk 8).trans (sum_rest _ _ _ HI1.out.eight)
      go_wp2_with (at_builtin; refine stop_here ?_)
      refine ⟨?_⟩
      refine append_event (base := base) (v := .slice A1 r'.length c1) (rest := r') (p := p) (A := A0) (c := c) rfl (.tmp 27) (.tmp 28) rfl rfl rfl HI1.out.row HBy1.out (by have := HRl.out; have := HLe.out; omega) HBs1.out ?_
      intro v1 w1 hq hg hat
      obtain ⟨A2, c2, hv2, hle2⟩ := q_slice hq
      subst hv2
      have hB1 := blk_grown HI1.out.blk hg HI1.out.ne
      have HQ := Aside0.mk hq
      have HG := Aside0.mk hg
      have HAt := Aside0.mk hat
      clear hq hg hat c8
      have c8 := (blk_cell hB1 8).trans (sum_rest _ _ _ HI1.out.eight)
      have f8 := blk_frozen hB1 8
      have HB1 := Aside0.mk hB1
      clear hB1
      clear hx
      go_wp2
      obtain ⟨K, hKd⟩ : ∃ K, K = (r' ++ p).length / 64 := ⟨_, rfl⟩
      have HKd := Aside0.mk hKd
      clear hKd c8 f8
      have HI2 := Aside0.mk (IsSum.set_rest HB1.out HQ.out HI1.out.eight)
      have HV2 : Aside0 ((Value.slice A2 (r' ++ p).length c2).ownBlock = r ∨ ∃ k, (Value.slice A2 (r' ++ p).length c2).ownBlock = some k ∧ w.heap.size ≤ k) := ⟨own_chain HAt.out HV.out HFr1.out.size⟩
      have HFr2 := Aside0.mk ((HFr1.out.trans (Frame.of_grown HG.out) (fun k hk => by
        rcases HV.out with h | ⟨q, h, hq⟩
        · exact .inl (.inr (hk.trans h))
        · rw [h] at hk; cases hk; exact .inr hq)).trans (Frame.of_set w1 g 8 (.slice A2 (r' ++ p).length c2)) (fun k hk => .inl (.inl hk)))
      rw [List.length_append] at HI2 HV2 HFr2
      clear HB1 HQ HG HAt HI1 HFr1 HBy1 HBs1 hle2 hle
      go_loopg [] K (fun kq w' => ∃ (k : Nat) (v2 : Value) (h2 r2 : List Int), k ≤ K ∧ Aside0 (kq = K - k) ∧ Aside0 (IsSum w' base g v2 h2 r2 (more n' p)) ∧ Aside0 ((h2, r2) = chewB blockL k (h', r' ++ p)) ∧ Aside0 (r2.length + k * 64 = (r' ++ p).length) ∧ Aside0 (v2.ownBlock = r ∨ ∃ k, v2.ownBlock = some k ∧ w.heap.size ≤ k) ∧ Aside0 (Frame w w' (Foot g r)))
      case atStart => exact ⟨0, .slice A2 (r' ++ p).length c2, h', r' ++ p, by omega, ⟨rfl⟩, by rw [List.length_append]; exact HI2, ⟨rfl⟩, ⟨by omega⟩, by rw [List.length_append]; exact HV2, HFr2⟩
      case round =>
        clear HI2 HV2 HFr2
        obtain ⟨k, v2, h2, r2, hk, HKK, HI2, HC, HL, HV2, HFr2⟩ := hrel
        obtain ⟨A3, c3, hv3, hle3⟩ := q_slice HI2.out.row
        subst hv3
        have c8 := (blk_cell HI2.out.blk 8).trans (sum_rest _ _ _ HI2.out.eight)
        have f8 := blk_frozen HI2.out.blk 8
        by_cases hge : 64 ≤ r2.length
        · have hge' : (64 : Int) ≤ (r2.length : Int) := by omega
          obtain ⟨ad, hA3, _⟩ := q_cells HI2.out.row (by omega)
          subst hA3
          obtain ⟨bb, oo, hbb⟩ : ∃ bb oo, ad = ⟨bb, oo, none⟩ := by
            rcases HI2.out.row.2 with ⟨h0, _⟩ | ⟨gq, off, cap, cur, he, _⟩
            · omega
            · injection he with ha _ _
              injection ha with ha
              exact ⟨_, _, ha⟩
          subst hbb
          obtain ⟨A4, hA4⟩ : ∃ A4, (if c3 = (64 : Int).toNat then (some (⟨bb, oo, none⟩ : Addr)) else (some (⟨bb, oo, none⟩ : Addr)).map (·.add ((64 : Int).toNat * 1))) = A4 := ⟨_, rfl⟩
          obtain ⟨i0, hi0, hzz⟩ := Option.map_eq_some_iff.1 info5
          simp only [Prod.mk.injEq] at hzz
          have kt := cut_to (P := Try.prog) 22 5 .i64 Try.underlying22 hi0 (some ⟨bb, oo, none⟩) r2.length c3 64 (by omega) hge' hle3
          have kf := cut_from (P := Try.prog) 22 5 .i64 Try.underlying22 hi0 1 hzz.2.1 (some ⟨bb, oo, none⟩) r2.length c3 64 (by omega) hge'
          rw [hA4] at kf
          replace kt : ∀ W : World, (Instr.slice 22 (.slice (some ⟨bb, oo, none⟩) r2.length c3) none (some (.int .i64 64)) none).run Try.prog W = .ok (.slice (some ⟨bb, oo, none⟩) 64 c3) W := kt
          replace kf : ∀ W : World, (Instr.slice 22 (.slice (some ⟨bb, oo, none⟩) r2.length c3) (some (.int .i64 64)) none none).run Try.prog W = .ok (.slice A4 (r2.length - 64) (c3 - 64)) W := kf
          have HA4 := Aside0.mk hA4
          clear hA4 hzz hi0
          go_wp2_with (go_at_call 19; refine stop_here ?_)
          refine ⟨?_⟩
          have hlt64 : (r2.take 64).length = 64 := by rw [List.length_take]; omega
          have hrd : ∀ i : Nat, i < 64 → wr.cell? ⟨bb, oo + i, none⟩ = some (.int .u8 (rd (r2.take 64) i)) := fun i hi => by
            have := HI2.out.byte i (by omega)
            rw [this]
            congr 2
            unfold rd
            rw [Int.toNat_natCast, List.getD_eq_getElem?_getD, List.getD_eq_getElem?_getD, List.getElem?_take_of_lt hi]
          refine (block_calls g bb oo 64 c3 (r2.take 64) h2 HI2.out.eight (.slice (some ⟨bb, oo, none⟩) r2.length c3) (more n' p) wr (by omega) hlt64 hrd HI2.out.blk).mono ?_
          rintro e w3 ⟨rfl, hb3, hg3⟩
          clear hrd hlt64 c8 f8 hge'
          have HI3 := Aside0.mk (IsSum.block HI2.out hb3 (by rw [blockL_length]; exact HI2.out.eight) hg3)
          have HFr3 := Aside0.mk (HFr2.out.trans (Frame.of_grown hg3) (fun k hk => .inl (.inl (Option.some.inj hk))))
          have c8 := (blk_cell hb3 8).trans (sum_rest _ _ _ HI3.out.eight)
          have f8 := blk_frozen hb3 8
          have HB3 := Aside0.mk hb3
          clear hb3 hg3 kt
          go_wp2
          have hq := q_drop (k := 64) HI3.out.row hge
          have HI4 := Aside0.mk (IsSum.set_rest (rest := r2.drop 64) (v2 := .slice A4 (r2.drop 64).length (c3 - 64)) HB3.out (by
            have e : (nums .u8 r2).drop (64 * 1) = nums .u8 (r2.drop 64) := by unfold nums; rw [List.map_drop]
            rw [e] at hq
            rw [← HA4.out, List.length_drop]
            exact hq) HI3.out.eight)
          rw [List.length_drop] at HI4
          have HV4 : Aside0 ((Value.slice A4 (r2.length - 64) (c3 - 64)).ownBlock = r ∨ ∃ k, (Value.slice A4 (r2.length - 64) (c3 - 64)).ownBlock = some k ∧ w.heap.size ≤ k) := ⟨by
            have e : (Value.slice A4 (r2.length - 64) (c3 - 64)).ownBlock = (Value.slice (some ⟨bb, oo, none⟩) r2.length c3).ownBlock := by
              rw [← HA4.out]
              split
              · rfl
              · rw [Option.map_some, add_at]; rfl
            rw [e]; exact HV2.out⟩
          have HFr4 := Aside0.mk (HFr3.out.trans (Frame.of_set w3 g 8 (.slice A4 (r2.length - 64) (c3 - 64))) (fun k hk => .inl (.inl hk)))
          have HKl : Aside0 (k < K) := ⟨by have := HKd.out; have := HL.out; omega⟩
          have HC4 : Aside0 ((blockL (r2.take 64) h2, r2.drop 64) = chewB blockL (k + 1) (h', r' ++ p)) := ⟨by
            rw [chewB_step k _ (by show k * 64 + 64 ≤ (r' ++ p).length; have := HL.out; omega), ← HC.out]⟩
          clear hq HI2 HI3 HB3 HFr2 HFr3 HV2 kf HC
          go_roundg (K - (k + 1))
          case measure => have := HKK.out; have := HKl.out; omega
          case rel => exact ⟨k + 1, .slice A4 (r2.length - 64) (c3 - 64), blockL (r2.take 64) h2, r2.drop 64, by have := HKl.out; omega, ⟨rfl⟩, HI4, HC4, ⟨by have := HL.out; rw [List.length_drop]; omega⟩, HV4, HFr4⟩
        · have HKe : Aside0 (k = K) := ⟨by have := HKd.out; have := HL.out; omega⟩
          have HF5 : Aside0 ((h2, r2) = full (T ++ (ps.take (i + 1)).flatten)) := ⟨by
            rw [take_flat ps i p HPp.out, ← List.append_assoc, full_append, ← HF.out]
            show _ = chewB blockL ((r' ++ p).length / 64) (h', r' ++ p)
            rw [← HKd.out, ← HKe.out]; exact HC.out⟩
          have HN5 : Aside0 (n' + p.length = T.length + (ps.take (i + 1)).flatten.length) := ⟨by rw [take_flat ps i p HPp.out, List.length_append, HN.out]; omega⟩
          have hm := more_is HLe.out
          rw [hm] at HI2
          clear hm HC f8
          go_wp2
          go_roundg (ps.length - (i + 1))
          case measure => have := HK.out; omega
          case rel => exact ⟨i + 1, .slice A3 r2.length c3, h2, r2, n' + p.length, by omega, by go_num, ⟨rfl⟩, HI2, HF5, HN5, HV2, HFr2⟩
    · have HE : Aside0 (i = ps.length) := ⟨by omega⟩
      go_wp2
      go_ret
      refine ⟨rfl, v'.ownBlock, ⟨v', rfl, ?_⟩, HV.out, HFr.out⟩
      have hf := HF.out
      have hn := HN.out
      rw [HE.out, List.take_length] at hf hn
      rw [← hf, List.length_append, ← hn]
      exact HI'.out
end Go.Proofs.Ytlniejfbkcgneaa.HashT

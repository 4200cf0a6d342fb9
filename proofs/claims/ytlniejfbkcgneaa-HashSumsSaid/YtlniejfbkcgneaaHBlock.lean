/- Proved: (*hash.Sum).block takes a block; conditions: the theorems' own premises. -/
import Derived.Test.YtlniejfbkcgneaaHWords
namespace Go.Proofs.Ytlniejfbkcgneaa.HashT
open Go.RowKit Go.Proofs.Ytlniejfbkcgneaa.YHash Go.Proofs.YtlniejfbkcgneaaW.PrintWords Go.Proofs.YtlniejfbkcgneaaW.PrintLast Go.Proofs.YtlniejfbkcgneaaW.PrintMore
set_option linter.unusedVariables false
set_option linter.unusedSimpArgs false
def sumCells (h : List Int) (rest : Value) (n : Int) : List Value := u32s h ++ [rest, .int .u64 n]
set_option maxRecDepth 100000 in
def rounds : ByteArray := ⟨((([52, 50, 56, 97, 50, 102, 57, 56, 55, 49, 51, 55, 52, 52, 57, 49, 98, 53, 99, 48, 102, 98, 99, 102, 101, 57, 98, 53, 100, 98, 97, 53, 51, 57, 53, 54, 99, 50, 53, 98, 53, 57, 102, 49, 49, 49, 102, 49, 57, 50, 51, 102, 56, 50, 97, 52, 97, 98, 49, 99, 53, 101, 100, 53].append [100, 56, 48, 55, 97, 97, 57, 56, 49, 50, 56, 51, 53, 98, 48, 49, 50, 52, 51, 49, 56, 53, 98, 101, 53, 53, 48, 99, 55, 100, 99, 51, 55, 50, 98, 101, 53, 100, 55, 52, 56, 48, 100, 101, 98, 49, 102, 101, 57, 98, 100, 99, 48, 54, 97, 55, 99, 49, 57, 98, 102, 49, 55, 52]).append ([101, 52, 57, 98, 54, 57, 99, 49, 101, 102, 98, 101, 52, 55, 56, 54, 48, 102, 99, 49, 57, 100, 99, 54, 50, 52, 48, 99, 97, 49, 99, 99, 50, 100, 101, 57, 50, 99, 54, 102, 52, 97, 55, 52, 56, 52, 97, 97, 53, 99, 98, 48, 97, 57, 100, 99, 55, 54, 102, 57, 56, 56, 100, 97].append [57, 56, 51, 101, 53, 49, 53, 50, 97, 56, 51, 49, 99, 54, 54, 100, 98, 48, 48, 51, 50, 55, 99, 56, 98, 102, 53, 57, 55, 102, 99, 55, 99, 54, 101, 48, 48, 98, 102, 51, 100, 53, 97, 55, 57, 49, 52, 55, 48, 54, 99, 97, 54, 51, 53, 49, 49, 52, 50, 57, 50, 57, 54, 55])).append (([50, 55, 98, 55, 48, 97, 56, 53, 50, 101, 49, 98, 50, 49, 51, 56, 52, 100, 50, 99, 54, 100, 102, 99, 53, 51, 51, 56, 48, 100, 49, 51, 54, 53, 48, 97, 55, 51, 53, 52, 55, 54, 54, 97, 48, 97, 98, 98, 56, 49, 99, 50, 99, 57, 50, 101, 57, 50, 55, 50, 50, 99, 56, 53].append [97, 50, 98, 102, 101, 56, 97, 49, 97, 56, 49, 97, 54, 54, 52, 98, 99, 50, 52, 98, 56, 98, 55, 48, 99, 55, 54, 99, 53, 49, 97, 51, 100, 49, 57, 50, 101, 56, 49, 57, 100, 54, 57, 57, 48, 54, 50, 52, 102, 52, 48, 101, 51, 53, 56, 53, 49, 48, 54, 97, 97, 48, 55, 48]).append ([49, 57, 97, 52, 99, 49, 49, 54, 49, 101, 51, 55, 54, 99, 48, 56, 50, 55, 52, 56, 55, 55, 52, 99, 51, 52, 98, 48, 98, 99, 98, 53, 51, 57, 49, 99, 48, 99, 98, 51, 52, 101, 100, 56, 97, 97, 52, 97, 53, 98, 57, 99, 99, 97, 52, 102, 54, 56, 50, 101, 54, 102, 102, 51].append [55, 52, 56, 102, 56, 50, 101, 101, 55, 56, 97, 53, 54, 51, 54, 102, 56, 52, 99, 56, 55, 56, 49, 52, 56, 99, 99, 55, 48, 50, 48, 56, 57, 48, 98, 101, 102, 102, 102, 97, 97, 52, 53, 48, 54, 99, 101, 98, 98, 101, 102, 57, 97, 51, 102, 55, 99, 54, 55, 49, 55, 56, 102, 50]))).toArray⟩
def kay (t : Nat) : Int := digN (rounds.extract (8 * t) (8 * t + 8)) 8
theorem rounds_size : rounds.size = 512 := by kernel_rfl
theorem kay_calls (t : Nat) (ht : t < 64) (C : Value) (hC : Aside0 (.string rounds = C)) (w : World) : Calls Try.prog 18 #[C, .int .i64 (t : Int)] w fun e w' => e = .returned (.int .u32 (kay t)) ∧ Below w.heap.size w w' := by
  obtain ⟨rfl⟩ := hC
  exact digits_calls rounds t w (by rw [rounds_size]; omega) (by rw [rounds_size]; omega)
theorem grown_set {w W : World} {g i : Nat} {u : Value} (h : w.grownBy W (some g)) : w.grownBy (W.setCell ⟨g, i, none⟩ u) (some g) :=
  ⟨h.os, h.tape, h.output, by have := h.size; simpa [World.setCell] using this, fun k hk hne => (Below.heap_setCell W ⟨g, i, none⟩ u k (fun e => hne (by rw [e]))).trans (h.block k hk hne)⟩
theorem grown_drewN {w W : World} {r : Option Nat} (h : w.grownBy W r) (n : Nat) : w.grownBy (W.drewN n) r := ⟨h.os, h.tape, h.output, h.size, h.block⟩
theorem grown_drew {w W : World} {r : Option Nat} (h : w.grownBy W r) : w.grownBy W.drew r := ⟨h.os, h.tape, h.output, h.size, h.block⟩
/-- A row's cells are laid anew. -/
structure RowPut (w w' : World) (g : Nat) (cells : Array Value) (t : TypeId) : Prop where
  here : w'.heap[g]? = some (.cells cells t (0, 0))
  far : ∀ {k : Nat} {o : Obj}, k ≠ g → w.heap[k]? = some o → w'.heap[k]? = some o
  below : ∀ {B : Nat} {w0 : World}, Below B w0 w → B ≤ g → Below B w0 w'
theorem row_event {P : Program} {ops : Array Oper} {rest : List Oper} {o : Oper} {a : Act} {w : World} {Q : Exit → Act → World → Prop} (hgd : o.guard = none) (ty : TypeId) (x y : Operand) (ho : o.op = .store ty x y)
    (g : Nat) (cells : Array Value) (hx : a.eval x = .pointer (some ⟨g, 0, none⟩)) (hy : a.eval y = .agg cells)
    (t : TypeId) (old : Array Value) (hg : w.heap[g]? = some (.cells old t (0, 0))) (hi : (P.info? ty).map (·.size) = some cells.size)
    (hold : old.size = cells.size) (h1 : cells.all (·.oneCell') = true)
    (h : ∀ w', RowPut w w' g cells t → wpList P ops Q rest (a.put o.dst undef) w') : wpList P ops Q (o :: rest) a w :=
  wpList_store_row hgd ty x y ho g cells hx hy t old hg hi hold h1 (h _ ⟨setRow_heap _ _ _ _ _ _ hg, fun hk hh => (setRow_other _ _ _ _ hk).trans hh, fun hb hB => below_setRow hb hB _⟩)
theorem u32s_size (xs : List Int) {n : Nat} (h : xs.length = n) : (⟨u32s xs⟩ : Array Value).size = n := by rw [List.size_toArray, u32s_length, h]
theorem sum_range {w : World} {g : Nat} {h : List Int} {rest : Value} {m : Int} (hg : w.heap[g]? = some (.cells ⟨sumCells h rest m⟩ 46 (0, 0))) : w.rangeAt g 0 (u32s h) := by
  intro j v hj
  rw [Nat.zero_add, blk_cell hg, List.getElem?_toArray]
  unfold sumCells
  rw [List.getElem?_append_left (List.getElem?_eq_some_iff.1 hj).1]; exact hj
theorem sum_set (h : List Int) (rest : Value) (m : Int) {i : Nat} (hi : i < h.length) (x : Int) : (⟨sumCells h rest m⟩ : Array Value).setIfInBounds i (.int .u32 x) = ⟨sumCells (h.set i x) rest m⟩ := by
  rw [List.setIfInBounds_toArray]
  unfold sumCells u32s
  rw [List.set_append_left _ _ (by rw [List.length_map]; exact hi), List.map_set]
theorem sum_at (h : List Int) (rest : Value) (m : Int) {i : Nat} (hi : i < h.length) : (⟨sumCells h rest m⟩ : Array Value)[i]? = some (.int .u32 (rd h (i : Int))) := by
  rw [List.getElem?_toArray]
  unfold sumCells u32s rd
  rw [List.getElem?_append_left (by rw [List.length_map]; exact hi), List.getElem?_map, Int.toNat_natCast, List.getElem?_eq_getElem hi, List.getD_eq_getElem?_getD, List.getElem?_eq_getElem hi]; rfl
/-- The sums of a state's words with a round's words, up to the i-th. -/
def addN (h v : List Int) : Nat → List Int
  | 0 => h
  | i + 1 => (addN h v i).set i ((rd (addN h v i) (i : Int) + rd v (i : Int)) % 4294967296)
theorem addN_length (h v : List Int) : ∀ i, (addN h v i).length = h.length
  | 0 => rfl
  | i + 1 => by show ((addN h v i).set i _).length = _; rw [List.length_set, addN_length h v i]
def xv (e f g h k w : Int) : Int := IntKind.u32.wrap (IntKind.u32.wrap (IntKind.u32.wrap (IntKind.u32.wrap (h + Go.bits .xor .u32 (Go.bits .xor .u32 (tr e 6) (tr e 11)) (tr e 25)) + Go.bits .xor .u32 (Go.bits .and .u32 e f) (Go.bits .and .u32 (Go.bits .xor .u32 IntKind.u32.max e) g)) + k) + w)
def yv (a b c : Int) : Int := Go.bits .xor .u32 (Go.bits .xor .u32 (tr a 2) (tr a 13)) (tr a 22) + Go.bits .xor .u32 (Go.bits .xor .u32 (Go.bits .and .u32 a b) (Go.bits .and .u32 a c)) (Go.bits .and .u32 b c)
def vstep (v : List Int) (k w : Int) : List Int := match v with
  | [a, b, c, d, e, f, g, h] => [(xv e f g h k w + yv a b c) % 4294967296, a, b, c, (d + xv e f g h k w) % 4294967296, e, f, g]
  | _ => v
def vl (ws h : List Int) : Nat → List Int
  | 0 => h
  | t + 1 => vstep (vl ws h t) (kay t) (rd ws (t : Int))
theorem vl_length (ws h : List Int) (hh : h.length = 8) : ∀ t, (vl ws h t).length = 8
  | 0 => hh
  | t + 1 => by
    show (vstep (vl ws h t) _ _).length = 8
    have := vl_length ws h hh t
    match hv : vl ws h t, this with
    | [a, b, c, d, e, f, g, i], _ => rfl
theorem vl_eight {ws : List Int} {h0 h1 h2 h3 h4 h5 h6 h7 : Int} {t : Nat} {v : List Int} (hv : v = vl ws [h0, h1, h2, h3, h4, h5, h6, h7] t) : ∃ v0 v1 v2 v3 v4 v5 v6 v7, v = [v0, v1, v2, v3, v4, v5, v6, v7] := by
  have := vl_length ws [h0, h1, h2, h3, h4, h5, h6, h7] rfl t
  rw [← hv] at this
  match v, this with
  | [a, b, c, d, e, f, g, i], _ => exact ⟨a, b, c, d, e, f, g, i, rfl⟩
/-- The state behind a block. -/
def blockL (l h : List Int) : List Int := addN h (vl (wl l 64) h 64) 8
theorem blockL_length (l h : List Int) : (blockL l h).length = h.length := addN_length _ _ _
set_option maxHeartbeats 4000000 in
set_option maxRecDepth 100000 in
theorem block_calls (g b o n c : Nat) (l : List Int) (h : List Int) (hh : h.length = 8) (rest : Value) (mm : Int) (w : World) (hl : 64 ≤ l.length) (hn : l.length = n) (hr : ∀ i : Nat, i < 64 → w.cell? ⟨b, o + i, none⟩ = some (.int .u8 (rd l i)))
    (hg : w.heap[g]? = some (.cells ⟨sumCells h rest mm⟩ 46 (0, 0))) : Calls Try.prog 19 #[.pointer (some ⟨g, 0, none⟩), .slice (some ⟨b, o, none⟩) n c] w fun e w' => e = .returned (.tuple #[]) ∧ w'.heap[g]? = some (.cells ⟨sumCells (blockL l h) rest mm⟩ 46 (0, 0)) ∧ w.grownBy w' (some g) := by
  obtain ⟨h0, h1, h2, h3, h4, h5, h6, h7, rfl⟩ : ∃ h0 h1 h2 h3 h4 h5 h6 h7, h = [h0, h1, h2, h3, h4, h5, h6, h7] := by
    match h, hh with
    | [a, b, c, d, e, f, g, i], _ => exact ⟨a, b, c, d, e, f, g, i, rfl⟩
  have HB := Aside0.mk (Below.refl w.heap.size w)
  have HR := Aside0.mk hr
  have HG := Aside0.mk hg
  clear hr hg
  go_enter Try.func19, Try.ntmps19
  obtain ⟨C, hC⟩ : ∃ C, Value.string rounds = C := ⟨_, rfl⟩
  have HC := Aside0.mk hC
  unfold rounds at hC
  rw [hC]
  clear hC
  have HW64 := wl_length l 64
  have HWL := Aside0.mk HW64
  clear HW64
  go_wp2_with (first
    | (go_at_call 22; refine (words_calls b o n c l _ hl hn HR.out).mono ?_; rintro e w1 ⟨rfl, hb⟩; have G1 := Aside0.mk (blk_below HG.out hb); have n1 := Aside0.mk (below_step HB.out hb); clear HB; have HB := n1; clear n1 hb)
    | ((with_reducible refine gate_dst (N := 4) rfl ?_); (try (refine gate_guard (by rfl) ?_; dsimp only)); refine box_event ?hg (N := 4) ?hd (cs := ⟨u32s (zeros 64)⟩) (t := 51) ?hr ?_; (case hd => rfl); (case hg => rfl); (case hr => first | (go_simp; done) | (go_simp; rfl)); intro g4 hg w2 hbox hb; have B4 := Aside0.mk hbox; have G2 := Aside0.mk (blk_below G1.out hb); have L4 := Aside0.mk (show w.heap.size ≤ g4 by rw [hg]; exact HB.out.size); have n1 := Aside0.mk (below_step HB.out hb); clear HB; have HB := n1; clear n1; clear hb hbox hg G1)
    | ((with_reducible refine gate_store (t := 51) (p := 4) rfl ?_); refine row_event rfl 51 (.tmp 4) (.tmp 13) rfl g4 ⟨u32s (wl l 64)⟩ rfl rfl 51 _ B4.out ?hi ?ho ?h1 ?_; (case hi => rw [u32s_size _ HWL.out]; rfl); (case ho => rw [u32s_size _ HWL.out]; rfl); (case h1 => exact u32s_one _); intro w3 hp; have B4' := Aside0.mk hp.here; have N4 := Aside0.mk (show g ≠ g4 by have := L4.out; have := blk_lt HG.out; omega); have G3 := Aside0.mk (hp.far N4.out G2.out); have n1 := Aside0.mk (hp.below HB.out L4.out); clear HB; have HB := n1; clear n1 hp B4 G2)
    | ((with_reducible refine gate_dst (N := 17) rfl ?_); refine wpList_load_mid rfl 43 (.tmp 16) rfl g 0 rfl _ _ (sum_range G3.out) Try.underlying43 rfl ?hi ?_; (case hi => rfl))
    | ((with_reducible refine gate_dst (N := 5) rfl ?_); (try (refine gate_guard (by rfl) ?_; dsimp only)); refine box_event ?hg (N := 5) ?hd (cs := ⟨u32s (zeros 8)⟩) (t := 43) ?hr ?_; (case hd => rfl); (case hg => rfl); (case hr => first | (go_simp; done) | (go_simp; rfl)); intro g5 hg w4 hbox hb; have B5 := Aside0.mk hbox; have G4 := Aside0.mk (blk_below G3.out hb); have B4 := Aside0.mk (blk_below B4'.out hb); have N45 := Aside0.mk (show g4 ≠ g5 by rw [hg]; exact Nat.ne_of_lt (blk_lt B4'.out)); have L5 := Aside0.mk (show w.heap.size ≤ g5 by rw [hg]; exact HB.out.size); have n1 := Aside0.mk (below_step HB.out hb); clear HB; have HB := n1; clear n1; clear hb hbox hg G3 B4')
    | ((with_reducible refine gate_store (t := 43) (p := 5) rfl ?_); refine row_event rfl 43 (.tmp 5) (.tmp 17) rfl g5 ⟨u32s [h0, h1, h2, h3, h4, h5, h6, h7]⟩ rfl rfl 43 _ B5.out ?hi ?ho ?h1 ?_; (case hi => rfl); (case ho => rfl); (case h1 => exact u32s_one _); intro w5 hp; have B5' := Aside0.mk hp.here; have N5 := Aside0.mk (show g ≠ g5 by have := L5.out; have := blk_lt HG.out; omega); have G5 := Aside0.mk (hp.far N5.out G4.out); have B4' := Aside0.mk (hp.far N45.out B4.out); have n1 := Aside0.mk (hp.below HB.out L5.out); clear HB; have HB := n1; clear n1 hp B5 G4 B4))
  go_loopg [18] 64 (fun kq v18 w' => ∃ (t : Nat) (v : List Int), t ≤ 64 ∧ v18 = .int .i64 (t : Int) ∧ Aside0 (kq = 64 - t) ∧ Aside0 (v = vl (wl l 64) [h0, h1, h2, h3, h4, h5, h6, h7] t) ∧ Aside0 (w'.heap[g]? = some (.cells ⟨sumCells [h0, h1, h2, h3, h4, h5, h6, h7] rest mm⟩ 46 (0, 0))) ∧ Aside0 (w'.heap[g4]? = some (.cells ⟨u32s (wl l 64)⟩ 51 (0, 0))) ∧ Aside0 (w'.heap[g5]? = some (.cells ⟨u32s v⟩ 43 (0, 0))) ∧ Aside0 (Below w.heap.size w w'))
  case atStart => exact ⟨0, _, by omega, rfl, ⟨rfl⟩, ⟨rfl⟩, G5, B4', B5', HB⟩
  case round =>
    clear G5 B4' B5' HB
    obtain ⟨t, v, ht, rfl, HK, HV, BG, B4, B5, HB⟩ := hrel
    obtain ⟨v0, v1, v2, v3, v4, v5, v6, v7, rfl⟩ : ∃ v0 v1 v2 v3 v4 v5 v6 v7, v = [v0, v1, v2, v3, v4, v5, v6, v7] := vl_eight HV.out
    by_cases hlt : t < 64
    · have c0 := blk_cell B5.out 0
      have c1 := blk_cell B5.out 1
      have c2 := blk_cell B5.out 2
      have c3 := blk_cell B5.out 3
      have c4 := blk_cell B5.out 4
      have c5 := blk_cell B5.out 5
      have c6 := blk_cell B5.out 6
      have c7 := blk_cell B5.out 7
      have cw := (blk_cell B4.out t).trans (u32s_at _ (show t < (wl l 64).length by rw [HWL.out]; exact hlt))
      replace c0 := c0.trans (show _ = some (.int .u32 v0) from rfl)
      replace c1 := c1.trans (show _ = some (.int .u32 v1) from rfl)
      replace c2 := c2.trans (show _ = some (.int .u32 v2) from rfl)
      replace c3 := c3.trans (show _ = some (.int .u32 v3) from rfl)
      replace c4 := c4.trans (show _ = some (.int .u32 v4) from rfl)
      replace c5 := c5.trans (show _ = some (.int .u32 v5) from rfl)
      replace c6 := c6.trans (show _ = some (.int .u32 v6) from rfl)
      replace c7 := c7.trans (show _ = some (.int .u32 v7) from rfl)
      have zt : 0 ≤ (t : Int) := by omega
      have lt : (t : Int) < 64 := by omega
      go_wp2
      go_region
      go_wp2
      go_cut [9] (fun v9 wc => ∃ x : Int, v9 = .int .u32 x ∧ Aside0 (x = xv v4 v5 v6 v7 (kay t) (rd (wl l 64) (t : Int))) ∧ Aside0 (wc.heap[g]? = some (.cells ⟨sumCells [h0, h1, h2, h3, h4, h5, h6, h7] rest mm⟩ 46 (0, 0))) ∧ Aside0 (wc.heap[g4]? = some (.cells ⟨u32s (wl l 64)⟩ 51 (0, 0))) ∧ Aside0 (wc.heap[g5]? = some (.cells ⟨u32s [v0, v1, v2, v3, v4, v5, v6, v7]⟩ 43 (0, 0))) ∧ Aside0 (Below w.heap.size w wc))
      case first =>
        have bG := BG.out
        have b4 := B4.out
        have b5 := B5.out
        have bB := HB.out
        go_region_held3 (fun w' => w'.cell? ⟨g5, 7, none⟩ = some (.int .u32 v7) ∧ w'.cell? ⟨g5, 5, none⟩ = some (.int .u32 v5) ∧ w'.cell? ⟨g5, 6, none⟩ = some (.int .u32 v6) ∧ w'.cell? ⟨g4, t, none⟩ = some (.int .u32 (rd (wl l 64) (t : Int))))
          (first | exact ⟨pw_cell_below hb (by assumption), pw_cell_below hb (by assumption), pw_cell_below hb (by assumption), pw_cell_below hb (by assumption)⟩ | go_keep)
          (first
            | (go_at_call 23; refine (turn_calls _ _ (by decide) (by decide) _).mono ?_; rintro e w' ⟨rfl, m, rfl⟩)
            | (go_at_call 18; refine (kay_calls t hlt C HC _).mono ?_; rintro e w' ⟨rfl, hb⟩))
        go_wp2
        go_meet
        case rel => exact ⟨_, (by first | rfl | (simp; done)), ⟨rfl⟩, ⟨blk_below (w := wr) bG (below_step (pw_below_drewN (Below.refl _ _) _) hb)⟩, ⟨blk_below (w := wr) b4 (below_step (pw_below_drewN (Below.refl _ _) _) hb)⟩, ⟨blk_below (w := wr) b5 (below_step (pw_below_drewN (Below.refl _ _) _) hb)⟩, ⟨below_step bB (below_step (pw_below_drewN (Below.refl _ _) _) hb)⟩⟩
      case rest =>
        clear BG B4 B5 HB c0 c1 c2 c3 c4 c5 c6 c7 cw
        obtain ⟨x, rfl, HX, BG, B4, B5, HB⟩ := hcut
        have c0 := (blk_cell B5.out 0).trans (show _ = some (.int .u32 v0) from rfl)
        have c1 := (blk_cell B5.out 1).trans (show _ = some (.int .u32 v1) from rfl)
        have c2 := (blk_cell B5.out 2).trans (show _ = some (.int .u32 v2) from rfl)
        have c3 := (blk_cell B5.out 3).trans (show _ = some (.int .u32 v3) from rfl)
        have c4 := (blk_cell B5.out 4).trans (show _ = some (.int .u32 v4) from rfl)
        have c5 := (blk_cell B5.out 5).trans (show _ = some (.int .u32 v5) from rfl)
        have c6 := (blk_cell B5.out 6).trans (show _ = some (.int .u32 v6) from rfl)
        have c7 := (blk_cell B5.out 7).trans (show _ = some (.int .u32 v7) from rfl)
        have f0 := blk_frozen B5.out 0
        have f1 := blk_frozen B5.out 1
        have f2 := blk_frozen B5.out 2
        have f3 := blk_frozen B5.out 3
        have f4 := blk_frozen B5.out 4
        have f5 := blk_frozen B5.out 5
        have f6 := blk_frozen B5.out 6
        have f7 := blk_frozen B5.out 7
        go_wp2
        go_region_held3 (fun w' => w'.cell? ⟨g5, 1, none⟩ = some (.int .u32 v1) ∧ w'.cell? ⟨g5, 2, none⟩ = some (.int .u32 v2))
          (go_keep)
          ((go_at_call 23; refine (turn_calls _ _ (by decide) (by decide) _).mono ?_; rintro e w' ⟨rfl, m, rfl⟩))
        go_wp2
        have hv : vl (wl l 64) [h0, h1, h2, h3, h4, h5, h6, h7] (t + 1) = [(x + yv v0 v1 v2) % 4294967296, v0, v1, v2, (v3 + x) % 4294967296, v4, v5, v6] := by
          show vstep (vl (wl l 64) [h0, h1, h2, h3, h4, h5, h6, h7] t) _ _ = _
          rw [← HV.out, HX.out]; rfl
        have HV2 := Aside0.mk hv
        clear hv
        go_roundg (63 - t)
        case measure => have := HK.out; omega
        case rel => exact ⟨t + 1, _, by omega, by go_num, ⟨by omega⟩, ⟨rfl⟩, ⟨(blk_far (blk_far (blk_far (blk_far (blk_far (blk_far (blk_far (blk_far (blk_drewN BG.out _) N5.out _) N5.out _) N5.out _) N5.out _) N5.out _) N5.out _) N5.out _) N5.out _)⟩, ⟨(blk_far (blk_far (blk_far (blk_far (blk_far (blk_far (blk_far (blk_far (blk_drewN B4.out _) N45.out _) N45.out _) N45.out _) N45.out _) N45.out _) N45.out _) N45.out _) N45.out _)⟩, ⟨by rw [HV2.out]; exact (blk_set (blk_set (blk_set (blk_set (blk_set (blk_set (blk_set (blk_set (blk_drewN B5.out _) 0 _) 1 _) 2 _) 3 _) 4 _) 5 _) 6 _) 7 _)⟩, ⟨(below_set (below_set (below_set (below_set (below_set (below_set (below_set (below_set (pw_below_drewN HB.out _) L5.out) L5.out) L5.out) L5.out) L5.out) L5.out) L5.out) L5.out)⟩⟩
    · have HT : Aside0 (t = 64) := ⟨by omega⟩
      have HV8 := Aside0.mk (HV.out.trans (by rw [HT.out]))
      clear HV
      obtain ⟨v, hv⟩ : ∃ v, v = [v0, v1, v2, v3, v4, v5, v6, v7] := ⟨_, rfl⟩
      rw [← hv] at B5 HV8
      have HVL := Aside0.mk (show v.length = 8 by rw [hv]; rfl)
      clear hv
      go_wp2
      go_loopg [99] 8 (fun kq v99 w' => ∃ (i : Nat), i ≤ 8 ∧ v99 = .int .i64 (i : Int) ∧ Aside0 (kq = 8 - i) ∧ Aside0 (w'.heap[g]? = some (.cells ⟨sumCells (addN [h0, h1, h2, h3, h4, h5, h6, h7] v i) rest mm⟩ 46 (0, 0))) ∧ Aside0 (w'.heap[g5]? = some (.cells ⟨u32s v⟩ 43 (0, 0))) ∧ Aside0 (w.grownBy w' (some g)))
      case atStart => exact ⟨0, by omega, rfl, ⟨rfl⟩, BG, B5, ⟨grown_of_below HB.out _⟩⟩
      case round =>
        clear BG B5 HB B4
        obtain ⟨i, hi, rfl, HK2, BG, B5, HG2⟩ := hrel
        have HAL := Aside0.mk (addN_length [h0, h1, h2, h3, h4, h5, h6, h7] v i)
        by_cases hlt2 : i < 8
        · have ca := (blk_cell BG.out i).trans (sum_at _ rest mm (show i < (addN [h0, h1, h2, h3, h4, h5, h6, h7] v i).length by rw [HAL.out]; exact hlt2))
          have fa := blk_frozen BG.out i
          have cb := (blk_cell B5.out i).trans (u32s_at v (show i < v.length by rw [HVL.out]; exact hlt2))
          have zt : 0 ≤ (i : Int) := by omega
          have lt : (i : Int) < 8 := by omega
          go_wp2
          go_region
          go_wp2
          go_roundg (7 - i)
          case measure => have := HK2.out; omega
          case rel => exact ⟨i + 1, by omega, by go_num, ⟨by omega⟩, ⟨(blk_set BG.out i _).trans (by rw [sum_set _ _ _ (by rw [HAL.out]; exact hlt2)]; rfl)⟩, ⟨blk_far B5.out (Ne.symm N5.out) _⟩, ⟨grown_drew (grown_set HG2.out)⟩⟩
        · have HI : Aside0 (i = 8) := ⟨by omega⟩
          go_wp2
          go_end0
          exact ⟨rfl, by unfold blockL; rw [← HV8.out, ← HI.out]; exact BG.out, HG2.out⟩
end Go.Proofs.Ytlniejfbkcgneaa.HashT

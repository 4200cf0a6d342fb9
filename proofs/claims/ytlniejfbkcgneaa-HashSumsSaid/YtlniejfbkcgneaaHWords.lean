/- Proved: hash.words answers a block's 64 words; conditions: the theorems' own premises. -/
import Derived.Test.YtlniejfbkcgneaaHDigits
import Derived.BigRegion
import Derived.StillTailTactics
import Derived.Laws.CopyOwn
namespace Go.Proofs.Ytlniejfbkcgneaa.HashT
open Go.RowKit Go.Proofs.Ytlniejfbkcgneaa.YHash Go.Proofs.YtlniejfbkcgneaaW.PrintWords Go.Proofs.YtlniejfbkcgneaaW.PrintLast Go.Proofs.YtlniejfbkcgneaaW.PrintMore
set_option linter.unusedVariables false
set_option linter.unusedSimpArgs false
/-- The cells of a row of words. -/
def u32s (l : List Int) : List Value := l.map (Value.int .u32)
theorem u32s_length (l : List Int) : (u32s l).length = l.length := List.length_map _
def zeros (n : Nat) : List Int := List.replicate n 0
theorem zeros_succ (n : Nat) : zeros (n + 1) = 0 :: zeros n := List.replicate_succ
theorem u32s_set (xs : List Int) (n : Nat) (v : Int) : (⟨u32s (xs ++ zeros (n + 1))⟩ : Array Value).setIfInBounds xs.length (.int .u32 v) = ⟨u32s ((xs ++ [v]) ++ zeros n)⟩ := by
  rw [List.setIfInBounds_toArray]
  unfold u32s
  rw [zeros_succ, List.map_append, List.set_append_right _ _ (by rw [List.length_map]; omega), List.length_map, Nat.sub_self, List.map_cons, List.set_cons_zero, List.map_append, List.map_append, List.append_assoc]
  rfl
theorem u32s_at (xs : List Int) {i : Nat} (h : i < xs.length) : (⟨u32s xs⟩ : Array Value)[i]? = some (.int .u32 (rd xs (i : Int))) := by
  rw [List.getElem?_toArray]
  unfold u32s rd
  rw [List.getElem?_map, Int.toNat_natCast, List.getElem?_eq_getElem h, List.getD_eq_getElem?_getD, List.getElem?_eq_getElem h]; rfl
def bword (l : List Int) (t : Nat) : Int := Go.bits .or .u32 (Go.bits .or .u32 (Go.bits .or .u32 (rd l ((4 * t : Nat) : Int) % 4294967296 * 16777216 % 4294967296) (rd l ((4 * t + 1 : Nat) : Int) % 4294967296 * 65536 % 4294967296)) (rd l ((4 * t + 2 : Nat) : Int) % 4294967296 * 256 % 4294967296)) (rd l ((4 * t + 3 : Nat) : Int) % 4294967296)
def tr (x n : Int) : Int := Go.bits .or .u32 (shr .u32 x n) (shl .u32 x (32 - n))
theorem turn_calls (x n : Int) (h0 : 0 ≤ n) (h1 : n ≤ 32) (w : World) : Calls Try.prog 23 #[.int .u32 x, .int .i64 n] w fun e w' => e = .returned (.int .u32 (tr x n)) ∧ ∃ m, w' = w.drewN m :=
  (hash_turn.calls x n (tr x n) w (by
    have hw : wrap64 (32 - n) = 32 - n := by unfold wrap64; omega
    unfold hash_turn.f tr
    rw [if_pos h0, hw, if_pos (by omega)])).mono fun _ _ ⟨he, hw⟩ => ⟨he, hw.out⟩
def sg0 (x : Int) : Int := Go.bits .xor .u32 (Go.bits .xor .u32 (tr x 7) (tr x 18)) (x / 8)
def sg1 (x : Int) : Int := Go.bits .xor .u32 (Go.bits .xor .u32 (tr x 17) (tr x 19)) (x / 1024)
def wsum (xs : List Int) (t : Nat) : Int := (rd xs ((t - 16 : Nat) : Int) + sg0 (rd xs ((t - 15 : Nat) : Int)) + rd xs ((t - 7 : Nat) : Int) + sg1 (rd xs ((t - 2 : Nat) : Int))) % 4294967296
def wnext (l xs : List Int) (t : Nat) : Int := if t < 16 then bword l t else wsum xs t
def wl (l : List Int) : Nat → List Int
  | 0 => []
  | t + 1 => wl l t ++ [wnext l (wl l t) t]
theorem wl_length (l : List Int) : ∀ t, (wl l t).length = t
  | 0 => rfl
  | t + 1 => by show (wl l t ++ [_]).length = t + 1; rw [List.length_append, wl_length l t]; rfl
theorem u32s_at' (xs : List Int) (t : Nat) (n : Nat) (h : xs.length = t) (hn : 0 < n) : (⟨u32s (xs ++ zeros n)⟩ : Array Value)[t]? = some (.int .u32 0) := by
  obtain ⟨m, rfl⟩ : ∃ m, n = m + 1 := ⟨n - 1, by omega⟩
  rw [List.getElem?_toArray]
  unfold u32s
  rw [List.getElem?_map, List.getElem?_append_right (by omega), h, Nat.sub_self]; rfl
theorem u32s_in (xs ys : List Int) {i : Nat} (h : i < xs.length) : (⟨u32s (xs ++ ys)⟩ : Array Value)[i]? = some (.int .u32 (rd xs (i : Int))) := by
  rw [List.getElem?_toArray]
  unfold u32s rd
  rw [List.map_append, List.getElem?_append_left (by rw [List.length_map]; exact h), List.getElem?_map, Int.toNat_natCast, List.getElem?_eq_getElem h, List.getD_eq_getElem?_getD, List.getElem?_eq_getElem h]; rfl
theorem u32s_one (xs : List Int) : (⟨u32s xs⟩ : Array Value).all (·.oneCell') = true := by
  rw [List.all_toArray]
  unfold u32s
  rw [List.all_map, List.all_eq_true]
  intro x _; rfl
theorem wpList_store_row {P : Program} {ops : Array Oper} {rest : List Oper} {o : Oper} {a : Act} {w : World} {Q : Exit → Act → World → Prop} (hgd : o.guard = none) (ty : TypeId) (x y : Operand) (ho : o.op = .store ty x y)
    (g : Nat) (cells : Array Value) (hx : a.eval x = .pointer (some ⟨g, 0, none⟩)) (hy : a.eval y = .agg cells)
    (t : TypeId) (old : Array Value) (hg : w.heap[g]? = some (.cells old t (0, 0))) (hi : (P.info? ty).map (·.size) = some cells.size)
    (hold : old.size = cells.size) (h1 : cells.all (·.oneCell') = true)
    (h : wpList P ops Q rest (a.put o.dst undef) (w.setRow g cells)) : wpList P ops Q (o :: rest) a w :=
  wpList_plain hgd fun _ hK => wp_store_row ty x y ho g cells hx hy t old hg hi hold h1 (hK _ _ h)
set_option maxHeartbeats 1000000 in
set_option maxRecDepth 100000 in
theorem words_calls (b o n c : Nat) (l : List Int) (w : World) (hl : 64 ≤ l.length) (hn : l.length = n) (hr : ∀ i : Nat, i < 64 → w.cell? ⟨b, o + i, none⟩ = some (.int .u8 (rd l i))) : Calls Try.prog 22 #[.slice (some ⟨b, o, none⟩) n c] w fun e w' => e = .returned (.agg ⟨u32s (wl l 64)⟩) ∧ Below w.heap.size w w' := by
  have hn64 : 64 ≤ n := by omega
  clear hn
  have HR := Aside0.mk hr
  clear hr
  have HB := Aside0.mk (Below.refl w.heap.size w)
  go_enter Try.func22, Try.ntmps22
  go_wp2_with (first
    | ((with_reducible refine gate_dst (N := 2) rfl ?_); (try (refine gate_guard (by rfl) ?_; dsimp only)); refine box_event ?hg (N := 2) ?hd (cs := ⟨u32s (zeros 64)⟩) (t := 51) ?hr ?_; (case hd => rfl); (case hg => rfl); (case hr => first | (go_simp; done) | (go_simp; rfl)); intro g2 hg w2 hbox hb; have B2 := Aside0.mk hbox; have G2 := Aside0.mk (show w.heap.size ≤ g2 by rw [hg]; exact HB.out.size); have n1 := Aside0.mk (below_step HB.out hb); clear HB; have HB := n1; clear n1; clear hb hbox hg)
    | ((with_reducible refine gate_dst (N := 3) rfl ?_); (try (refine gate_guard (by rfl) ?_; dsimp only)); refine box_event ?hg (N := 3) ?hd (cs := ⟨u32s (zeros 64)⟩) (t := 51) ?hr ?_; (case hd => rfl); (case hg => rfl); (case hr => first | (go_simp; done) | (go_simp; rfl)); intro g3 hg w3 hbox hb; have B3 := Aside0.mk hbox; have B2' := Aside0.mk (blk_below B2.out hb); have G3 := Aside0.mk (show w.heap.size ≤ g3 by rw [hg]; exact HB.out.size); have N23 := Aside0.mk (show g2 ≠ g3 by rw [hg]; exact Nat.ne_of_lt (blk_lt B2.out)); have n1 := Aside0.mk (below_step HB.out hb); clear HB; have HB := n1; clear n1; clear hb hbox hg B2))
  go_loopg [9] 64 (fun kq v9 w' => ∃ (t : Nat) (xs : List Int), t ≤ 64 ∧ v9 = .int .i64 (t : Int) ∧ Aside0 (kq = 64 - t) ∧ Aside0 (xs = wl l t) ∧ Aside0 (w'.heap[g3]? = some (.cells ⟨u32s (xs ++ zeros (64 - t))⟩ 51 (0, 0))) ∧ Aside0 (w'.heap[g2]? = some (.cells ⟨u32s (zeros 64)⟩ 51 (0, 0))) ∧ Aside0 (Below w.heap.size w w'))
  case atStart => exact ⟨0, [], by omega, rfl, ⟨rfl⟩, ⟨rfl⟩, B3, B2', HB⟩
  case round =>
    clear B3 B2' HB
    obtain ⟨t, xs, ht, rfl, HK, HW, B3, B2, HB⟩ := hrel
    have HX := Aside0.mk (show xs.length = t by rw [HW.out]; exact wl_length l t)
    by_cases hlt : t < 64
    · by_cases h16 : t < 16
      · obtain ⟨q0, hq0⟩ : ∃ q, q = 4 * t := ⟨_, rfl⟩
        obtain ⟨q1, hq1⟩ : ∃ q, q = 4 * t + 1 := ⟨_, rfl⟩
        obtain ⟨q2, hq2⟩ : ∃ q, q = 4 * t + 2 := ⟨_, rfl⟩
        obtain ⟨q3, hq3⟩ : ∃ q, q = 4 * t + 3 := ⟨_, rfl⟩
        have a0 := pw_cell_below HB.out (HR.out q0 (by omega))
        have a1 := pw_cell_below HB.out (HR.out q1 (by omega))
        have a2 := pw_cell_below HB.out (HR.out q2 (by omega))
        have a3 := pw_cell_below HB.out (HR.out q3 (by omega))
        have b0 := (blk_cell B3.out t)
        rw [u32s_at' _ _ _ HX.out (by omega)] at b0
        have f0 := blk_frozen B3.out t
        have z0 : 0 ≤ (q0 : Int) := by omega
        have l0 : (q0 : Int) < (n : Int) := by omega
        have z1 : 0 ≤ (q1 : Int) := by omega
        have l1 : (q1 : Int) < (n : Int) := by omega
        have z2 : 0 ≤ (q2 : Int) := by omega
        have l2 : (q2 : Int) < (n : Int) := by omega
        have z3 : 0 ≤ (q3 : Int) := by omega
        have l3 : (q3 : Int) < (n : Int) := by omega
        have zt : 0 ≤ (t : Int) := by omega
        have lt : (t : Int) < 64 := by omega
        have i0 : IntKind.i64.wrap (4 * (t : Int)) = (q0 : Int) := by rw [hq0]; exact (IntWalk.i64_in _ (by omega)).trans (by omega)
        have i1 : IntKind.i64.wrap ((q0 : Int) + 1) = (q1 : Int) := by rw [hq0, hq1]; exact (IntWalk.i64_in _ (by omega)).trans (by omega)
        have i2 : IntKind.i64.wrap ((q0 : Int) + 2) = (q2 : Int) := by rw [hq0, hq2]; exact (IntWalk.i64_in _ (by omega)).trans (by omega)
        have i3 : IntKind.i64.wrap ((q0 : Int) + 3) = (q3 : Int) := by rw [hq0, hq3]; exact (IntWalk.i64_in _ (by omega)).trans (by omega)
        have Q := Aside0.mk (And.intro hq0 (And.intro hq1 (And.intro hq2 hq3)))
        clear hq0 hq1 hq2 hq3
        go_wp2
        go_region
        go_wp2
        go_roundg (63 - t)
        case measure => have := HK.out; omega
        case rel => exact ⟨t + 1, _, by omega, by go_num, ⟨by omega⟩, ⟨rfl⟩, ⟨by
            have hs := u32s_set xs (64 - (t + 1)) (wnext l xs t)
            rw [HX.out, show 64 - (t + 1) + 1 = 64 - t by omega] at hs
            have hv : wl l (t + 1) = xs ++ [wnext l xs t] := by rw [HW.out]; rfl
            rw [hv]
            refine blk_put (cs := ⟨u32s (xs ++ zeros (64 - t))⟩) ?_ t _ ?_
            · exact B3.out
            · rw [← hs]; unfold wnext bword; rw [if_pos (by omega), ← Q.out.2.2.2, ← Q.out.2.2.1, ← Q.out.2.1, ← Q.out.1]⟩, ⟨blk_far B2.out N23.out _⟩, ⟨below_drew1 (below_set HB.out G3.out)⟩⟩
      · have L := Aside0.mk (by omega : 16 ≤ t)
        obtain ⟨p15, hp15⟩ : ∃ p, p = t - 15 := ⟨_, rfl⟩
        obtain ⟨p2, hp2⟩ : ∃ p, p = t - 2 := ⟨_, rfl⟩
        obtain ⟨p16, hp16⟩ : ∃ p, p = t - 16 := ⟨_, rfl⟩
        obtain ⟨p7, hp7⟩ : ∃ p, p = t - 7 := ⟨_, rfl⟩
        have c15 := blk_cell B3.out p15
        rw [u32s_in xs _ (by rw [HX.out]; omega)] at c15
        have z15 : 0 ≤ (p15 : Int) := by omega
        have l15 : (p15 : Int) < 64 := by omega
        have i15 : IntKind.i64.wrap ((t : Int) - 15) = (p15 : Int) := by rw [hp15]; exact (IntWalk.i64_in _ (by omega)).trans (by omega)
        have c2 := blk_cell B3.out p2
        rw [u32s_in xs _ (by rw [HX.out]; omega)] at c2
        have z2 : 0 ≤ (p2 : Int) := by omega
        have l2 : (p2 : Int) < 64 := by omega
        have i2 : IntKind.i64.wrap ((t : Int) - 2) = (p2 : Int) := by rw [hp2]; exact (IntWalk.i64_in _ (by omega)).trans (by omega)
        have c16 := blk_cell B3.out p16
        rw [u32s_in xs _ (by rw [HX.out]; omega)] at c16
        have z16 : 0 ≤ (p16 : Int) := by omega
        have l16 : (p16 : Int) < 64 := by omega
        have i16 : IntKind.i64.wrap ((t : Int) - 16) = (p16 : Int) := by rw [hp16]; exact (IntWalk.i64_in _ (by omega)).trans (by omega)
        have c7 := blk_cell B3.out p7
        rw [u32s_in xs _ (by rw [HX.out]; omega)] at c7
        have z7 : 0 ≤ (p7 : Int) := by omega
        have l7 : (p7 : Int) < 64 := by omega
        have i7 : IntKind.i64.wrap ((t : Int) - 7) = (p7 : Int) := by rw [hp7]; exact (IntWalk.i64_in _ (by omega)).trans (by omega)
        have b0 := (blk_cell B3.out t)
        rw [u32s_at' _ _ _ HX.out (by omega)] at b0
        have f0 := blk_frozen B3.out t
        have zt : 0 ≤ (t : Int) := by omega
        have lt : (t : Int) < 64 := by omega
        have lt16 : decide ((t : Int) < 16) = false := decide_eq_false (by omega)
        have Q := Aside0.mk (And.intro hp15 (And.intro hp2 (And.intro hp16 hp7)))
        clear hp15 hp2 hp16 hp7 h16
        go_wp2
        go_region
        go_wp2_with (go_at_call 23; refine (turn_calls _ _ (by decide) (by decide) _).mono ?_; rintro e w' ⟨rfl, m, rfl⟩)
        go_region
        go_wp2
        go_roundg (63 - t)
        case measure => have := HK.out; omega
        case rel => exact ⟨t + 1, _, by have := L.out; omega, by go_num, ⟨by omega⟩, ⟨rfl⟩, ⟨by
            have hs := u32s_set xs (64 - (t + 1)) (wnext l xs t)
            rw [HX.out, show 64 - (t + 1) + 1 = 64 - t by omega] at hs
            have hv : wl l (t + 1) = xs ++ [wnext l xs t] := by rw [HW.out]; rfl
            rw [hv]
            refine blk_put (cs := ⟨u32s (xs ++ zeros (64 - t))⟩) ?_ t _ ?_
            · exact B3.out
            · rw [← hs]; unfold wnext wsum; rw [if_neg (by have := L.out; omega), ← Q.out.1, ← Q.out.2.1, ← Q.out.2.2.1, ← Q.out.2.2.2]; rfl⟩, ⟨blk_far B2.out N23.out _⟩, ⟨below_set (pw_below_drewN HB.out _) G3.out⟩⟩
    · have HT : Aside0 (t = 64) := ⟨by omega⟩
      have B3' := Aside0.mk (show wr.heap[g3]? = some (.cells ⟨u32s xs⟩ 51 (0, 0)) by rw [B3.out, HT.out]; simp [zeros])
      go_wp2_with (first
        | ((with_reducible refine gate_dst (N := 89) rfl ?_); refine wpList_load_row rfl 51 (.tmp 3) rfl g3 rfl 51 ⟨u32s xs⟩ (0, 0) _ B3'.out Try.underlying51 rfl ?hi ?_; (case hi => rw [show (⟨u32s xs⟩ : Array Value).size = 64 by rw [List.size_toArray, u32s_length, HX.out, HT.out]]; rfl))
        | ((with_reducible refine gate_store (t := 51) (p := 2) rfl ?_); refine wpList_store_row rfl 51 (.tmp 2) (.tmp 89) rfl g2 ⟨u32s xs⟩ rfl rfl 51 _ B2.out ?hi ?ho ?h1 ?_; (case hi => rw [show (⟨u32s xs⟩ : Array Value).size = 64 by rw [List.size_toArray, u32s_length, HX.out, HT.out]]; rfl); (case ho => rw [List.size_toArray, List.size_toArray, u32s_length, u32s_length, HX.out, HT.out]; rfl); (case h1 => exact u32s_one xs)))
      exact bodyPost_ret (results_cell_row rfl _ _ g2 51 ⟨u32s xs⟩ (0, 0) _ rfl (setRow_heap _ _ _ _ _ _ B2.out) Try.underlying51 rfl (by rw [show (⟨u32s xs⟩ : Array Value).size = 64 by rw [List.size_toArray, u32s_length, HX.out, HT.out]]; rfl)) rfl ⟨by rw [HW.out, HT.out], below_setRow HB.out G2.out _⟩
end Go.Proofs.Ytlniejfbkcgneaa.HashT

/- Proved: sums in a law's own hands; conditions: the theorems' own premises. -/
import Derived.Test.YtlniejfbkcgneaaHAwake
namespace Go.Proofs.Ytlniejfbkcgneaa.HashT
open Go.RowKit Go.Proofs.Ytlniejfbkcgneaa.YHash Go.Proofs.YtlniejfbkcgneaaW.PrintWords Go.Proofs.YtlniejfbkcgneaaW.PrintLast Go.Proofs.YtlniejfbkcgneaaW.PrintMore
set_option linter.unusedVariables false
set_option linter.unusedSimpArgs false
/-- Sources: where each lies, its capacity, its bytes. -/
def srcCells (l : List (Option Addr × Nat × List Int)) : Array Value := (l.map fun s => Value.slice s.1 s.2.2.length s.2.1).toArray
theorem parts_of {w : World} {gp : Nat} {l : List (Option Addr × Nat × List Int)} {S : Nat → Prop} (hg : w.heap[gp]? = some (.cells (srcCells l) 22 (0, 0))) (h1 : ¬ S gp)
    (hb : ∀ s ∈ l, Bytes w s.1 s.2.2 ∧ (0 < s.2.2.length → ∀ ad, s.1 = some ad → ¬ S ad.block)) : PartsAt w (some ⟨gp, 0, none⟩) (l.map (·.2.2)) S := by
  intro _
  refine ⟨gp, 0, rfl, h1, fun i hi => ?_⟩
  have hi' : i < l.length := by rwa [List.length_map] at hi
  obtain ⟨h2, h3⟩ := hb (l[i]) (List.getElem_mem hi')
  refine ⟨(l[i]).1, (l[i]).2.1, ?_, by simpa using h2, by simpa using h3⟩
  rw [blk_cell hg, Nat.zero_add]
  unfold srcCells
  rw [List.getElem?_toArray, List.getElem?_map, List.getElem?_eq_getElem hi']
  simp
theorem SumAt.lower {w : World} {base base' g : Nat} {r : Option Nat} {T : List Int} (h : SumAt w base g r T) (hb : base' ≤ base) : SumAt w base' g r T := by
  obtain ⟨v, hv, hs⟩ := h.is
  exact ⟨v, hv, hs.blk, q_lower hs.row hb, hs.eight⟩
/-- A sum that was made behind the world w0. -/
structure Held (w0 W : World) (g : Nat) (r : Option Nat) (T : List Int) : Prop where
  sum : SumAt W w0.heap.size g r T
  ge : w0.heap.size ≤ g
theorem Held.foot {w0 W : World} {g k : Nat} {r : Option Nat} {T : List Int} (h : Held w0 W g r T) (hk : Foot g r k) : w0.heap.size ≤ k ∧ k < W.heap.size := by
  obtain ⟨v, hv, hs⟩ := h.sum.is
  rcases hk with rfl | hk
  · exact ⟨h.ge, blk_lt hs.blk⟩
  · have e : v.ownBlock = some k := hv.trans hk.symm
    exact ⟨(q_typed hs.row k e).1, q_lt hs.row k e⟩
theorem Held.below {w0 W W1 : World} {g : Nat} {r : Option Nat} {T : List Int} (h : Held w0 W g r T) (hb : Below W.heap.size W W1) : Held w0 W1 g r T :=
  ⟨h.sum.keep (Frame.of_below hb) (fun h => h) (fun _ _ h => h), h.ge⟩
/-- Two sums' memories are apart. -/
def Apart (g : Nat) (r : Option Nat) (g' : Nat) (r' : Option Nat) : Prop := ∀ k, Foot g r k → ¬ Foot g' r' k
theorem Held.frame {w0 W W1 : World} {g g' : Nat} {r r' : Option Nat} {T : List Int} (h : Held w0 W g r T) (hf : Frame W W1 (Foot g' r')) (ha : Apart g r g' r') : Held w0 W1 g r T :=
  ⟨h.sum.keep hf (ha g (.inl rfl)) (fun k hk => ha k (.inr hk.symm)), h.ge⟩
theorem Apart.symm {g g' : Nat} {r r' : Option Nat} (h : Apart g r g' r') : Apart g' r' g r := fun k h1 h2 => h k h2 h1
theorem Apart.grow {w0 W : World} {g g' : Nat} {r r' r1 : Option Nat} {T' : List Int} (h : Apart g r g' r') (h' : Held w0 W g' r' T') (hr : r1 = r ∨ ∃ k, r1 = some k ∧ W.heap.size ≤ k) : Apart g r1 g' r' := by
  intro k h1 h2
  rcases hr with rfl | ⟨j, rfl, hj⟩
  · exact h k h1 h2
  · rcases h1 with h1 | h1
    · exact h k (.inl h1) h2
    · injection h1 with h1
      have := (h'.foot h2).2
      omega
theorem held_new {w0 W W1 : World} {g : Nat} (hs : SumAt W1 W.heap.size g none []) (hg : W.heap.size ≤ g) (hB : w0.heap.size ≤ W.heap.size) : Held w0 W1 g none [] := ⟨hs.lower hB, by omega⟩
theorem apart_new {w0 W : World} {g g' : Nat} {r : Option Nat} {T : List Int} (h : Held w0 W g r T) (hg : W.heap.size ≤ g') : Apart g r g' none := fun k h1 h2 => by
  have := (h.foot h1).2
  rcases h2 with h2 | h2
  · omega
  · cases h2
theorem foot_fresh {w0 W : World} {g gp : Nat} {r : Option Nat} {T : List Int} (h : Held w0 W g r T) (hg : gp = W.heap.size) : ¬ Foot g r gp := fun h1 => by
  have := (h.foot h1).2
  omega
/-- Parts that came in ahead of the law are added to a sum of its own. -/
theorem add_law {w0 W : World} {g gp n : Nat} {r : Option Nat} {T : List Int} (l : List (Option Addr × Nat × List Int)) (hB : Below w0.heap.size w0 W) (hs : Held w0 W g r T) (hg : W.heap[gp]? = some (.cells (srcCells l) 22 (0, 0))) (hn : l.length = n) (hf : ¬ Foot g r gp)
    (hb : ∀ s ∈ l, Bytes w0 s.1 s.2.2) (hl : T.length + (l.map (·.2.2)).flatten.length ≤ 1001000) (hn1 : n ≤ 1000) :
    Calls Try.prog 12 #[.pointer (some ⟨g, 0, none⟩), .slice (some ⟨gp, 0, none⟩) n n] W fun e W' => e = .returned (.pointer (some ⟨g, 0, none⟩)) ∧ ∃ r', Held w0 W' g r' (T ++ (l.map (·.2.2)).flatten) ∧ (r' = r ∨ ∃ k, r' = some k ∧ W.heap.size ≤ k) ∧ Frame W W' (Foot g r) ∧ Below w0.heap.size w0 W' := by
  have hp : PartsAt W (some ⟨gp, 0, none⟩) (l.map (·.2.2)) (Foot g r) := parts_of hg hf (fun s hm => ⟨(hb s hm).below hB, fun h0 ad e h1 => by
    have := (hb s hm).lt h0 ad e
    have := (hs.foot h1).1
    omega⟩)
  refine (add_calls g w0.heap.size r T _ n n (l.map (·.2.2)) W (by rw [List.length_map]; exact hn) hB.size hs.sum hp hl hn1).mono ?_
  rintro e W1 ⟨rfl, r', hs1, hr, hf1⟩
  exact ⟨rfl, r', ⟨hs1, hs.ge⟩, hr, hf1, below_frame hB hf1 hB.size (fun k h => (hs.foot h).1)⟩
theorem of_law {w0 W : World} {gp n : Nat} (l : List (Option Addr × Nat × List Int)) (hB : Below w0.heap.size w0 W) (hg : W.heap[gp]? = some (.cells (srcCells l) 22 (0, 0))) (hn : l.length = n)
    (hb : ∀ s ∈ l, Bytes W s.1 s.2.2) (hl : (l.map (·.2.2)).flatten.length ≤ 1000000) (hn1 : n ≤ 1000) :
    Calls Try.prog 9 #[.slice (some ⟨gp, 0, none⟩) n n] W fun e W' => e = .returned (.agg ⟨nums .u8 (digest (l.map (·.2.2)).flatten)⟩) ∧ Below w0.heap.size w0 W' ∧ Below W.heap.size W W' := by
  have hp : PartsAt W (some ⟨gp, 0, none⟩) (l.map (·.2.2)) (fun _ => False) := parts_of hg (fun h => h) (fun s hm => ⟨hb s hm, fun _ _ _ h => h⟩)
  have hc := of_calls (some ⟨gp, 0, none⟩) n n (l.map (·.2.2)) W (by rw [List.length_map]; exact hn) hp hl hn1
  generalize (l.map (·.2.2)).flatten = z at hc ⊢
  refine hc.mono ?_
  rintro e W1 ⟨he, hb1⟩
  exact ⟨he, below_step hB hb1, hb1⟩
theorem end_law {w0 W : World} {g : Nat} {r : Option Nat} {T : List Int} (hB : Below w0.heap.size w0 W) (hs : Held w0 W g r T) (hT : T.length ≤ 1000000) :
    Calls Try.prog 13 #[.pointer (some ⟨g, 0, none⟩)] W fun e W' => e = .returned (.agg ⟨nums .u8 (digest T)⟩) ∧ Below w0.heap.size w0 W' ∧ Below W.heap.size W W' := by
  refine (end_calls g w0.heap.size r T W hB.size hs.sum hT).mono ?_
  rintro e W1 ⟨he, hb1⟩
  exact ⟨he, below_step hB hb1, hb1⟩
theorem new_law {w0 W : World} (hB : Below w0.heap.size w0 W) : Calls Try.prog 11 #[] W fun e W' => ∃ g, e = .returned (.pointer (some ⟨g, 0, none⟩)) ∧ W.heap.size ≤ g ∧ Held w0 W' g none [] ∧ Below w0.heap.size w0 W' ∧ Below W.heap.size W W' :=
  (new_calls W).mono fun _ _ ⟨g, h1, h2, h3, h4⟩ => ⟨g, h1, h2, held_new h3 h2 hB.size, below_step hB h4, h4⟩
theorem row_bytes {w : World} {a : Option Addr} {len cap : Nat} {zs : List Int} (h : (a = none ∧ len = 0 ∧ cap = 0 ∧ zs = []) ∨ ∃ x, a = some x ∧ len ≤ cap ∧ cap ≤ maxLen ∧ zs.length = cap ∧ (∀ i, i < zs.length → w.cell? (x.add i) = some (.int .u8 (zs.getD i 0))) ∧ ∀ n ∈ zs, (Lit.int .u8 n).wf = true) :
    ∃ l : List Int, l.length = len ∧ Bytes w a l ∧ ∀ n ∈ l, 0 ≤ n ∧ n ≤ 255 := by
  rcases h with ⟨rfl, rfl, rfl, rfl⟩ | ⟨x, rfl, h1, h2, h3, h4, h5⟩
  · exact ⟨[], rfl, fun h => by simp at h, fun n hn => by cases hn⟩
  · refine ⟨zs.take len, by rw [List.length_take]; omega, fun _ => ⟨x, rfl, fun j u hu => ?_⟩, fun n hn => ?_⟩
    · unfold nums at hu
      rw [List.getElem?_map, List.getElem?_take] at hu
      by_cases hj : j < len
      · rw [if_pos hj, List.getElem?_eq_getElem (by omega)] at hu
        have hz := h4 j (by omega)
        rw [List.getD_eq_getElem?_getD, List.getElem?_eq_getElem (by omega)] at hz
        rw [hz]
        simpa using hu
      · rw [if_neg hj] at hu; simp at hu
    · have := h5 n (List.mem_of_mem_take hn)
      simp [Lit.wf, IntKind.min, IntKind.max, IntKind.signed, IntKind.bits] at this
      exact this
end Go.Proofs.Ytlniejfbkcgneaa.HashT

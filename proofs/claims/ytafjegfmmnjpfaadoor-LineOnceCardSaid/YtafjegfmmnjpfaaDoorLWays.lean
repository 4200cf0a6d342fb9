/- Proved: ways that come in as an argument read as a list; texts with their room; conditions: the theorems' own premises. -/
import Derived.Test.YtafjegfmmnjpfaaDoorLOpen
import Derived.ChangeArms
import Derived.Deep.Slices
import Derived.Deep.Fields
import Derived.Lib.SmallJoins
namespace Go.Proofs.YtafjegfmmnjpfaaDoor.LineT
open Go.RowKit Go.ChangeShapes Go.WideShapes Go.Deep Go.Joins Go.Proofs.YtafjegfmmnjpfaaDoor.YLine Go.Proofs.YtafjegfmmnjpfaaDoorW.PrintWords Go.Proofs.YtafjegfmmnjpfaaDoorW.PrintLast Go.Proofs.YtafjegfmmnjpfaaDoorW.PrintMore
set_option linter.unusedVariables false
set_option linter.unusedSimpArgs false
/-- What becomes of a tick's packs. -/
structure WayD where
  lost : Int
  twice : Int
  back : Bool
  stay : Bool
def WayD.cells (x : WayD) : List Value := [.int .u8 x.lost, .int .u8 x.twice, .bool x.back, .bool x.stay]
structure WayOk (x : WayD) : Prop where
  l0 : 0 ≤ x.lost
  l1 : x.lost ≤ 255
  t0 : 0 ≤ x.twice
  t1 : x.twice ≤ 255
section
variable {H : Type} {enc : TypeId × Value → H} {w : World} {base : Nat} {spare : Nat → Bool} {held : Bool}
theorem c_bool : Tryd.prog.cellsOf 4 = 1 := by kernel_rfl
theorem c_u8 : Tryd.prog.cellsOf 5 = 1 := by kernel_rfl
theorem c_way : Tryd.prog.cellsOf 34 = 4 := by kernel_rfl
theorem list4 {α : Type} {l : List α} (h : l.length = 4) : ∃ a b c d, l = [a, b, c, d] := by
  match l, h with
  | [a, b, c, d], _ => exact ⟨a, b, c, d, rfl⟩
set_option maxRecDepth 100000 in
theorem way_of {fuel : Nat} {cs : List Value} {y : DataW H × List MemPlace} (h : DataW.trod enc Tryd.prog w base spare held fuel 34 cs = some y) : ∃ x : WayD, cs = x.cells ∧ WayOk x := by
  obtain ⟨ys, n', _, _, hlen, hyl, hf⟩ := DataW.trod_struct Tryd.underlying34 h
  obtain ⟨y0, y1, y2, y3, rfl⟩ := list4 hyl
  obtain ⟨a0, a1, a2, a3, rfl⟩ := list4 (hlen.trans c_way)
  have h0 := hf 0 _ rfl
  have h1 := hf 1 _ rfl
  have h2 := hf 2 _ rfl
  have h3 := hf 3 _ rfl
  simp only [List.getElem_toArray, List.getElem_cons_zero, List.getElem_cons_succ, c_bool, c_u8] at h0 h1 h2 h3
  obtain ⟨x, e0, _, w0⟩ := DataW.trod_int Tryd.underlying5 (x := y0) h0
  obtain ⟨z, e1, _, w1⟩ := DataW.trod_int Tryd.underlying5 (x := y1) h1
  obtain ⟨p, e2, _⟩ := DataW.trod_bool Tryd.underlying4 (x := y2) h2
  obtain ⟨q, e3, _⟩ := DataW.trod_bool Tryd.underlying4 (x := y3) h3
  simp only [List.drop_zero, List.take_succ_cons, List.take_zero, List.drop_succ_cons, List.cons.injEq, and_true] at e0 e1 e2 e3
  simp [Lit.wf, IntKind.min, IntKind.max, IntKind.signed, IntKind.bits] at w0 w1
  subst e0 e1 e2 e3
  exact ⟨⟨x, z, p, q⟩, rfl, w0.1, w0.2, w1.1, w1.2⟩
/-- Ways, as they lie in memory. -/
def WaysAt (w : World) (A : Option Addr) (l : List WayD) : Prop := (∀ x ∈ l, WayOk x) ∧ (0 < l.length → ∃ gr off, A = some ⟨gr, off, none⟩ ∧ ∀ i (h : i < l.length) j u, (l[i].cells)[j]? = some u → w.cell? ⟨gr, off + i * 4 + j, none⟩ = some u)
set_option maxRecDepth 100000 in
theorem ways_arg {r : Reach} {b0 : Nat} {v : Value} {d : DataW H} {p : List MemPlace} (hv : Value.okWide Tryd.prog w r b0 23 v) (h : DataW.Trod enc Tryd.prog w base spare held 23 v d p) :
    ∃ (A : Option Addr) (l : List WayD) (cap : Nat), v = .slice A l.length cap ∧ l.length ≤ 9223372036854775807 ∧ WaysAt w A l := by
  obtain ⟨a, len, cap, rfl⟩ := okWide_slice Tryd.underlying23 hv
  obtain ⟨fuel, hf⟩ := h
  have hf' : DataW.trod enc Tryd.prog w base spare held fuel 23 [.slice a len cap] = some _ := hf
  rcases open_slice Tryd.underlying23 hf' with ⟨hc, _⟩ | ⟨a, len, cap, m, n, D, Pl, hc, _, hl, hmax, hm, _, hi⟩
  · simp only [List.cons.injEq, and_true] at hc
    exact ⟨none, [], 0, hc, by simp, fun x hx => by simp at hx, fun h => absurd h (by simp)⟩
  · simp only [List.cons.injEq, and_true] at hc
    rw [c_way] at hi
    have hle : len ≤ m := by rw [hm]; split <;> omega
    have key : ∀ i, i < len → ∃ x : WayD, WayOk x ∧ ∀ (j : Nat) (u : Value), x.cells[j]? = some u → w.cell? (a.add (i * 4 + j)) = some u := by
      intro i hlt
      obtain ⟨cs', hcs, ht⟩ := hi i (by omega)
      obtain ⟨x, rfl, hx⟩ := way_of ht
      refine ⟨x, hx, fun j u hu => ?_⟩
      obtain ⟨_, hcl, hat⟩ := World.cells?_some hcs
      have hj : j < 4 := by
        have := (List.getElem?_eq_some_iff.1 hu).1
        simpa [WayD.cells] using this
      rw [← Go.Deep.add_add, hat j hj, hu]
    classical
    obtain ⟨g, hg⟩ : ∃ g : Nat → WayD, ∀ i, i < len → WayOk (g i) ∧ ∀ (j : Nat) (u : Value), (g i).cells[j]? = some u → w.cell? (a.add (i * 4 + j)) = some u :=
      ⟨fun i => if h : i < len then (key i h).choose else ⟨0, 0, false, false⟩, fun i h => by simp only [dif_pos h]; exact (key i h).choose_spec⟩
    refine ⟨some a, (List.range len).map g, cap, by rw [List.length_map, List.length_range]; exact hc, by rw [List.length_map, List.length_range]; unfold maxLen at hmax; omega, fun x hx => ?_, fun hn => ?_⟩
    · obtain ⟨i, hi', rfl⟩ := List.mem_map.1 hx
      exact (hg i (List.mem_range.1 hi')).1
    · rw [List.length_map, List.length_range] at hn
      have h0 := (hg 0 hn).2 0 _ rfl
      have e0 : a.add (0 * 4 + 0) = a := by
        rcases a with ⟨b, o, s⟩
        cases s <;> rfl
      rw [e0] at h0
      obtain ⟨gr, off, rfl⟩ := spot_none h0
      refine ⟨gr, off, rfl, fun i hi' j u hu => ?_⟩
      have hlt : i < len := by rw [List.length_map, List.length_range] at hi'; exact hi'
      have e : ((List.range len).map g)[i] = g i := by simp
      rw [e] at hu
      have := (hg i hlt).2 j u hu
      rwa [add_at, ← Nat.add_assoc] at this
set_option maxRecDepth 100000 in
/-- A slice is no longer than its room. -/
theorem texts_room {r : Reach} {b0 : Nat} {A : Option Addr} {n c : Nat} {d : DataW H} {p : List MemPlace} (h : DataW.Trod enc Tryd.prog w base spare held 22 (.slice A n c) d p) : n ≤ c := by
  obtain ⟨fuel, hf⟩ := h
  have hf' : DataW.trod enc Tryd.prog w base spare held fuel 22 [.slice A n c] = some _ := hf
  rcases open_slice Tryd.underlying22 hf' with ⟨hc, _⟩ | ⟨a, len, cap, m, n, D, Pl, hc, _, hl, hmax, hm, _, hi⟩
  · simp only [List.cons.injEq, and_true] at hc
    injection hc with h1 h2 h3
    omega
  · simp only [List.cons.injEq, and_true] at hc
    injection hc with h1 h2 h3
    omega
end
end Go.Proofs.YtafjegfmmnjpfaaDoor.LineT

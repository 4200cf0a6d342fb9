/- Proved: a screen that comes in as an argument is a struct of six cells whose cells' row reads as a list of cells, each number in its kind; conditions: the theorems' own premises. -/
import Derived.Test.YtabghncbdohciaaYGridKx0
import Derived.ChangeArms
import Derived.Deep.Slices
import Derived.Deep.Fields
import Derived.Lib.SmallJoins
namespace Go.Proofs.Ytabghncbdohciaa.OpenScreenK
open Go.RowKit Go.ChangeShapes Go.WideShapes Go.Deep Go.Joins Go.Proofs.Ytabghncbdohciaa.YGridK Go.Proofs.YtabghncbdohciaaW.PrintWords Go.Proofs.YtabghncbdohciaaW.PrintLast Go.Proofs.YtabghncbdohciaaW.PrintMore
set_option linter.unusedVariables false
section
variable {H : Type} {enc : TypeId × Value → H} {w : World} {base : Nat} {spare : Nat → Bool} {held : Bool}
theorem c_bool : Try.prog.cellsOf 4 = 1 := by kernel_rfl
theorem c_int : Try.prog.cellsOf 3 = 1 := by kernel_rfl
theorem c_u8 : Try.prog.cellsOf 5 = 1 := by kernel_rfl
theorem c_attr : Try.prog.cellsOf 42 = 4 := by kernel_rfl
theorem c_cell : Try.prog.cellsOf 44 = 6 := by kernel_rfl
theorem c_cells : Try.prog.cellsOf 22 = 1 := by kernel_rfl
theorem c_screen : Try.prog.cellsOf 24 = 6 := by kernel_rfl

theorem list3 {α : Type} {l : List α} (h : l.length = 3) : ∃ a b c, l = [a, b, c] := by
  match l, h with
  | [a, b, c], _ => exact ⟨a, b, c, rfl⟩
theorem list4 {α : Type} {l : List α} (h : l.length = 4) : ∃ a b c d, l = [a, b, c, d] := by
  match l, h with
  | [a, b, c, d], _ => exact ⟨a, b, c, d, rfl⟩
theorem list6 {α : Type} {l : List α} (h : l.length = 6) : ∃ a b c d e f, l = [a, b, c, d, e, f] := by
  match l, h with
  | [a, b, c, d, e, f], _ => exact ⟨a, b, c, d, e, f, rfl⟩
theorem array6 {α : Type} {l : Array α} (h : l.size = 6) : ∃ a b c d e f, l = #[a, b, c, d, e, f] := by
  obtain ⟨l⟩ := l
  obtain ⟨a, b, c, d, e, f, rfl⟩ := list6 (l := l) h
  exact ⟨a, b, c, d, e, f, rfl⟩

theorem attr_of {n : Nat} {c0 c1 c2 c3 : Value} {y : DataW H × List MemPlace} (h : DataW.trod enc Try.prog w base spare held n 42 [c0, c1, c2, c3] = some y) :
    ∃ (p q m : Bool) (s : Int), c0 = .bool p ∧ c1 = .bool q ∧ c2 = .int .i64 s ∧ c3 = .bool m ∧ (Lit.int .i64 s).wf = true := by
  obtain ⟨ys, n', _, _, _, hyl, hf⟩ := DataW.trod_struct Try.underlying42 h
  obtain ⟨y0, y1, y2, y3, rfl⟩ := list4 hyl
  have h0 := hf 0 _ rfl
  have h1 := hf 1 _ rfl
  have h2 := hf 2 _ rfl
  have h3 := hf 3 _ rfl
  simp only [List.getElem_toArray, List.getElem_cons_zero, List.getElem_cons_succ, c_bool, c_int] at h0 h1 h2 h3
  obtain ⟨p, e0, _⟩ := DataW.trod_bool Try.underlying4 (x := y0) h0
  obtain ⟨q, e1, _⟩ := DataW.trod_bool Try.underlying4 (x := y1) h1
  obtain ⟨s, e2, _, ws⟩ := DataW.trod_int Try.underlying3 (x := y2) h2
  obtain ⟨m, e3, _⟩ := DataW.trod_bool Try.underlying4 (x := y3) h3
  simp only [List.drop_zero, List.take_succ_cons, List.take_zero, List.drop_succ_cons, List.cons.injEq, and_true] at e0 e1 e2 e3
  exact ⟨p, q, m, s, e0, e1, e2, e3, ws⟩

/-- A cell's numbers are in their kinds. -/
def CellOk (x : S44) : Prop := 0 ≤ x.f2 ∧ x.f2 ≤ 255 ∧ -9223372036854775808 ≤ x.f1.f2 ∧ x.f1.f2 ≤ 9223372036854775807

theorem cell_of {n : Nat} {cs : List Value} {y : DataW H × List MemPlace} (h : DataW.trod enc Try.prog w base spare held n 44 cs = some y) :
    ∃ x : S44, cs = [.bool x.f0, .bool x.f1.f0, .bool x.f1.f1, .int .i64 x.f1.f2, .bool x.f1.f3, .int .u8 x.f2] ∧ CellOk x := by
  obtain ⟨ys, n', _, _, hlen, hyl, hf⟩ := DataW.trod_struct Try.underlying44 h
  obtain ⟨y0, y1, y2, rfl⟩ := list3 hyl
  obtain ⟨a0, a1, a2, a3, a4, a5, rfl⟩ := list6 (hlen.trans c_cell)
  have h0 := hf 0 _ rfl
  have h1 := hf 1 _ rfl
  have h2 := hf 2 _ rfl
  simp only [List.getElem_toArray, List.getElem_cons_zero, List.getElem_cons_succ, c_bool, c_attr, c_u8] at h0 h1 h2
  obtain ⟨b, e0, _⟩ := DataW.trod_bool Try.underlying4 (x := y0) h0
  obtain ⟨p, q, m, s, e1, e2, e3, e4, ws⟩ := attr_of (y := y1) h1
  obtain ⟨c, e5, _, wc⟩ := DataW.trod_int Try.underlying5 (x := y2) h2
  simp only [List.drop_zero, List.take_succ_cons, List.take_zero, List.drop_succ_cons, List.cons.injEq, and_true] at e0 e5
  subst e0 e1 e2 e3 e4 e5
  refine ⟨⟨b, ⟨p, q, s, m⟩, c⟩, rfl, ?_⟩
  simp [Lit.wf, IntKind.min, IntKind.max, IntKind.signed, IntKind.bits] at ws wc
  unfold CellOk
  simp only
  omega

theorem cells_of {fuel : Nat} {c : Value} {y : DataW H × List MemPlace} (h : DataW.trod enc Try.prog w base spare held fuel 22 [c] = some y) :
    ∃ (A : Option Addr) (l : List S44) (cap : Nat), c = .slice A l.length cap ∧ l.length ≤ cap ∧ Kd.C k44 w A l.length l ∧ ∀ x ∈ l, CellOk x := by
  rcases open_slice Try.underlying22 h with ⟨hc, _⟩ | ⟨a, len, cap, m, n, D, Pl, hc, _, hl, hmax, hm, _, hi⟩
  · simp only [List.cons.injEq, and_true] at hc
    exact ⟨none, [], 0, hc, Nat.le_refl _, ⟨rfl, Nat.zero_le _, fun h => absurd h (by simp)⟩, by simp⟩
  · simp only [List.cons.injEq, and_true] at hc
    rw [c_cell] at hi
    have hle : len ≤ m := by rw [hm]; split <;> omega
    have key : ∀ i, i < len → ∃ x : S44, CellOk x ∧ ∀ (j : Nat) (u : Value), [Value.bool x.f0, .bool x.f1.f0, .bool x.f1.f1, .int .i64 x.f1.f2, .bool x.f1.f3, .int .u8 x.f2][j]? = some u → w.cell? (a.add (i * 6 + j)) = some u := by
      intro i hlt
      obtain ⟨cs', hcs, ht⟩ := hi i (by omega)
      obtain ⟨x, rfl, hx⟩ := cell_of ht
      refine ⟨x, hx, fun j u hu => ?_⟩
      obtain ⟨_, hcl, hat⟩ := World.cells?_some hcs
      have hj : j < 6 := by
        have := (List.getElem?_eq_some_iff.1 hu).1
        simpa using this
      rw [← Go.Deep.add_add, hat j hj, hu]
    classical
    obtain ⟨g, hg⟩ : ∃ g : Nat → S44, ∀ i, i < len → CellOk (g i) ∧ ∀ (j : Nat) (u : Value), [Value.bool (g i).f0, .bool (g i).f1.f0, .bool (g i).f1.f1, .int .i64 (g i).f1.f2, .bool (g i).f1.f3, .int .u8 (g i).f2][j]? = some u → w.cell? (a.add (i * 6 + j)) = some u :=
      ⟨fun i => if h : i < len then (key i h).choose else z44, fun i h => by simp only [dif_pos h]; exact (key i h).choose_spec⟩
    refine ⟨some a, (List.range len).map g, cap, by rw [List.length_map, List.length_range]; exact hc, by rw [List.length_map, List.length_range]; exact hl, ⟨rfl, ?_, fun _ => ⟨a, rfl, fun j p hj => ?_⟩⟩, ?_⟩
    · rw [List.length_map, List.length_range]
      unfold maxLen at hmax; omega
    · have hlt : j < len := by
        have := (List.getElem?_eq_some_iff.1 hj).1
        simpa using this
      rw [List.getElem?_map, List.getElem?_range hlt] at hj
      simp only [Option.map_some, Option.some.injEq] at hj
      subst hj
      exact ⟨_, rfl, k44_mk w (g j), (hg j hlt).2⟩
    · intro x hx
      obtain ⟨i, hi', rfl⟩ := List.mem_map.1 hx
      exact (hg i (List.mem_range.1 hi')).1

theorem screen_of {r : Reach} {b0 : Nat} {v : Value} {d : DataW H} {p : List MemPlace} (hv : Value.okWide Try.prog w r b0 24 v) (h : DataW.Trod enc Try.prog w base spare held 24 v d p) :
    ∃ (rows cols cur : Int) (lk ins : Bool) (A : Option Addr) (l : List S44) (cap : Nat), v = .agg #[.int .i64 rows, .int .i64 cols, .slice A l.length cap, .int .i64 cur, .bool lk, .bool ins] ∧ l.length ≤ cap ∧ Kd.C k44 w A l.length l ∧ (∀ x ∈ l, CellOk x) ∧
      (Lit.int .i64 rows).wf = true ∧ (Lit.int .i64 cols).wf = true ∧ (Lit.int .i64 cur).wf = true := by
  obtain ⟨cs, rfl, hsz⟩ := okWide_struct Try.underlying24 hv
  obtain ⟨a0, a1, a2, a3, a4, a5, rfl⟩ := array6 (hsz.trans c_screen)
  obtain ⟨fuel, hf0⟩ := h
  obtain ⟨ys, n, _, _, _, hyl, hf⟩ := DataW.trod_struct Try.underlying24 hf0
  obtain ⟨y0, y1, y2, y3, y4, y5, rfl⟩ := list6 hyl
  have h0 := hf 0 _ rfl
  have h1 := hf 1 _ rfl
  have h2 := hf 2 _ rfl
  have h3 := hf 3 _ rfl
  have h4 := hf 4 _ rfl
  have h5 := hf 5 _ rfl
  simp only [List.getElem_toArray, List.getElem_cons_zero, List.getElem_cons_succ, c_bool, c_int, c_cells, Value.cells] at h0 h1 h2 h3 h4 h5
  obtain ⟨rows, e0, _, w0⟩ := DataW.trod_int Try.underlying3 (x := y0) h0
  obtain ⟨cols, e1, _, w1⟩ := DataW.trod_int Try.underlying3 (x := y1) h1
  obtain ⟨A, l, cap, e2, hl, hC, hok⟩ := cells_of (c := a2) (y := y2) h2
  obtain ⟨cur, e3, _, w3⟩ := DataW.trod_int Try.underlying3 (x := y3) h3
  obtain ⟨lk, e4, _⟩ := DataW.trod_bool Try.underlying4 (x := y4) h4
  obtain ⟨ins, e5, _⟩ := DataW.trod_bool Try.underlying4 (x := y5) h5
  simp only [List.drop_zero, List.take_succ_cons, List.take_zero, List.drop_succ_cons, List.cons.injEq, and_true] at e0 e1 e3 e4 e5
  subst e0 e1 e2 e3 e4 e5
  exact ⟨rows, cols, cur, lk, ins, A, l, cap, rfl, hl, hC, hok, w0, w1, w3⟩
theorem cell_arg {r : Reach} {b0 : Nat} {v : Value} {d : DataW H} {p : List MemPlace} (hv : Value.okWide Try.prog w r b0 44 v) (h : DataW.Trod enc Try.prog w base spare held 44 v d p) :
    ∃ (f : Bool) (p q m : Bool) (s c : Int), v = .agg #[.bool f, .bool p, .bool q, .int .i64 s, .bool m, .int .u8 c] ∧ 0 ≤ c ∧ c ≤ 255 := by
  obtain ⟨cs, rfl, hsz⟩ := okWide_struct Try.underlying44 hv
  obtain ⟨a0, a1, a2, a3, a4, a5, rfl⟩ := array6 (hsz.trans c_cell)
  obtain ⟨fuel, hf0⟩ := h
  obtain ⟨x, hx, hok⟩ := cell_of hf0
  simp only [Value.cells, List.cons.injEq, and_true] at hx
  obtain ⟨rfl, rfl, rfl, rfl, rfl, rfl⟩ := hx
  unfold CellOk at hok
  exact ⟨_, _, _, _, _, _, rfl, hok.1, hok.2.1⟩
end
end Go.Proofs.Ytabghncbdohciaa.OpenScreenK

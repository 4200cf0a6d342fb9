/- Proved: a slice of bytes, and a pack, that come in as arguments read as a list of bytes, and as two numbers, a bool and a list of bytes, each number in its kind; conditions: the theorems' own premises. -/
import Derived.Test.YtfmlndkibnjbmaaDoorYPieceKx0
import Derived.ChangeArms
import Derived.Deep.Slices
import Derived.Deep.Fields
import Derived.Lib.SmallJoins
namespace Go.Proofs.YtfmlndkibnjbmaaDoor.OpenPackK
open Go.RowKit Go.ChangeShapes Go.WideShapes Go.Deep Go.Joins Go.Proofs.YtfmlndkibnjbmaaDoor.YPieceK Go.Proofs.YtfmlndkibnjbmaaDoorW.PrintWords Go.Proofs.YtfmlndkibnjbmaaDoorW.PrintLast Go.Proofs.YtfmlndkibnjbmaaDoorW.PrintMore
set_option linter.unusedVariables false
section
variable {H : Type} {enc : TypeId × Value → H} {w : World} {base : Nat} {spare : Nat → Bool} {held : Bool}
theorem c_bool : Tryd.prog.cellsOf 4 = 1 := by kernel_rfl
theorem c_int : Tryd.prog.cellsOf 3 = 1 := by kernel_rfl
theorem c_u8 : Tryd.prog.cellsOf 5 = 1 := by kernel_rfl
theorem c_bytes : Tryd.prog.cellsOf 22 = 1 := by kernel_rfl
theorem c_pack : Tryd.prog.cellsOf 34 = 4 := by kernel_rfl
theorem list4 {α : Type} {l : List α} (h : l.length = 4) : ∃ a b c d, l = [a, b, c, d] := by
  match l, h with
  | [a, b, c, d], _ => exact ⟨a, b, c, d, rfl⟩
theorem array4 {α : Type} {l : Array α} (h : l.size = 4) : ∃ a b c d, l = #[a, b, c, d] := by
  obtain ⟨l⟩ := l
  obtain ⟨a, b, c, d, rfl⟩ := list4 (l := l) h
  exact ⟨a, b, c, d, rfl⟩
theorem bytes_of {fuel : Nat} {c : Value} {y : DataW H × List MemPlace} (h : DataW.trod enc Tryd.prog w base spare held fuel 22 [c] = some y) :
    ∃ (A : Option Addr) (l : List Int) (cap : Nat), c = .slice A l.length cap ∧ l.length ≤ cap ∧ Kd.C (Kd.int .u8) w A l.length l ∧ ∀ x ∈ l, 0 ≤ x ∧ x ≤ 255 := by
  rcases open_slice Tryd.underlying22 h with ⟨hc, _⟩ | ⟨a, len, cap, m, n, D, Pl, hc, _, hl, hmax, hm, _, hi⟩
  · simp only [List.cons.injEq, and_true] at hc
    exact ⟨none, [], 0, hc, Nat.le_refl _, ⟨rfl, Nat.zero_le _, fun h => absurd h (by simp)⟩, by simp⟩
  · simp only [List.cons.injEq, and_true] at hc
    rw [c_u8] at hi
    have hle : len ≤ m := by rw [hm]; split <;> omega
    have key : ∀ i, i < len → ∃ x : Int, (0 ≤ x ∧ x ≤ 255) ∧ w.cell? (a.add i) = some (.int .u8 x) := by
      intro i hlt
      obtain ⟨cs', hcs, ht⟩ := hi i (by omega)
      obtain ⟨x, hx, _, wx⟩ := DataW.trod_int Tryd.underlying5 ht
      subst hx
      refine ⟨x, by simp [Lit.wf, IntKind.min, IntKind.max, IntKind.signed, IntKind.bits] at wx; omega, ?_⟩
      obtain ⟨_, hcl, hat⟩ := World.cells?_some hcs
      have := hat 0 (by simp)
      rw [Go.Deep.add_add, show i * 1 + 0 = i by omega] at this
      rw [this]; rfl
    classical
    obtain ⟨g, hg⟩ : ∃ g : Nat → Int, ∀ i, i < len → (0 ≤ g i ∧ g i ≤ 255) ∧ w.cell? (a.add i) = some (.int .u8 (g i)) :=
      ⟨fun i => if h : i < len then (key i h).choose else 0, fun i h => by simp only [dif_pos h]; exact (key i h).choose_spec⟩
    refine ⟨some a, (List.range len).map g, cap, by rw [List.length_map, List.length_range]; exact hc, by rw [List.length_map, List.length_range]; exact hl, ⟨rfl, ?_, fun _ => ⟨a, rfl, fun j p hj => ?_⟩⟩, ?_⟩
    · rw [List.length_map, List.length_range]
      unfold maxLen at hmax; omega
    · have hlt : j < len := by
        have := (List.getElem?_eq_some_iff.1 hj).1
        simpa using this
      rw [List.getElem?_map, List.getElem?_range hlt] at hj
      simp only [Option.map_some, Option.some.injEq] at hj
      subst hj
      refine ⟨[.int .u8 (g j)], rfl, rfl, fun i u hu => ?_⟩
      have hi0 : i = 0 := by have := (List.getElem?_eq_some_iff.1 hu).1; simpa using this
      subst hi0
      simp only [List.getElem?_cons_zero, Option.some.injEq] at hu
      subst hu
      rw [show j * (Kd.int .u8).sz + 0 = j by show j * 1 + 0 = j; omega]
      exact (hg j hlt).2
    · intro x hx
      obtain ⟨i, hi', rfl⟩ := List.mem_map.1 hx
      exact (hg i (List.mem_range.1 hi')).1
theorem bytes_arg {r : Reach} {b0 : Nat} {v : Value} {d : DataW H} {p : List MemPlace} (hv : Value.okWide Tryd.prog w r b0 22 v) (h : DataW.Trod enc Tryd.prog w base spare held 22 v d p) :
    ∃ (A : Option Addr) (l : List Int) (cap : Nat), v = .slice A l.length cap ∧ l.length ≤ cap ∧ Kd.C (Kd.int .u8) w A l.length l ∧ ∀ x ∈ l, 0 ≤ x ∧ x ≤ 255 := by
  obtain ⟨a, len, cap, rfl⟩ := okWide_slice Tryd.underlying22 hv
  obtain ⟨fuel, hf⟩ := h
  exact bytes_of (c := .slice a len cap) hf
theorem pack_arg {r : Reach} {b0 : Nat} {v : Value} {d : DataW H} {p : List MemPlace} (hv : Value.okWide Tryd.prog w r b0 34 v) (h : DataW.Trod enc Tryd.prog w base spare held 34 v d p) :
    ∃ (a n : Int) (last : Bool) (A : Option Addr) (l : List Int) (cap : Nat), v = .agg #[.int .i64 a, .int .i64 n, .bool last, .slice A l.length cap] ∧ l.length ≤ cap ∧ Kd.C (Kd.int .u8) w A l.length l ∧ ∀ x ∈ l, 0 ≤ x ∧ x ≤ 255 := by
  obtain ⟨cs, rfl, hsz⟩ := okWide_struct Tryd.underlying34 hv
  obtain ⟨a0, a1, a2, a3, rfl⟩ := array4 (hsz.trans c_pack)
  obtain ⟨fuel, hf0⟩ := h
  obtain ⟨ys, n, _, _, _, hyl, hf⟩ := DataW.trod_struct Tryd.underlying34 hf0
  obtain ⟨y0, y1, y2, y3, rfl⟩ := list4 hyl
  have h0 := hf 0 _ rfl
  have h1 := hf 1 _ rfl
  have h2 := hf 2 _ rfl
  have h3 := hf 3 _ rfl
  simp only [List.getElem_toArray, List.getElem_cons_zero, List.getElem_cons_succ, c_bool, c_int, c_bytes, Value.cells] at h0 h1 h2 h3
  obtain ⟨a, e0, _, w0⟩ := DataW.trod_int Tryd.underlying3 (x := y0) h0
  obtain ⟨n', e1, _, w1⟩ := DataW.trod_int Tryd.underlying3 (x := y1) h1
  obtain ⟨last, e2, _⟩ := DataW.trod_bool Tryd.underlying4 (x := y2) h2
  obtain ⟨A, l, cap, e3, hl, hC, hb⟩ := bytes_of (c := a3) (y := y3) h3
  simp only [List.drop_zero, List.take_succ_cons, List.take_zero, List.drop_succ_cons, List.cons.injEq, and_true] at e0 e1 e2
  subst e0 e1 e2 e3
  exact ⟨a, n', last, A, l, cap, rfl, hl, hC, hb⟩
end
end Go.Proofs.YtfmlndkibnjbmaaDoor.OpenPackK

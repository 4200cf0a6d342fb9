/- Proved: acts that come in as an argument read as a list, each number in its kind; conditions: the theorems' own premises. -/
import Derived.Test.YtaciokdgoogpiaaNKeeps
import Derived.ChangeArms
import Derived.Deep.Slices
import Derived.Deep.Fields
import Derived.Lib.SmallJoins
namespace Go.Proofs.Ytaciokdgoogpiaa.NetT
open Go.RowKit Go.ChangeShapes Go.WideShapes Go.Deep Go.Joins Go.Proofs.Ytaciokdgoogpiaa.YNet Go.Proofs.YtaciokdgoogpiaaW.PrintWords Go.Proofs.YtaciokdgoogpiaaW.PrintLast Go.Proofs.YtaciokdgoogpiaaW.PrintMore
set_option linter.unusedVariables false
set_option linter.unusedSimpArgs false
/-- An act: a tick, or a datagram (its bytes lie at A) and its fate. -/
structure ActD where
  tick : Bool
  src : ByteArray
  dir : Int
  goal : ByteArray
  A : Option Addr
  c : Nat
  b : List Int
  lost : Bool
  twice : Bool
  delay : Int
def ActD.cells (x : ActD) : List Value := [.bool x.tick, .string x.src, .int .i64 x.dir, .string x.goal, .slice x.A x.b.length x.c, .bool x.lost, .bool x.twice, .int .i64 x.delay]
structure ActOk (w : World) (x : ActD) : Prop where
  cap : x.b.length ≤ x.c
  bytes : Kd.C (Kd.int .u8) w x.A x.b.length x.b
  max : x.b.length ≤ 9223372036854775807
section
variable {H : Type} {enc : TypeId × Value → H} {w : World} {base : Nat} {spare : Nat → Bool} {held : Bool}
theorem c_bool : Try.prog.cellsOf 4 = 1 := by kernel_rfl
theorem c_int : Try.prog.cellsOf 3 = 1 := by kernel_rfl
theorem c_string : Try.prog.cellsOf 9 = 1 := by kernel_rfl
theorem c_u8 : Try.prog.cellsOf 5 = 1 := by kernel_rfl
theorem c_bytes : Try.prog.cellsOf 30 = 1 := by kernel_rfl
theorem c_mail : Try.prog.cellsOf 32 = 4 := by kernel_rfl
theorem c_fate : Try.prog.cellsOf 34 = 3 := by kernel_rfl
theorem c_act : Try.prog.cellsOf 36 = 8 := by kernel_rfl
theorem list3 {α : Type} {l : List α} (h : l.length = 3) : ∃ a b c, l = [a, b, c] := by
  match l, h with
  | [a, b, c], _ => exact ⟨a, b, c, rfl⟩
theorem list4 {α : Type} {l : List α} (h : l.length = 4) : ∃ a b c d, l = [a, b, c, d] := by
  match l, h with
  | [a, b, c, d], _ => exact ⟨a, b, c, d, rfl⟩
theorem list8 {α : Type} {l : List α} (h : l.length = 8) : ∃ a b c d e f g i, l = [a, b, c, d, e, f, g, i] := by
  match l, h with
  | [a, b, c, d, e, f, g, i], _ => exact ⟨a, b, c, d, e, f, g, i, rfl⟩
theorem bytes_of {fuel : Nat} {c : Value} {y : DataW H × List MemPlace} (h : DataW.trod enc Try.prog w base spare held fuel 30 [c] = some y) :
    ∃ (A : Option Addr) (l : List Int) (cap : Nat), c = .slice A l.length cap ∧ l.length ≤ cap ∧ Kd.C (Kd.int .u8) w A l.length l ∧ ∀ x ∈ l, 0 ≤ x ∧ x ≤ 255 := by
  rcases open_slice Try.underlying30 h with ⟨hc, _⟩ | ⟨a, len, cap, m, n, D, Pl, hc, _, hl, hmax, hm, _, hi⟩
  · simp only [List.cons.injEq, and_true] at hc
    exact ⟨none, [], 0, hc, Nat.le_refl _, ⟨rfl, Nat.zero_le _, fun h => absurd h (by simp)⟩, by simp⟩
  · simp only [List.cons.injEq, and_true] at hc
    rw [c_u8] at hi
    have hle : len ≤ m := by rw [hm]; split <;> omega
    have key : ∀ i, i < len → ∃ x : Int, (0 ≤ x ∧ x ≤ 255) ∧ w.cell? (a.add i) = some (.int .u8 x) := by
      intro i hlt
      obtain ⟨cs', hcs, ht⟩ := hi i (by omega)
      obtain ⟨x, hx, _, wx⟩ := DataW.trod_int Try.underlying5 ht
      subst hx
      refine ⟨x, by simp [Lit.wf, IntKind.min, IntKind.max, IntKind.signed, IntKind.bits] at wx; omega, ?_⟩
      obtain ⟨_, hcl, hat⟩ := World.cells?_some hcs
      have := hat 0 (by simp)
      rw [Go.Deep.add_add, show i * 1 + 0 = i by omega] at this
      rw [this]; rfl
    classical
    obtain ⟨g, hg⟩ : ∃ g : Nat → Int, ∀ i, i < len → (0 ≤ g i ∧ g i ≤ 255) ∧ w.cell? (a.add i) = some (.int .u8 (g i)) :=
      ⟨fun i => if h : i < len then (key i h).choose else 0, fun i h => by simp only [dif_pos h]; exact (key i h).choose_spec⟩
    refine ⟨some a, (List.range len).map g, cap, by rw [List.length_map, List.length_range]; exact hc, by rw [List.length_map, List.length_range]; exact hl, ⟨rfl, ?_, fun _ => ⟨a, rfl, fun j p hj => ?_⟩⟩, ?_⟩
    · rw [List.length_map, List.length_range]
      unfold maxLen at hmax; omega
    · have hlt : j < len := by
        have := (List.getElem?_eq_some_iff.1 hj).1
        simpa using this
      rw [List.getElem?_map, List.getElem?_range hlt] at hj
      simp only [Option.map_some, Option.some.injEq] at hj
      subst hj
      refine ⟨[.int .u8 (g j)], rfl, rfl, fun i u hu => ?_⟩
      have hi0 : i = 0 := by have := (List.getElem?_eq_some_iff.1 hu).1; simpa using this
      subst hi0
      simp only [List.getElem?_cons_zero, Option.some.injEq] at hu
      subst hu
      rw [show j * (Kd.int .u8).sz + 0 = j by show j * 1 + 0 = j; omega]
      exact (hg j hlt).2
    · intro x hx
      obtain ⟨i, hi', rfl⟩ := List.mem_map.1 hx
      exact (hg i (List.mem_range.1 hi')).1
theorem mail_of {fuel : Nat} {c0 c1 c2 c3 : Value} {y : DataW H × List MemPlace} (h : DataW.trod enc Try.prog w base spare held fuel 32 [c0, c1, c2, c3] = some y) :
    ∃ (s : ByteArray) (d : Int) (o : ByteArray) (A : Option Addr) (l : List Int) (cap : Nat), c0 = .string s ∧ c1 = .int .i64 d ∧ c2 = .string o ∧ c3 = .slice A l.length cap ∧ l.length ≤ cap ∧ Kd.C (Kd.int .u8) w A l.length l := by
  obtain ⟨ys, n', _, _, _, hyl, hf⟩ := DataW.trod_struct Try.underlying32 h
  obtain ⟨y0, y1, y2, y3, rfl⟩ := list4 hyl
  have h0 := hf 0 _ rfl
  have h1 := hf 1 _ rfl
  have h2 := hf 2 _ rfl
  have h3 := hf 3 _ rfl
  simp only [List.getElem_toArray, List.getElem_cons_zero, List.getElem_cons_succ, c_string, c_int, c_bytes] at h0 h1 h2 h3
  obtain ⟨s, e0, _⟩ := DataW.trod_string Try.underlying9 (x := y0) h0
  obtain ⟨d, e1, _, _⟩ := DataW.trod_int Try.underlying3 (x := y1) h1
  obtain ⟨o, e2, _⟩ := DataW.trod_string Try.underlying9 (x := y2) h2
  obtain ⟨A, l, cap, e3, hl, hC, _⟩ := bytes_of (c := c3) (y := y3) h3
  simp only [List.drop_zero, List.take_succ_cons, List.take_zero, List.drop_succ_cons, List.cons.injEq, and_true] at e0 e1 e2
  exact ⟨s, d, o, A, l, cap, e0, e1, e2, e3, hl, hC⟩
theorem fate_of {fuel : Nat} {c0 c1 c2 : Value} {y : DataW H × List MemPlace} (h : DataW.trod enc Try.prog w base spare held fuel 34 [c0, c1, c2] = some y) :
    ∃ (p q : Bool) (t : Int), c0 = .bool p ∧ c1 = .bool q ∧ c2 = .int .i64 t := by
  obtain ⟨ys, n', _, _, _, hyl, hf⟩ := DataW.trod_struct Try.underlying34 h
  obtain ⟨y0, y1, y2, rfl⟩ := list3 hyl
  have h0 := hf 0 _ rfl
  have h1 := hf 1 _ rfl
  have h2 := hf 2 _ rfl
  simp only [List.getElem_toArray, List.getElem_cons_zero, List.getElem_cons_succ, c_bool, c_int] at h0 h1 h2
  obtain ⟨p, e0, _⟩ := DataW.trod_bool Try.underlying4 (x := y0) h0
  obtain ⟨q, e1, _⟩ := DataW.trod_bool Try.underlying4 (x := y1) h1
  obtain ⟨t, e2, _, _⟩ := DataW.trod_int Try.underlying3 (x := y2) h2
  simp only [List.drop_zero, List.take_succ_cons, List.take_zero, List.drop_succ_cons, List.cons.injEq, and_true] at e0 e1 e2
  exact ⟨p, q, t, e0, e1, e2⟩
theorem act_of {fuel : Nat} {cs : List Value} {y : DataW H × List MemPlace} (h : DataW.trod enc Try.prog w base spare held fuel 36 cs = some y) : ∃ x : ActD, cs = x.cells ∧ ActOk w x := by
  obtain ⟨ys, n', _, _, hlen, hyl, hf⟩ := DataW.trod_struct Try.underlying36 h
  obtain ⟨y0, y1, y2, rfl⟩ := list3 hyl
  obtain ⟨a0, a1, a2, a3, a4, a5, a6, a7, rfl⟩ := list8 (hlen.trans c_act)
  have h0 := hf 0 _ rfl
  have h1 := hf 1 _ rfl
  have h2 := hf 2 _ rfl
  simp only [List.getElem_toArray, List.getElem_cons_zero, List.getElem_cons_succ, c_bool, c_mail, c_fate] at h0 h1 h2
  obtain ⟨b, e0, _⟩ := DataW.trod_bool Try.underlying4 (x := y0) h0
  obtain ⟨s, d, o, A, l, cap, e1, e2, e3, e4, hl, hC⟩ := mail_of (y := y1) h1
  obtain ⟨p, q, t, e5, e6, e7⟩ := fate_of (y := y2) h2
  simp only [List.drop_zero, List.take_succ_cons, List.take_zero, List.drop_succ_cons, List.cons.injEq, and_true] at e0
  subst e0 e1 e2 e3 e4 e5 e6 e7
  exact ⟨⟨b, s, d, o, A, cap, l, p, q, t⟩, rfl, hl, hC, hC.2.1⟩
/-- Acts, as they lie in memory. -/
def ActsAt (w : World) (A : Option Addr) (l : List ActD) : Prop := (∀ x ∈ l, ActOk w x) ∧ (0 < l.length → ∃ gr off, A = some ⟨gr, off, none⟩ ∧ ∀ i (h : i < l.length) j u, (l[i].cells)[j]? = some u → w.cell? ⟨gr, off + i * 8 + j, none⟩ = some u)
theorem acts_arg {r : Reach} {b0 : Nat} {v : Value} {d : DataW H} {p : List MemPlace} (hv : Value.okWide Try.prog w r b0 22 v) (h : DataW.Trod enc Try.prog w base spare held 22 v d p) :
    ∃ (A : Option Addr) (l : List ActD) (cap : Nat), v = .slice A l.length cap ∧ l.length ≤ 9223372036854775807 ∧ ActsAt w A l := by
  obtain ⟨a, len, cap, rfl⟩ := okWide_slice Try.underlying22 hv
  obtain ⟨fuel, hf⟩ := h
  have hf' : DataW.trod enc Try.prog w base spare held fuel 22 [.slice a len cap] = some _ := hf
  rcases open_slice Try.underlying22 hf' with ⟨hc, _⟩ | ⟨a, len, cap, m, n, D, Pl, hc, _, hl, hmax, hm, _, hi⟩
  · simp only [List.cons.injEq, and_true] at hc
    exact ⟨none, [], 0, hc, by simp, fun x hx => by simp at hx, fun h => absurd h (by simp)⟩
  · simp only [List.cons.injEq, and_true] at hc
    rw [c_act] at hi
    have hle : len ≤ m := by rw [hm]; split <;> omega
    have key : ∀ i, i < len → ∃ x : ActD, ActOk w x ∧ ∀ (j : Nat) (u : Value), x.cells[j]? = some u → w.cell? (a.add (i * 8 + j)) = some u := by
      intro i hlt
      obtain ⟨cs', hcs, ht⟩ := hi i (by omega)
      obtain ⟨x, rfl, hx⟩ := act_of ht
      refine ⟨x, hx, fun j u hu => ?_⟩
      obtain ⟨_, hcl, hat⟩ := World.cells?_some hcs
      have hj : j < 8 := by
        have := (List.getElem?_eq_some_iff.1 hu).1
        simpa [ActD.cells] using this
      rw [← Go.Deep.add_add, hat j hj, hu]
    classical
    obtain ⟨g, hg⟩ : ∃ g : Nat → ActD, ∀ i, i < len → ActOk w (g i) ∧ ∀ (j : Nat) (u : Value), (g i).cells[j]? = some u → w.cell? (a.add (i * 8 + j)) = some u :=
      ⟨fun i => if h : i < len then (key i h).choose else ⟨false, ⟨#[]⟩, 0, ⟨#[]⟩, none, 0, [], false, false, 0⟩, fun i h => by simp only [dif_pos h]; exact (key i h).choose_spec⟩
    refine ⟨some a, (List.range len).map g, cap, by rw [List.length_map, List.length_range]; exact hc, by rw [List.length_map, List.length_range]; unfold maxLen at hmax; omega, fun x hx => ?_, fun hn => ?_⟩
    · obtain ⟨i, hi', rfl⟩ := List.mem_map.1 hx
      exact (hg i (List.mem_range.1 hi')).1
    · rw [List.length_map, List.length_range] at hn
      have h0 := (hg 0 hn).2 0 _ rfl
      have e0 : a.add (0 * 8 + 0) = a := by
        rcases a with ⟨b, o, s⟩
        cases s <;> rfl
      rw [e0] at h0
      obtain ⟨gr, off, rfl⟩ := spot_none h0
      refine ⟨gr, off, rfl, fun i hi' j u hu => ?_⟩
      have hlt : i < len := by rw [List.length_map, List.length_range] at hi'; exact hi'
      have e : ((List.range len).map g)[i] = g i := by simp
      rw [e] at hu
      have := (hg i hlt).2 j u hu
      rwa [add_at, ← Nat.add_assoc] at this
end
end Go.Proofs.Ytaciokdgoogpiaa.NetT

/- Proved: words for datagrams in the air; conditions: the theorems' own premises. -/
import Derived.Test.YtaciokdgoogpiaaYNetx
import Derived.Deep.MidRow
namespace Go.Proofs.Ytaciokdgoogpiaa.NetT
open Go.RowKit Go.Proofs.Ytaciokdgoogpiaa.YNet Go.Proofs.YtaciokdgoogpiaaW.PrintWords Go.Proofs.YtaciokdgoogpiaaW.PrintLast Go.Proofs.YtaciokdgoogpiaaW.PrintMore
set_option linter.unusedVariables false
set_option linter.unusedSimpArgs false
/-- The walk stands here. -/
structure Stop (p : Prop) : Prop where
  out : p
theorem stop_here {p : Prop} (h : Stop p) : p := h.out
/-- A slice of bytes that is read. -/
def Bytes (w : World) (A : Option Addr) (p : List Int) : Prop := 0 < p.length → ∃ ad, A = some ad ∧ ∀ j u, (nums .u8 p)[j]? = some u → w.cell? (ad.add j) = some u
/-- What was there stays there, but for the blocks of S. -/
structure Frame (w w' : World) (S : Nat → Prop) : Prop where
  os : w'.os = w.os
  tape : w'.tape = w.tape
  output : w'.output = w.output
  size : w.heap.size ≤ w'.heap.size
  block : ∀ k, k < w.heap.size → ¬ S k → w'.heap[k]? = w.heap[k]?
theorem Frame.refl (w : World) (S : Nat → Prop) : Frame w w S := ⟨rfl, rfl, rfl, Nat.le_refl _, fun _ _ _ => rfl⟩
theorem Frame.of_grown {w w1 : World} {row : Option Nat} (h : w.grownBy w1 row) : Frame w w1 (fun k => some k = row) := ⟨h.os, h.tape, h.output, h.size, fun k hk hn => h.block k hk hn⟩
theorem Frame.of_below {w w1 : World} (h : Below w.heap.size w w1) : Frame w w1 (fun _ => False) := ⟨h.os, h.tape, h.output, h.size, fun k hk _ => h.block k hk⟩
theorem Frame.of_set (w : World) (g i : Nat) (u : Value) : Frame w (w.setCell ⟨g, i, none⟩ u) (fun k => k = g) := ⟨rfl, rfl, rfl, by simp [World.setCell], fun k _ hn => Below.heap_setCell w ⟨g, i, none⟩ u k hn⟩
theorem Frame.of_drewN (w : World) (n : Nat) (S : Nat → Prop) : Frame w (w.drewN n) S := ⟨rfl, rfl, rfl, Nat.le_refl _, fun _ _ _ => rfl⟩
theorem Frame.trans {w w1 w2 : World} {S S' : Nat → Prop} (h : Frame w w1 S) (k : Frame w1 w2 S') (hs : ∀ i, S' i → S i ∨ w.heap.size ≤ i) : Frame w w2 S :=
  ⟨k.os.trans h.os, k.tape.trans h.tape, k.output.trans h.output, Nat.le_trans h.size k.size, fun i hi hn => (k.block i (Nat.lt_of_lt_of_le hi h.size) (fun hk => by rcases hs i hk with h1 | h1; exact hn h1; omega)).trans (h.block i hi hn)⟩
theorem Frame.cell {w w1 : World} {S : Nat → Prop} (h : Frame w w1 S) {a : Addr} {u : Value} (hc : w.cell? a = some u) (hn : ¬ S a.block) : w1.cell? a = some u := by
  have hl := World.block_lt_of_cell? w a hc
  have := h.block a.block hl hn
  simpa [World.cell?, this] using hc
theorem Frame.blk {w w1 : World} {S : Nat → Prop} (h : Frame w w1 S) {k : Nat} {o : Obj} (hc : w.heap[k]? = some o) (hn : ¬ S k) : w1.heap[k]? = some o := (h.block k (blk_lt hc) hn).trans hc
theorem Frame.below {w w1 : World} {S : Nat → Prop} (h : Frame w w1 S) (hs : ∀ k, S k → w.heap.size ≤ k) : Below w.heap.size w w1 := ⟨h.os, h.tape, h.output, h.size, fun k hk => h.block k hk (fun hn => by have := hs k hn; omega)⟩
theorem Bytes.frame {w w1 : World} {A : Option Addr} {p : List Int} {S : Nat → Prop} (h : Bytes w A p) (hf : Frame w w1 S) (hA : 0 < p.length → ∀ ad, A = some ad → ¬ S ad.block) : Bytes w1 A p := by
  intro hp
  obtain ⟨ad, rfl, hr⟩ := h hp
  refine ⟨ad, rfl, fun j u hu => hf.cell (hr j u hu) ?_⟩
  have := hA hp ad rfl
  unfold Addr.add
  split <;> exact this
theorem Bytes.lt {w : World} {A : Option Addr} {p : List Int} (h : Bytes w A p) (hp : 0 < p.length) : ∀ ad, A = some ad → ad.block < w.heap.size := by
  intro ad e
  obtain ⟨ad', e', hc⟩ := h hp
  rw [e] at e'
  injection e' with e'
  subst e'
  have hn : (nums .u8 p)[0]? = some ((nums .u8 p)[0]'(by unfold nums; rw [List.length_map]; exact hp)) := List.getElem?_eq_getElem _
  have := World.block_lt_of_cell? w _ (hc 0 _ hn)
  unfold Addr.add at this
  split at this <;> exact this
theorem Bytes.below {w w1 : World} {A : Option Addr} {p : List Int} (h : Bytes w A p) (hb : Below w.heap.size w w1) : Bytes w1 A p := h.frame (Frame.of_below hb) (fun _ _ _ h => h)
theorem Frame.of_grown_at {w w1 : World} {g off n c : Nat} (h : w.grownBy w1 (Value.slice (some ⟨g, off, none⟩) n c).ownBlock) : Frame w w1 (fun k => k = g) := ⟨h.os, h.tape, h.output, h.size, fun k hk hn => h.block k hk (fun e => hn (Option.some.inj e))⟩
theorem qi_keep {w w1 : World} {base n e size : Nat} {v : Value} {xs : List Value} {S : Nat → Prop} (hq : QRow w base e size v n xs) (hf : Frame w w1 S) (h : ∀ k, v.ownBlock = some k → ¬ S k) : QRow w1 base e size v n xs :=
  q_move hq (fun k hk => hf.block k (q_lt hq k hk) (h k hk))
theorem qi_below {w w1 : World} {base n e size : Nat} {v : Value} {xs : List Value} (hq : QRow w base e size v n xs) (hb : Below w.heap.size w w1) : QRow w1 base e size v n xs := qi_keep hq (Frame.of_below hb) (fun _ _ h => h)
theorem below_frame {B : Nat} {w w1 w2 : World} {S : Nat → Prop} (h : Below B w w1) (hf : Frame w1 w2 S) (hB : B ≤ w1.heap.size) (hs : ∀ k, S k → B ≤ k) : Below B w w2 :=
  ⟨hf.os.trans h.os, hf.tape.trans h.tape, hf.output.trans h.output, Nat.le_trans h.size hf.size, fun k hk => (hf.block k (by omega) (fun h1 => by have := hs k h1; omega)).trans (h.block k hk)⟩
theorem reads_bytes {w : World} {A : Option Addr} {l : List Int} (h : Bytes w A l) (hl : l.length ≤ 9223372036854775807) : Kd.C (Kd.int .u8) w A l.length l := by
  refine Kd.C_of_reads (d := (0 : Int)) ⟨rfl, hl, fun hn => ?_⟩
  obtain ⟨ad, e, hc⟩ := h hn
  refine ⟨ad, e, fun j hj => hc j _ ?_⟩
  unfold nums
  rw [List.getElem?_map, List.getElem?_eq_getElem hj, List.getD_eq_getElem?_getD, List.getElem?_eq_getElem hj]; rfl
theorem own_bytes {w : World} {base : Nat} {ok : Nat → Prop} {v : Value} {l : List Int} (h : Kd.R (Kd.int .u8) 5 w base ok v l) : QRow w base 5 1 v l.length (nums .u8 l) := q_of_own (Kd.own_of_R h)
/-- A datagram that is on its way: what it says, where its bytes lie, and how many ticks it has to go. -/
structure Fl where
  src : ByteArray
  dir : Int
  goal : ByteArray
  A : Option Addr
  c : Nat
  b : List Int
  t : Int
def Fl.cells (f : Fl) : List Value := [.string f.src, .int .i64 f.dir, .string f.goal, .slice f.A f.b.length f.c, .int .i64 f.t]
def flCells (fs : List Fl) : List Value := fs.flatMap Fl.cells
theorem flCells_length (fs : List Fl) : (flCells fs).length = fs.length * 5 := by
  unfold flCells
  induction fs with
  | nil => rfl
  | cons f fs ih => rw [List.flatMap_cons, List.length_append, ih, List.length_cons]; simp [Fl.cells]; omega
theorem flCells_append (xs ys : List Fl) : flCells (xs ++ ys) = flCells xs ++ flCells ys := List.flatMap_append
theorem flCells_at (fs : List Fl) (i : Nat) (hi : i < fs.length) (j : Nat) (hj : j < 5) : (flCells fs)[i * 5 + j]? = (Fl.cells (fs[i]))[j]? := by
  induction fs generalizing i with
  | nil => simp at hi
  | cons f fs ih =>
    have e : flCells (f :: fs) = Fl.cells f ++ flCells fs := rfl
    have hl : (Fl.cells f).length = 5 := rfl
    rw [e]
    cases i with
    | zero => rw [List.getElem?_append_left (by rw [hl]; omega), Nat.zero_mul, Nat.zero_add]; rfl
    | succ i =>
      rw [List.getElem?_append_right (by rw [hl, Nat.add_mul]; omega), hl, show (i + 1) * 5 + j - 5 = i * 5 + j by rw [Nat.add_mul]; omega, ih i (by simpa using hi)]
      rfl
/-- A datagram's bytes lie in a row of their own. -/
structure FlOk (w : World) (base : Nat) (f : Fl) : Prop where
  bytes : Bytes w f.A f.b
  cap : f.b.length ≤ f.c
  own : ∀ ad, f.A = some ad → base ≤ ad.block ∧ ∃ cells, w.heap[ad.block]? = some (.cells cells 5 (0, 0))
def Far (x y : Fl) : Prop := ∀ a b, x.A = some a → y.A = some b → a.block ≠ b.block
/-- Air at block g: its datagrams; v: where their row lies. -/
structure IsAir (w : World) (base g : Nat) (v : Value) (fs : List Fl) : Prop where
  blk : w.heap[g]? = some (.cells #[v] 52 (0, 0))
  row : QRow w base 56 5 v fs.length (flCells fs)
  els : ∀ f ∈ fs, FlOk w base f
  apart : fs.Pairwise Far
/-- The blocks that air writes to. -/
def AirFoot (g : Nat) (v : Value) (k : Nat) : Prop := k = g ∨ some k = v.ownBlock
theorem FlOk.keep {w w1 : World} {base : Nat} {f : Fl} {S : Nat → Prop} (h : FlOk w base f) (hf : Frame w w1 S) (hS : ∀ ad, f.A = some ad → ¬ S ad.block) : FlOk w1 base f :=
  ⟨h.bytes.frame hf (fun _ ad e => hS ad e), h.cap, fun ad e => by
    obtain ⟨h1, cells, h2⟩ := h.own ad e
    exact ⟨h1, cells, hf.blk h2 (hS ad e)⟩⟩
theorem IsAir.typed {w : World} {base g : Nat} {v : Value} {fs : List Fl} (h : IsAir w base g v fs) {k ty : Nat} {cells : Array Value} (hk : w.heap[k]? = some (.cells cells ty (0, 0))) (h1 : ty ≠ 52) (h2 : ty ≠ 56) : ¬ AirFoot g v k := by
  intro hf
  rcases hf with rfl | hf
  · have := hk.symm.trans h.blk
    simp at this
    exact h1 this.2
  · obtain ⟨_, cc, hc⟩ := q_typed h.row k hf.symm
    have := hk.symm.trans hc
    simp at this
    exact h2 this.2
theorem IsAir.ne {w : World} {base g : Nat} {v : Value} {fs : List Fl} (h : IsAir w base g v fs) : some g ≠ v.ownBlock := fun e => by
  obtain ⟨_, cc, hc⟩ := q_typed h.row g e.symm
  have := h.blk.symm.trans hc
  simp at this
theorem IsAir.els_off {w : World} {base g : Nat} {v : Value} {fs : List Fl} (h : IsAir w base g v fs) : ∀ f ∈ fs, ∀ ad, f.A = some ad → ¬ AirFoot g v ad.block := fun f hm ad e => by
  obtain ⟨_, cells, hc⟩ := (h.els f hm).own ad e
  exact h.typed hc (by decide) (by decide)
theorem IsAir.keep {w w1 : World} {base g : Nat} {v : Value} {fs : List Fl} {S : Nat → Prop} (h : IsAir w base g v fs) (hf : Frame w w1 S) (h1 : ¬ S g) (h2 : ∀ k, v.ownBlock = some k → ¬ S k) (h3 : ∀ f ∈ fs, ∀ ad, f.A = some ad → ¬ S ad.block) : IsAir w1 base g v fs :=
  ⟨hf.blk h.blk h1, qi_keep h.row hf h2, fun f hm => (h.els f hm).keep hf (h3 f hm), h.apart⟩
theorem IsAir.below {w w1 : World} {base g : Nat} {v : Value} {fs : List Fl} (h : IsAir w base g v fs) (hb : Below w.heap.size w w1) : IsAir w1 base g v fs :=
  h.keep (Frame.of_below hb) (fun h => h) (fun _ _ h => h) (fun _ _ _ _ h => h)
end Go.Proofs.Ytaciokdgoogpiaa.NetT

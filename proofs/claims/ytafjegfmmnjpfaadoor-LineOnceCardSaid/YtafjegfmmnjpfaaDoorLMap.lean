/- Proved: the map of kept packs, entry by entry: a look-up, a deletion, a new entry, its length; conditions: the theorems' own premises. -/
import Derived.Test.YtafjegfmmnjpfaaDoorLBase
import Derived.Maps.OwnSet
namespace Go.Proofs.YtafjegfmmnjpfaaDoor.LineT
open Go.RowKit Go.ChangeShapes Go.ChangeMaps Go.Maps Go.Proofs.YtafjegfmmnjpfaaDoor.YLine Go.Proofs.YtafjegfmmnjpfaaDoorW.PrintWords Go.Proofs.YtafjegfmmnjpfaaDoorW.PrintLast Go.Proofs.YtafjegfmmnjpfaaDoorW.PrintMore
set_option linter.unusedVariables false
set_option linter.unusedSimpArgs false
/-- A pack, and where its bytes lie. -/
structure Pk where
  ack : Int
  num : Int
  last : Bool
  A : Option Addr
  c : Nat
  b : List Int
def Pk.cells (p : Pk) : List Value := [.int .i64 p.ack, .int .i64 p.num, .bool p.last, .slice p.A p.b.length p.c]
def pk0 : Pk := ⟨0, 0, false, none, 0, []⟩
/-- The index of the pack with that number. -/
def fnd (n : Int) : List Pk → Option Nat
  | [] => none
  | p :: ps => if p.num = n then some 0 else (fnd n ps).map (· + 1)
theorem fnd_lt {n : Int} {ks : List Pk} {i : Nat} (h : fnd n ks = some i) : ∃ hi : i < ks.length, (ks[i]).num = n := by
  induction ks generalizing i with
  | nil => cases h
  | cons p ps ih =>
    unfold fnd at h
    by_cases e : p.num = n
    · rw [if_pos e] at h
      injection h with h
      subst h
      exact ⟨by simp, e⟩
    · rw [if_neg e] at h
      cases hf : fnd n ps with
      | none => rw [hf] at h; cases h
      | some j =>
        rw [hf] at h
        simp only [Option.map_some, Option.some.injEq] at h
        subst h
        obtain ⟨h1, h2⟩ := ih hf
        exact ⟨by simp; omega, h2⟩
def entOf (p : Pk) : Value × Value := (.int .i64 p.num, .agg ⟨p.cells⟩)
/-- The map at block b holds these packs, in the order in which they were laid in. -/
def MapIs (w : World) (b : Nat) (ks : List Pk) : Prop := ∃ es clock, w.heap[b]? = some (.map es clock) ∧ es.toList.map (fun e => (e.key, e.val)) = ks.map entOf
theorem MapIs.keep {w w1 : World} {b : Nat} {ks : List Pk} {S : Nat → Prop} (h : MapIs w b ks) (hf : Frame w w1 S) (hn : ¬ S b) : MapIs w1 b ks := by
  obtain ⟨es, clock, h1, h2⟩ := h
  exact ⟨es, clock, hf.blk h1 hn, h2⟩
theorem MapIs.below {w w1 : World} {b : Nat} {ks : List Pk} (h : MapIs w b ks) (hb : Below w.heap.size w w1) : MapIs w1 b ks := h.keep (Frame.of_below hb) (fun h => h)
theorem MapIs.lt {w : World} {b : Nat} {ks : List Pk} (h : MapIs w b ks) : b < w.heap.size := by
  obtain ⟨es, clock, h1, _⟩ := h
  exact blk_lt h1
theorem MapIs.typed {w : World} {b k ty : Nat} {ks : List Pk} {cells : Array Value} (h : MapIs w b ks) (hk : w.heap[k]? = some (.cells cells ty (0, 0))) : k ≠ b := fun e => by
  obtain ⟨es, clock, h1, _⟩ := h
  rw [e] at hk
  have := h1.symm.trans hk
  simp at this
theorem fnd_cons (n : Int) (k : Pk) (ks : List Pk) : fnd n (k :: ks) = if k.num = n then some 0 else (fnd n ks).map (· + 1) := rfl
theorem findNow_fnd (n : Int) : ∀ (es : List MapEntry) (ks : List Pk) (i : Nat), es.map (fun e => (e.key, e.val)) = ks.map entOf →
    Instr.findNow (.int .i64) (.int .i64 n) es i = some ((fnd n ks).map (fun j => (i + j, .agg ⟨(ks.getD j pk0).cells⟩)))
  | [], ks, i, h => by
    cases ks with
    | nil => rfl
    | cons k ks => simp at h
  | e :: es, ks, i, h => by
    cases ks with
    | nil => simp at h
    | cons k ks =>
      simp only [List.map_cons, List.cons.injEq, entOf, Prod.mk.injEq] at h
      obtain ⟨⟨h1, h2⟩, h3⟩ := h
      unfold Instr.findNow
      rw [h1]
      simp only [Instr.sameNow]
      by_cases e1 : k.num = n
      · have e2 : (n == k.num) = true := by simpa using e1.symm
        simp only [if_true, e2]
        rw [fnd_cons, if_pos e1, h2]
        rfl
      · have e2 : (n == k.num) = false := by simpa using fun h => e1 h.symm
        simp only [if_true, e2]
        rw [findNow_fnd n es ks (i + 1) h3]
        rw [fnd_cons, if_neg e1]
        cases fnd n ks with
        | none => rfl
        | some j =>
          simp only [Option.map_some]
          rw [show i + 1 + j = i + (j + 1) by omega]
          rfl
theorem run_check (em : Bool) (n : Int) (w : World) : (Instr.checkKey em 10000 3 (.int .i64 n)).run Tryd.prog w = .ok () w := by
  unfold Instr.checkKey
  simp [run_underlying Tryd.underlying3]
theorem run_findKey_fnd (n : Int) (w : World) {es : List MapEntry} {ks : List Pk} (h : es.map (fun e => (e.key, e.val)) = ks.map entOf) : (Instr.findKey 3 (.int .i64 n) es).run Tryd.prog w = .ok ((fnd n ks).map (fun j => (j, .agg ⟨(ks.getD j pk0).cells⟩))) w := by
  unfold Instr.findKey
  simp [run_underlying Tryd.underlying3, findNow_fnd n es ks 0 h]
theorem zeroPk (w : World) : (zeroValue 37).run Tryd.prog w = .ok (.agg ⟨pk0.cells⟩) w := by kernel_rfl
theorem run_lookup {w : World} {b : Nat} {ks : List Pk} (h : MapIs w b ks) (n : Int) : (Instr.lookup 62 (.map (some b)) (.int .i64 n) true).run Tryd.prog w = .ok (.tuple #[.agg ⟨(match fnd n ks with | some j => ks.getD j pk0 | none => pk0).cells⟩, .bool (fnd n ks).isSome]) w := by
  obtain ⟨es, clock, hb, he⟩ := h
  cases hf : fnd n ks with
  | none => simp [Instr.lookup, run_underlying Tryd.underlying62, MapKept.run_getObj_map hb, run_check, run_findKey_fnd n w he, hf, zeroPk, Result.andThen]; rfl
  | some j => simp [Instr.lookup, run_underlying Tryd.underlying62, MapKept.run_getObj_map hb, run_check, run_findKey_fnd n w he, hf, Result.andThen]
theorem run_maplen {w : World} {b : Nat} {ks : List Pk} (h : MapIs w b ks) (ty : TypeId) : (Builtin.len_ #[62] ty #[.map (some b)]).run Tryd.prog w = .ok (.int .i64 (ks.length : Int)) w := by
  obtain ⟨es, clock, hb, he⟩ := h
  have hl : es.size = ks.length := by
    have := congrArg List.length he
    simpa using this
  rw [← hl]
  simp [Builtin.len_, run_underlying Tryd.underlying62, MapKept.run_getObj_map hb, goInt, Result.andThen]
theorem map_eraseIdx' {α β : Type} (f : α → β) : ∀ (l : List α) (k : Nat), (l.eraseIdx k).map f = (l.map f).eraseIdx k
  | [], _ => rfl
  | _ :: _, 0 => rfl
  | x :: l, k + 1 => by simp [List.eraseIdx, map_eraseIdx' f l k]
theorem Frame.of_setBlock {w : World} {b : Nat} {es : Array MapEntry} {clock : Nat} {o' : Obj} (hb : w.heap[b]? = some (.map es clock)) : Frame w (setBlock w b o') (fun k => k = b) :=
  ⟨rfl, rfl, rfl, by simp [setBlock], fun k _ hn => heap_setBlock_other hb _ (fun e => hn e)⟩
theorem run_mapdel {w : World} {b : Nat} {ks : List Pk} (h : MapIs w b ks) (n : Int) {j : Nat} (hj : fnd n ks = some j) (ty : TypeId) : ∃ w', (Builtin.delete_ #[62, 3] ty #[.map (some b), .int .i64 n]).run Tryd.prog w = .ok (.tuple #[]) w' ∧ MapIs w' b (ks.eraseIdx j) ∧ Frame w w' (fun k => k = b) := by
  obtain ⟨es, clock, hb, he⟩ := h
  refine ⟨setBlock w b (.map (es.eraseIdxIfInBounds j) clock), ?_, ⟨_, clock, heap_setBlock_same hb _, ?_⟩, Frame.of_setBlock hb⟩
  · simp [Builtin.delete_, run_underlying Tryd.underlying62, MapKept.run_getObj_map hb, run_check, run_findKey_fnd n w he, hj, MapKept.run_setObj_map _ hb, Result.andThen, setBlock]
  · rw [Array.toList_eraseIdxIfInBounds, map_eraseIdx', he, map_eraseIdx']
theorem run_mapnew {w : World} {b : Nat} {ks : List Pk} (h : MapIs w b ks) (p : Pk) (hj : fnd p.num ks = none) : ∃ w', (Instr.mapUpdate 62 (.map (some b)) (.int .i64 p.num) (.agg ⟨p.cells⟩)).run Tryd.prog w = .ok () w' ∧ MapIs w' b (ks ++ [p]) ∧ Frame w w' (fun k => k = b) := by
  obtain ⟨es, clock, hb, he⟩ := h
  refine ⟨setBlock w b (.map (es.push ⟨.int .i64 p.num, .agg ⟨p.cells⟩, clock⟩) (clock + 1)), ?_, ⟨_, clock + 1, heap_setBlock_same hb _, ?_⟩, Frame.of_setBlock hb⟩
  · simp [Instr.mapUpdate, run_underlying Tryd.underlying62, MapKept.run_getObj_map hb, run_check, run_findKey_fnd p.num w he, hj, MapKept.run_setObj_map _ hb, Result.andThen, setBlock]
  · rw [Array.toList_push, List.map_append, List.map_append, he]
    rfl
end Go.Proofs.YtafjegfmmnjpfaaDoor.LineT

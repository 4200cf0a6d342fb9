/- Proved: piece.Cut, its pieces told as packs in a row; conditions: the theorems' own premises. -/
import Derived.Test.YtafjegfmmnjpfaaDoorLTick
namespace Go.Proofs.YtafjegfmmnjpfaaDoor.LineT
open Go.RowKit Go.Proofs.YtafjegfmmnjpfaaDoor.YLine Go.Proofs.YtafjegfmmnjpfaaDoorW.PrintWords Go.Proofs.YtafjegfmmnjpfaaDoorW.PrintLast Go.Proofs.YtafjegfmmnjpfaaDoorW.PrintMore
set_option linter.unusedVariables false
set_option linter.unusedSimpArgs false
theorem cells_list (ps : List Pk) (inner : List Value) (hl : inner.length = ps.length * 4) (h : ∀ j (hj : j < ps.length), (inner.drop (j * 4)).take 4 = (ps[j]).cells) : pkCells ps = inner := by
  apply List.ext_getElem?
  intro i
  by_cases hi : i < ps.length * 4
  · have hj : i / 4 < ps.length := by omega
    have hr : i % 4 < 4 := by omega
    have e1 := pkCells_at ps (i / 4) hj (i % 4) hr
    rw [show i / 4 * 4 + i % 4 = i by omega] at e1
    rw [e1, ← h (i / 4) hj, List.getElem?_take, if_pos hr, List.getElem?_drop, show i / 4 * 4 + i % 4 = i by omega]
  · rw [List.getElem?_eq_none (by rw [pkCells_length]; omega), List.getElem?_eq_none (by omega)]
theorem packs_of_R {w : World} {B : Nat} {ok : Nat → Prop} {v : Value} {xs : List P4} (h : Kd.R k37 37 w B ok v xs) : ∃ ps, Packs w B v ps ∧ ps.map Pk.say = xs := by
  obtain ⟨_, inner, hown, hrep⟩ := h
  have key : ∀ j, j < xs.length → ∃ p : Pk, p.cells = (inner.drop (j * 4)).take 4 ∧ xs[j]? = some p.say ∧ PkOk w B p := by
    intro j hj
    have hx : xs[j]? = some xs[j] := List.getElem?_eq_getElem hj
    have hM := hrep.2 j xs[j] hx
    obtain ⟨v3, hc, hR⟩ := k37_openM hM
    obtain ⟨A, c, rfl, hle, hby, hty⟩ := bytes_of_row hR
    refine ⟨⟨xs[j].f0, xs[j].f1, xs[j].f2, A, c, xs[j].f3⟩, hc.symm, ?_, ⟨hby, hle, hty⟩⟩
    rw [hx]
    rfl
  classical
  obtain ⟨g, hg⟩ : ∃ g : Nat → Pk, ∀ j, j < xs.length → (g j).cells = (inner.drop (j * 4)).take 4 ∧ xs[j]? = some (g j).say ∧ PkOk w B (g j) :=
    ⟨fun j => if h : j < xs.length then (key j h).choose else pk0, fun j h => by simp only [dif_pos h]; exact (key j h).choose_spec⟩
  have hlen : ((List.range xs.length).map g).length = xs.length := by rw [List.length_map, List.length_range]
  have hq := q_of_own hown
  have hcells : pkCells ((List.range xs.length).map g) = inner := cells_list _ _ (by rw [hlen]; exact hq.1) (fun j hj => by
    rw [hlen] at hj
    rw [List.getElem_map, List.getElem_range]
    exact (hg j hj).1.symm)
  refine ⟨(List.range xs.length).map g, ⟨by rw [hcells, hlen]; exact hq, fun p hp => ?_⟩, ?_⟩
  · obtain ⟨j, hj, rfl⟩ := List.mem_map.1 hp
    exact (hg j (List.mem_range.1 hj)).2.2
  · apply List.ext_getElem?
    intro j
    rw [List.map_map, List.getElem?_map]
    by_cases hj : j < xs.length
    · rw [List.getElem?_range hj, (hg j hj).2.1]
      rfl
    · rw [List.getElem?_eq_none (by rw [List.length_range]; omega), List.getElem?_eq_none (by omega)]
      rfl
/-- What Cut answers: the pieces, or why there are none. -/
def cutS (msg : List Int) : List P4 × Option Int := if msg.length = 0 then ([], some 2) else if msg.length ≤ 8192 then (Chunk.cutL msg, none) else ([], some 6)
def CutIs (w : World) (B : Nat) (e : Ending) (r : List P4 × Option Int) : Prop := ∃ v ps, e = .returned (.tuple #[v, errW r.2]) ∧ Packs w B v ps ∧ ps.map Pk.say = r.1
theorem cut_calls (w : World) (A : Option Addr) (c : Nat) (msg : List Int) (hb : Bytes w A msg) (hc : msg.length ≤ c) (hl : msg.length ≤ 9223372036854775807) :
    Calls Tryd.prog 25 #[.slice A msg.length c] w fun e w' => CutIs w' w.heap.size e (cutS msg) ∧ Below w.heap.size w w' := by
  have hf : piece_Cut.f msg = some ((cutS msg).1, (cutS msg).2) := by
    unfold piece_Cut.f cutS
    split
    · rfl
    · split <;> rfl
  refine (piece_Cut.calls A c msg _ _ w (reads_bytes hb hl) hc hf).mono ?_
  rintro e w' ⟨v, rfl, hS, hb'⟩
  obtain ⟨ps, h1, h2⟩ := packs_of_R (Kd.S_R hS)
  exact ⟨⟨v, ps, rfl, h1, h2⟩, hb'⟩
theorem cutL_length (msg : List Int) : (Chunk.cutL msg).length = (msg.length + 63) / 64 := by
  unfold Chunk.cutL
  rw [List.length_map, List.length_range]
end Go.Proofs.YtafjegfmmnjpfaaDoor.LineT

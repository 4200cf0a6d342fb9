/- Proved: what the laws of piece share of the pieces of a message; conditions: the bytes are in their range. -/
import Derived.Test.YtfmlndkibnjbmaaDoorPieceKPure
namespace Go.Proofs.YtfmlndkibnjbmaaDoor.PieceKPure
open Go.RowKit Go.Proofs.YtfmlndkibnjbmaaDoor.YPieceK Go.Proofs.YtfmlndkibnjbmaaDoorW.PrintWords Go.Proofs.YtfmlndkibnjbmaaDoorW.PrintLast Go.Proofs.YtfmlndkibnjbmaaDoorW.PrintMore
set_option linter.unusedVariables false

theorem psame_self (a n : Int) (l : Bool) (d : List Int) (hb : d.length ≤ 100000) : Ev (fun k => piece_Same.f k a n l d a n l d) true := by
  have h := psame_ev a n l d a n l d hb
  rwa [decide_eq_true (show a = a ∧ n = n ∧ l = l ∧ d = d from ⟨rfl, rfl, rfl, rfl⟩)] at h
theorem prsame_self (a n : Int) (l : Bool) (d : List Int) (hb : d.length ≤ 100000) : Ev (fun k => shutterref22_Same.f k a n l d a n l d) true := by
  have h := prsame_ev a n l d a n l d hb
  rwa [decide_eq_true (show a = a ∧ n = n ∧ l = l ∧ d = d from ⟨rfl, rfl, rfl, rfl⟩)] at h
/-! ### the pieces -/
def pieces (l : List Int) : Nat := (l.length + 63) / 64
theorem cutL_length (l : List Int) : (Chunk.cutL l).length = pieces l := by unfold Chunk.cutL pieces; rw [List.length_map, List.length_range]
theorem cutL_at (l : List Int) {i : Nat} (h : i < pieces l) : rd_T34 (Chunk.cutL l) (i : Int) = ⟨0, (i : Int) + 1, decide (i + 1 = pieces l), Chunk.chunk l i⟩ := by
  unfold rd_T34 Chunk.cutL
  rw [Int.toNat_natCast, List.getD_eq_getElem?_getD, List.getElem?_map, List.getElem?_range (show i < (l.length + 63) / 64 from h)]
  rfl
theorem chunk_full (l : List Int) {i : Nat} (h : i + 1 < pieces l) : (Chunk.chunk l i).length = 64 := by rw [Chunk.chunk_length]; unfold Chunk.size; unfold pieces at h; omega
theorem chunk_some (l : List Int) {i : Nat} (h : i < pieces l) : 1 ≤ (Chunk.chunk l i).length ∧ (Chunk.chunk l i).length ≤ 64 := by rw [Chunk.chunk_length]; unfold Chunk.size; unfold pieces at h; omega
theorem cut_0 (l : List Int) (h : l.length = 0) : piece_Cut.f l = some ([], some 2) := by unfold piece_Cut.f; rw [if_pos h]
theorem cut_ok (l : List Int) (h : l.length ≠ 0) (h2 : l.length ≤ 8192) : piece_Cut.f l = some (Chunk.cutL l, none) := by unfold piece_Cut.f; rw [if_neg h, if_pos h2]
theorem cut_long (l : List Int) (h2 : ¬ l.length ≤ 8192) : piece_Cut.f l = some ([], some 6) := by unfold piece_Cut.f; rw [if_neg (by omega), if_neg h2]

end Go.Proofs.YtfmlndkibnjbmaaDoor.PieceKPure

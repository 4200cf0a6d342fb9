/- Proved: what is written of a pack is read, and what is read is written, as statements about numbers and lists; conditions: the bytes are in their range. -/
import Derived.Test.YtfmlndkibnjbmaaDoorPieceCom
namespace Go.Proofs.YtfmlndkibnjbmaaDoor.PiecePure
open Go.RowKit Go.Proofs.YtfmlndkibnjbmaaDoor.YPiece Go.Proofs.YtfmlndkibnjbmaaDoorW.PrintWords Go.Proofs.YtfmlndkibnjbmaaDoorW.PrintLast Go.Proofs.YtfmlndkibnjbmaaDoorW.PrintMore
set_option linter.unusedVariables false

/-! ### what is written is read -/
theorem bytesOf_length (a n : Int) (last : Bool) (d : List Int) : (bytesOf a n last d).length = 9 + d.length := by simp [bytesOf, num4]; omega
theorem bytesOf_bytes {a n : Int} {last : Bool} {d : List Int} (hd : Bytes d) : Bytes (bytesOf a n last d) := by
  intro x hx
  unfold bytesOf num4 at hx
  simp only [List.mem_append, List.mem_cons, List.not_mem_nil, or_false] at hx
  rcases hx with (h | h | h | h) | (h | h | h | h) | h | h
  iterate 8 (· subst h; omega)
  · subst h; cases last <;> simp
  · exact hd x h
theorem read_write {a n : Int} {last : Bool} {d : List Int} (h : mayB a n last d = true) : readB (bytesOf a n last d) = (a, n, last, d, none) := by
  have hm := may_true h
  have hl := bytesOf_length a n last d
  have e8 : rd (bytesOf a n last d) 8 = if last = true then 1 else 0 := rfl
  have ea : val4 (bytesOf a n last d) = a := by
    show 16777216 * ((a / 16777216) % 256) + 65536 * ((a / 65536) % 256) + 256 * ((a / 256) % 256) + a % 256 = a
    omega
  have en : val4 ((bytesOf a n last d).drop 4) = n := by
    show 16777216 * ((n / 16777216) % 256) + 65536 * ((n / 65536) % 256) + 256 * ((n / 256) % 256) + n % 256 = n
    omega
  have ed : (bytesOf a n last d).drop 9 = d := rfl
  have eb : (rd (bytesOf a n last d) 8 == 1) = last := by rw [e8]; cases last <;> rfl
  unfold readB
  rw [if_neg (by omega), if_neg (by rw [e8]; split <;> omega), ea, en, ed, eb, if_pos h]
theorem nine {b : List Int} (h : ¬ b.length < 9) : ∃ x0 x1 x2 x3 x4 x5 x6 x7 x8 r, b = x0 :: x1 :: x2 :: x3 :: x4 :: x5 :: x6 :: x7 :: x8 :: r := by
  match b, h with
  | x0 :: x1 :: x2 :: x3 :: x4 :: x5 :: x6 :: x7 :: x8 :: r, _ => exact ⟨_, _, _, _, _, _, _, _, _, _, rfl⟩
  | [], h => simp at h
  | [_], h => simp at h
  | [_, _], h => simp at h
  | [_, _, _], h => simp at h
  | [_, _, _, _], h => simp at h
  | [_, _, _, _, _], h => simp at h
  | [_, _, _, _, _, _], h => simp at h
  | [_, _, _, _, _, _, _], h => simp at h
  | [_, _, _, _, _, _, _, _], h => simp at h
theorem write_read {b : List Int} (hb : Bytes b) {a n : Int} {last : Bool} {d : List Int} {e : Option Int} (h : readB b = (a, n, last, d, e)) (he : e = none) : mayB a n last d = true ∧ bytesOf a n last d = b := by
  subst he
  unfold readB at h
  split at h
  · simp at h
  · rename_i h9
    split at h
    · simp at h
    · rename_i h8
      split at h
      · rename_i hm
        simp only [Prod.mk.injEq, and_true] at h
        obtain ⟨rfl, rfl, rfl, rfl⟩ := h
        refine ⟨hm, ?_⟩
        obtain ⟨x0, x1, x2, x3, x4, x5, x6, x7, x8, r, rfl⟩ := nine h9
        have g0 := hb x0 (by simp)
        have g1 := hb x1 (by simp)
        have g2 := hb x2 (by simp)
        have g3 := hb x3 (by simp)
        have g4 := hb x4 (by simp)
        have g5 := hb x5 (by simp)
        have g6 := hb x6 (by simp)
        have g7 := hb x7 (by simp)
        have g8 := hb x8 (by simp)
        have e8 : rd (x0 :: x1 :: x2 :: x3 :: x4 :: x5 :: x6 :: x7 :: x8 :: r) 8 = x8 := rfl
        rw [e8] at h8
        have v1 : val4 (x0 :: x1 :: x2 :: x3 :: x4 :: x5 :: x6 :: x7 :: x8 :: r) = 16777216 * x0 + 65536 * x1 + 256 * x2 + x3 := rfl
        have v2 : val4 ((x0 :: x1 :: x2 :: x3 :: x4 :: x5 :: x6 :: x7 :: x8 :: r).drop 4) = 16777216 * x4 + 65536 * x5 + 256 * x6 + x7 := rfl
        have hd : (x0 :: x1 :: x2 :: x3 :: x4 :: x5 :: x6 :: x7 :: x8 :: r).drop 9 = r := rfl
        rw [v1, v2, e8, hd]
        unfold bytesOf num4
        simp only [List.cons_append, List.nil_append, List.cons.injEq, and_true]
        refine ⟨by omega, by omega, by omega, by omega, by omega, by omega, by omega, by omega, ?_⟩
        by_cases h1 : x8 = 1
        · simp [h1]
        · rw [if_neg (by simp [h1])]; omega
      · simp at h

end Go.Proofs.YtfmlndkibnjbmaaDoor.PiecePure

/- Proved: what the laws of piece share, as statements about numbers and lists; conditions: the bytes are in their range. -/
import Derived.Test.YtafjegfmmnjpfaaDoorLDrain
namespace Go.Proofs.YtafjegfmmnjpfaaDoor.LineT
open Go.RowKit Go.Proofs.YtafjegfmmnjpfaaDoor.YLine Go.Proofs.YtafjegfmmnjpfaaDoorW.PrintWords Go.Proofs.YtafjegfmmnjpfaaDoorW.PrintLast Go.Proofs.YtafjegfmmnjpfaaDoorW.PrintMore
set_option linter.unusedVariables false

theorem wrap_in {x : Int} (h1 : -9223372036854775808 ≤ x) (h2 : x ≤ 9223372036854775807) : wrap64 x = x := by unfold wrap64; omega
theorem rd_at {l : List Int} {i : Nat} (h : i < l.length) : rd l (i : Int) = l[i] := by unfold rd; rw [Int.toNat_natCast, List.getD_eq_getElem?_getD, List.getElem?_eq_getElem h]; rfl

/-! ### may -/
def mayB (a n : Int) (last : Bool) (d : List Int) : Bool := decide (0 ≤ a) && (decide (a ≤ 2147483647) && (decide (0 ≤ n) && (decide (n ≤ 2147483647) && (if n = 0 then (if last = true then false else decide (d.length = 0)) else (decide (d.length = 64) || (last && (decide (1 ≤ d.length) && decide (d.length ≤ 64))))))))
theorem may_ev (a n : Int) (last : Bool) (d : List Int) : Ev (fun k => piece_may.f k a n last d) (mayB a n last d) := by
  have no : Ev (fun k => piece_may.j0 k (d.length : Int) true a n last d) false := Ev.step (f := fun _ => some false) (fun k => by simp only [piece_may.j0, if_true]) (Ev.now _)
  unfold piece_may.f mayB
  by_cases h1 : a < 0
  · simp only [if_pos h1, decide_eq_false (show ¬ 0 ≤ a by omega), Bool.false_and]; exact no
  · simp only [if_neg h1, decide_eq_true (show 0 ≤ a by omega), Bool.true_and]
    by_cases h2 : a > 2147483647
    · simp only [if_pos h2, decide_eq_false (show ¬ a ≤ 2147483647 by omega), Bool.false_and]; exact no
    · simp only [if_neg h2, decide_eq_true (show a ≤ 2147483647 by omega), Bool.true_and]
      by_cases h3 : n < 0
      · simp only [if_pos h3, decide_eq_false (show ¬ 0 ≤ n by omega), Bool.false_and]; exact no
      · simp only [if_neg h3, decide_eq_true (show 0 ≤ n by omega), Bool.true_and]
        by_cases h4 : n > 2147483647
        · simp only [decide_eq_true h4, decide_eq_false (show ¬ n ≤ 2147483647 by omega), Bool.false_and]; exact no
        · simp only [decide_eq_false h4, decide_eq_true (show n ≤ 2147483647 by omega), Bool.true_and]
          refine Ev.step (f := fun _ => some _) (fun k => ?_) (Ev.now _)
          simp only [piece_may.j0, Bool.false_eq_true, if_false]
          by_cases h5 : n = 0
          · simp only [if_pos h5]
            cases last <;> simp
            by_cases h6 : d = [] <;> simp [h6]
          · simp only [if_neg h5]
            by_cases h6 : (d.length : Int) = 64
            · simp only [if_pos h6, decide_eq_true (show d.length = 64 by omega), Bool.true_or]
            · simp only [if_neg h6, decide_eq_false (show ¬ d.length = 64 by omega), Bool.false_or]
              cases last
              · simp
              · simp only [if_true, Bool.true_and]
                by_cases h7 : (d.length : Int) ≥ 1
                · simp only [if_pos h7, decide_eq_true (show 1 ≤ d.length by omega), Bool.true_and]
                  congr 1
                  rw [decide_eq_decide]; omega
                · simp only [if_neg h7, decide_eq_false (show ¬ 1 ≤ d.length by omega), Bool.false_and]
theorem may_true {a n : Int} {last : Bool} {d : List Int} (h : mayB a n last d = true) : 0 ≤ a ∧ a ≤ 2147483647 ∧ 0 ≤ n ∧ n ≤ 2147483647 ∧ d.length ≤ 64 := by
  unfold mayB at h
  simp only [Bool.and_eq_true, decide_eq_true_eq] at h
  obtain ⟨h1, h2, h3, h4, h5⟩ := h
  refine ⟨h1, h2, h3, h4, ?_⟩
  split at h5
  · split at h5
    · cases h5
    · simp at h5; rw [h5]; simp
  · simp at h5; omega

/-! ### bytes -/
def num4 (n : Int) : List Int := [(n / 16777216) % 256, (n / 65536) % 256, (n / 256) % 256, n % 256]
def bytesOf (a n : Int) (last : Bool) (d : List Int) : List Int := num4 a ++ (num4 n ++ ((if last = true then 1 else 0) :: d))
theorem rdL_at {l : List (List Int)} {i : Nat} (h : i < l.length) : rd_L1 l (i : Int) = l[i] := by unfold rd_L1; rw [Int.toNat_natCast, List.getD_eq_getElem?_getD, List.getElem?_eq_getElem h]; rfl
theorem concat1 (l : List (List Int)) (hl : l.length ≤ 100) : ∀ d i (acc : List Int), i + d = l.length → acc.length + (l.drop i).flatten.length < 1000000 → Ev (fun k => slices_Concat_byte_byte.l1 k acc l (l.length : Int) (i : Int)) (acc ++ (l.drop i).flatten)
  | 0, i, acc, hi, hb => by
    refine Ev.step (f := fun _ => some acc) (fun k => ?_) (by rw [List.drop_of_length_le (by omega)]; simpa using Ev.now acc)
    simp only [slices_Concat_byte_byte.l1]
    rw [if_neg (by omega)]
  | d + 1, i, acc, hi, hb => by
    have hlt : i < l.length := by omega
    have e3 : wrap64 ((i : Int) + 1) = ((i + 1 : Nat) : Int) := by rw [wrap_in (by omega) (by omega)]; omega
    have e4 : (l.drop i).flatten = l[i] ++ (l.drop (i + 1)).flatten := by rw [List.drop_eq_getElem_cons hlt, List.flatten_cons]
    rw [e4] at hb ⊢
    rw [List.length_append] at hb
    rw [← List.append_assoc]
    refine Ev.step (fun k => ?_) (concat1 l hl d (i + 1) (acc ++ l[i]) (by omega) (by rw [List.length_append]; omega))
    simp only [slices_Concat_byte_byte.l1]
    rw [if_pos (by omega), if_pos (by omega), if_pos (by omega), rdL_at hlt, if_pos (by omega), e3]
theorem concat0 (l : List (List Int)) (hl : l.length ≤ 100) (hb : l.flatten.length < 1000000) : ∀ d i, i + d = l.length → Ev (fun k => slices_Concat_byte_byte.l0 k l (((l.take i).flatten.length : Nat) : Int) l (l.length : Int) (i : Int)) l.flatten
  | 0, i, hi => by
    have e5 : (l.take i).flatten.length = l.flatten.length := by rw [List.take_of_length_le (by omega)]
    refine Ev.step (f := fun k => slices_Concat_byte_byte.l1 k [] l (l.length : Int) ((0 : Nat) : Int)) (fun k => ?_) (by simpa using concat1 l hl l.length 0 [] (by omega) (by simpa using hb))
    simp only [slices_Concat_byte_byte.l0]
    rw [if_neg (by omega)]
    unfold slices_Grow_byte_byte.f
    rw [if_pos (by rfl), if_pos (by omega), if_pos (by omega), Option.bind_some]
    rfl
  | d + 1, i, hi => by
    have hlt : i < l.length := by omega
    have e3 : wrap64 ((i : Int) + 1) = ((i + 1 : Nat) : Int) := by rw [wrap_in (by omega) (by omega)]; omega
    have e4 : (l.take (i + 1)).flatten.length = (l.take i).flatten.length + l[i].length := by rw [List.take_succ_eq_append_getElem hlt, List.flatten_append, List.length_append]; simp
    have e5 : (l.take (i + 1)).flatten.length ≤ l.flatten.length := by
      have : l.flatten = (l.take (i + 1)).flatten ++ (l.drop (i + 1)).flatten := by rw [← List.flatten_append, List.take_append_drop]
      rw [this, List.length_append]; omega
    refine Ev.step (fun k => ?_) (concat0 l hl hb d (i + 1) (by omega))
    simp only [slices_Concat_byte_byte.l0]
    rw [if_pos (by omega), if_pos (by omega), if_pos (by omega), rdL_at hlt, wrap_in (x := ((l.take i).flatten.length : Int) + (l[i].length : Int)) (by omega) (by omega), if_neg (by omega), e3, e4]
    congr 1
theorem concat_ev (l : List (List Int)) (hl : l.length ≤ 100) (hb : l.flatten.length < 1000000) : Ev (fun k => slices_Concat_byte_byte.f k l) l.flatten := by
  unfold slices_Concat_byte_byte.f
  exact concat0 l hl hb l.length 0 (by omega)
theorem write_ev (a n : Int) (last : Bool) (d : List Int) : Ev (fun k => piece_Write.f k a n last d) (if mayB a n last d = true then (bytesOf a n last d, none) else ([], some 1)) := by
  unfold piece_Write.f
  refine Ev.bind (may_ev a n last d) ?_
  rcases hm : mayB a n last d with _ | _
  · simp only [Bool.false_eq_true, if_false]; exact Ev.now _
  · have hd := (may_true hm).2.2.2.2
    simp only [if_true]
    cases last
    · simp only [Bool.false_eq_true, if_false, piece_number.f, Option.bind_some]
      refine Ev.bind (concat_ev [num4 a, num4 n, [0], d] (by simp) (by simp [num4]; omega)) ?_
      have : [num4 a, num4 n, [0], d].flatten = bytesOf a n false d := by simp [bytesOf]
      rw [this]; exact Ev.now _
    · simp only [if_true, piece_number.f, Option.bind_some]
      refine Ev.bind (concat_ev [num4 a, num4 n, [1], d] (by simp) (by simp [num4]; omega)) ?_
      have : [num4 a, num4 n, [1], d].flatten = bytesOf a n true d := by simp [bytesOf]
      rw [this]; exact Ev.now _

end Go.Proofs.YtafjegfmmnjpfaaDoor.LineT

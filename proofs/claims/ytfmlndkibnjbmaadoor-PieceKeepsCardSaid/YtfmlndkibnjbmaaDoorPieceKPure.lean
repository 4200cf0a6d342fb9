/- Proved: what the laws of piece share, as statements about numbers and lists; conditions: the bytes are in their range. -/
import Derived.Test.YtfmlndkibnjbmaaDoorYPieceKx5
namespace Go.Proofs.YtfmlndkibnjbmaaDoor.PieceKPure
open Go.RowKit Go.Proofs.YtfmlndkibnjbmaaDoor.YPieceK Go.Proofs.YtfmlndkibnjbmaaDoorW.PrintWords Go.Proofs.YtfmlndkibnjbmaaDoorW.PrintLast Go.Proofs.YtfmlndkibnjbmaaDoorW.PrintMore
set_option linter.unusedVariables false

theorem wrap_in {x : Int} (h1 : -9223372036854775808 ≤ x) (h2 : x ≤ 9223372036854775807) : wrap64 x = x := by unfold wrap64; omega
theorem awake : Ev (fun k => shutterlaw22_awake.f k) true := Ev.of (fun k => shutterlaw22_awake.mono k) (k := 40) (by decide +kernel)
theorem rd_at {l : List Int} {i : Nat} (h : i < l.length) : rd l (i : Int) = l[i] := by unfold rd; rw [Int.toNat_natCast, List.getD_eq_getElem?_getD, List.getElem?_eq_getElem h]; rfl

/-! ### may -/
def mayB (a n : Int) (last : Bool) (d : List Int) : Bool := decide (0 ≤ a) && (decide (a ≤ 2147483647) && (decide (0 ≤ n) && (decide (n ≤ 2147483647) && (if n = 0 then (if last = true then false else decide (d.length = 0)) else (decide (d.length = 64) || (last && (decide (1 ≤ d.length) && decide (d.length ≤ 64))))))))
theorem may_ev (a n : Int) (last : Bool) (d : List Int) : Ev (fun k => piece_may.f k a n last d) (mayB a n last d) := by
  have no : Ev (fun k => piece_may.j0 k (d.length : Int) true a n last d) false := Ev.step (f := fun _ => some false) (fun k => by simp only [piece_may.j0, if_true]) (Ev.now _)
  unfold piece_may.f mayB
  by_cases h1 : a < 0
  · simp only [if_pos h1, decide_eq_false (show ¬ 0 ≤ a by omega), Bool.false_and]; exact no
  · simp only [if_neg h1, decide_eq_true (show 0 ≤ a by omega), Bool.true_and]
    by_cases h2 : a > 2147483647
    · simp only [if_pos h2, decide_eq_false (show ¬ a ≤ 2147483647 by omega), Bool.false_and]; exact no
    · simp only [if_neg h2, decide_eq_true (show a ≤ 2147483647 by omega), Bool.true_and]
      by_cases h3 : n < 0
      · simp only [if_pos h3, decide_eq_false (show ¬ 0 ≤ n by omega), Bool.false_and]; exact no
      · simp only [if_neg h3, decide_eq_true (show 0 ≤ n by omega), Bool.true_and]
        by_cases h4 : n > 2147483647
        · simp only [decide_eq_true h4, decide_eq_false (show ¬ n ≤ 2147483647 by omega), Bool.false_and]; exact no
        · simp only [decide_eq_false h4, decide_eq_true (show n ≤ 2147483647 by omega), Bool.true_and]
          refine Ev.step (f := fun _ => some _) (fun k => ?_) (Ev.now _)
          simp only [piece_may.j0, Bool.false_eq_true, if_false]
          by_cases h5 : n = 0
          · simp only [if_pos h5]
            cases last <;> simp
            by_cases h6 : d = [] <;> simp [h6]
          · simp only [if_neg h5]
            by_cases h6 : (d.length : Int) = 64
            · simp only [if_pos h6, decide_eq_true (show d.length = 64 by omega), Bool.true_or]
            · simp only [if_neg h6, decide_eq_false (show ¬ d.length = 64 by omega), Bool.false_or]
              cases last
              · simp
              · simp only [if_true, Bool.true_and]
                by_cases h7 : (d.length : Int) ≥ 1
                · simp only [if_pos h7, decide_eq_true (show 1 ≤ d.length by omega), Bool.true_and]
                  congr 1
                  rw [decide_eq_decide]; omega
                · simp only [if_neg h7, decide_eq_false (show ¬ 1 ≤ d.length by omega), Bool.false_and]
theorem may_true {a n : Int} {last : Bool} {d : List Int} (h : mayB a n last d = true) : 0 ≤ a ∧ a ≤ 2147483647 ∧ 0 ≤ n ∧ n ≤ 2147483647 ∧ d.length ≤ 64 := by
  unfold mayB at h
  simp only [Bool.and_eq_true, decide_eq_true_eq] at h
  obtain ⟨h1, h2, h3, h4, h5⟩ := h
  refine ⟨h1, h2, h3, h4, ?_⟩
  split at h5
  · split at h5
    · cases h5
    · simp at h5; rw [h5]; simp
  · simp at h5; omega

/-! ### bytes -/
def num4 (n : Int) : List Int := [(n / 16777216) % 256, (n / 65536) % 256, (n / 256) % 256, n % 256]
def bytesOf (a n : Int) (last : Bool) (d : List Int) : List Int := num4 a ++ (num4 n ++ ((if last = true then 1 else 0) :: d))
theorem rdL_at {l : List (List Int)} {i : Nat} (h : i < l.length) : rd_L1 l (i : Int) = l[i] := by unfold rd_L1; rw [Int.toNat_natCast, List.getD_eq_getElem?_getD, List.getElem?_eq_getElem h]; rfl
theorem concat1 (l : List (List Int)) (hl : l.length ≤ 100) : ∀ d i (acc : List Int), i + d = l.length → acc.length + (l.drop i).flatten.length < 1000000 → Ev (fun k => slices_Concat_byte_byte.l1 k acc l (l.length : Int) (i : Int)) (acc ++ (l.drop i).flatten)
  | 0, i, acc, hi, hb => by
    refine Ev.step (f := fun _ => some acc) (fun k => ?_) (by rw [List.drop_of_length_le (by omega)]; simpa using Ev.now acc)
    simp only [slices_Concat_byte_byte.l1]
    rw [if_neg (by omega)]
  | d + 1, i, acc, hi, hb => by
    have hlt : i < l.length := by omega
    have e3 : wrap64 ((i : Int) + 1) = ((i + 1 : Nat) : Int) := by rw [wrap_in (by omega) (by omega)]; omega
    have e4 : (l.drop i).flatten = l[i] ++ (l.drop (i + 1)).flatten := by rw [List.drop_eq_getElem_cons hlt, List.flatten_cons]
    rw [e4] at hb ⊢
    rw [List.length_append] at hb
    rw [← List.append_assoc]
    refine Ev.step (fun k => ?_) (concat1 l hl d (i + 1) (acc ++ l[i]) (by omega) (by rw [List.length_append]; omega))
    simp only [slices_Concat_byte_byte.l1]
    rw [if_pos (by omega), if_pos (by omega), if_pos (by omega), rdL_at hlt, if_pos (by omega), e3]
theorem concat0 (l : List (List Int)) (hl : l.length ≤ 100) (hb : l.flatten.length < 1000000) : ∀ d i, i + d = l.length → Ev (fun k => slices_Concat_byte_byte.l0 k l (((l.take i).flatten.length : Nat) : Int) l (l.length : Int) (i : Int)) l.flatten
  | 0, i, hi => by
    have e5 : (l.take i).flatten.length = l.flatten.length := by rw [List.take_of_length_le (by omega)]
    refine Ev.step (f := fun k => slices_Concat_byte_byte.l1 k [] l (l.length : Int) ((0 : Nat) : Int)) (fun k => ?_) (by simpa using concat1 l hl l.length 0 [] (by omega) (by simpa using hb))
    simp only [slices_Concat_byte_byte.l0]
    rw [if_neg (by omega)]
    unfold slices_Grow_byte_byte.f
    rw [if_pos (by rfl), if_pos (by omega), if_pos (by omega), Option.bind_some]
    rfl
  | d + 1, i, hi => by
    have hlt : i < l.length := by omega
    have e3 : wrap64 ((i : Int) + 1) = ((i + 1 : Nat) : Int) := by rw [wrap_in (by omega) (by omega)]; omega
    have e4 : (l.take (i + 1)).flatten.length = (l.take i).flatten.length + l[i].length := by rw [List.take_succ_eq_append_getElem hlt, List.flatten_append, List.length_append]; simp
    have e5 : (l.take (i + 1)).flatten.length ≤ l.flatten.length := by
      have : l.flatten = (l.take (i + 1)).flatten ++ (l.drop (i + 1)).flatten := by rw [← List.flatten_append, List.take_append_drop]
      rw [this, List.length_append]; omega
    refine Ev.step (fun k => ?_) (concat0 l hl hb d (i + 1) (by omega))
    simp only [slices_Concat_byte_byte.l0]
    rw [if_pos (by omega), if_pos (by omega), if_pos (by omega), rdL_at hlt, wrap_in (x := ((l.take i).flatten.length : Int) + (l[i].length : Int)) (by omega) (by omega), if_neg (by omega), e3, e4]
    congr 1
theorem concat_ev (l : List (List Int)) (hl : l.length ≤ 100) (hb : l.flatten.length < 1000000) : Ev (fun k => slices_Concat_byte_byte.f k l) l.flatten := by
  unfold slices_Concat_byte_byte.f
  exact concat0 l hl hb l.length 0 (by omega)
theorem write_ev (a n : Int) (last : Bool) (d : List Int) : Ev (fun k => piece_Write.f k a n last d) (if mayB a n last d = true then (bytesOf a n last d, none) else ([], some 1)) := by
  unfold piece_Write.f
  refine Ev.bind (may_ev a n last d) ?_
  rcases hm : mayB a n last d with _ | _
  · simp only [Bool.false_eq_true, if_false]; exact Ev.now _
  · have hd := (may_true hm).2.2.2.2
    simp only [if_true]
    cases last
    · simp only [Bool.false_eq_true, if_false, piece_number.f, Option.bind_some]
      refine Ev.bind (concat_ev [num4 a, num4 n, [0], d] (by simp) (by simp [num4]; omega)) ?_
      have : [num4 a, num4 n, [0], d].flatten = bytesOf a n false d := by simp [bytesOf]
      rw [this]; exact Ev.now _
    · simp only [if_true, piece_number.f, Option.bind_some]
      refine Ev.bind (concat_ev [num4 a, num4 n, [1], d] (by simp) (by simp [num4]; omega)) ?_
      have : [num4 a, num4 n, [1], d].flatten = bytesOf a n true d := by simp [bytesOf]
      rw [this]; exact Ev.now _

/-! ### the same? -/
theorem equal_loop (a b : List Int) (hl : a.length = b.length) (hb : a.length ≤ 100000) : ∀ d i, i + d = a.length → Ev (fun k => slices_Equal_byte_byte.l0 k a b (a.length : Int) (i : Int)) (decide (a.drop i = b.drop i))
  | 0, i, hi => by
    refine Ev.step (f := fun _ => some true) (fun k => ?_) (by rw [List.drop_of_length_le (by omega), List.drop_of_length_le (by omega)]; exact Ev.now _)
    simp only [slices_Equal_byte_byte.l0]
    rw [if_neg (by omega)]
  | d + 1, i, hi => by
    have e3 : wrap64 ((i : Int) + 1) = ((i + 1 : Nat) : Int) := by rw [wrap_in (by omega) (by omega)]; omega
    have h1 : i < a.length := by omega
    have h2 : i < b.length := by omega
    rw [List.drop_eq_getElem_cons h1, List.drop_eq_getElem_cons h2]
    by_cases c : a[i] = b[i]
    · have : decide (a[i] :: a.drop (i + 1) = b[i] :: b.drop (i + 1)) = decide (a.drop (i + 1) = b.drop (i + 1)) := by rw [decide_eq_decide]; exact ⟨fun h => (List.cons.inj h).2, fun h => by rw [c, h]⟩
      rw [this]
      refine Ev.step (fun k => ?_) (equal_loop a b hl hb d (i + 1) (by omega))
      simp only [slices_Equal_byte_byte.l0]
      rw [if_pos (by omega), if_pos (by omega), if_pos (by omega), if_pos (by omega), rd_at h1, rd_at h2, if_pos c, e3]
    · have : decide (a[i] :: a.drop (i + 1) = b[i] :: b.drop (i + 1)) = false := decide_eq_false (fun h => c (List.cons.inj h).1)
      rw [this]
      refine Ev.step (f := fun _ => some false) (fun k => ?_) (Ev.now _)
      simp only [slices_Equal_byte_byte.l0]
      rw [if_pos (by omega), if_pos (by omega), if_pos (by omega), if_pos (by omega), rd_at h1, rd_at h2, if_neg c]
theorem equal_ev (a b : List Int) (hb : a.length ≤ 100000) : Ev (fun k => slices_Equal_byte_byte.f k a b) (decide (a = b)) := by
  unfold slices_Equal_byte_byte.f
  by_cases h : (a.length : Int) = (b.length : Int)
  · simp only [if_pos h]
    exact equal_loop a b (by omega) hb a.length 0 (by omega)
  · simp only [if_neg h]
    rw [decide_eq_false (fun e => h (by rw [e]))]
    exact Ev.now _
theorem rsame_loop (a b : List Int) (hl : a.length = b.length) (hb : a.length ≤ 100000) : ∀ d i, i + d = a.length → Ev (fun k => shutterref01_Same.l0 k a b (i : Int)) (decide (a.drop i = b.drop i))
  | 0, i, hi => by
    refine Ev.step (f := fun _ => some true) (fun k => ?_) (by rw [List.drop_of_length_le (by omega), List.drop_of_length_le (by omega)]; exact Ev.now _)
    simp only [shutterref01_Same.l0]
    rw [if_neg (by omega)]
  | d + 1, i, hi => by
    have e3 : wrap64 ((i : Int) + 1) = ((i + 1 : Nat) : Int) := by rw [wrap_in (by omega) (by omega)]; omega
    have h1 : i < a.length := by omega
    have h2 : i < b.length := by omega
    rw [List.drop_eq_getElem_cons h1, List.drop_eq_getElem_cons h2]
    by_cases c : a[i] = b[i]
    · have : decide (a[i] :: a.drop (i + 1) = b[i] :: b.drop (i + 1)) = decide (a.drop (i + 1) = b.drop (i + 1)) := by rw [decide_eq_decide]; exact ⟨fun h => (List.cons.inj h).2, fun h => by rw [c, h]⟩
      rw [this]
      refine Ev.step (fun k => ?_) (rsame_loop a b hl hb d (i + 1) (by omega))
      simp only [shutterref01_Same.l0]
      rw [if_pos (by omega), if_pos (by omega), if_pos (by omega), rd_at h1, rd_at h2, if_pos c, e3]
    · have : decide (a[i] :: a.drop (i + 1) = b[i] :: b.drop (i + 1)) = false := decide_eq_false (fun h => c (List.cons.inj h).1)
      rw [this]
      refine Ev.step (f := fun _ => some false) (fun k => ?_) (Ev.now _)
      simp only [shutterref01_Same.l0]
      rw [if_pos (by omega), if_pos (by omega), if_pos (by omega), rd_at h1, rd_at h2, if_neg c]
theorem rsame_ev (a b : List Int) (hb : a.length ≤ 100000) : Ev (fun k => shutterref01_Same.f k a b) (decide (a = b)) := by
  unfold shutterref01_Same.f
  by_cases h : (a.length : Int) = (b.length : Int)
  · simp only [if_pos h]
    exact rsame_loop a b (by omega) hb a.length 0 (by omega)
  · simp only [if_neg h]
    rw [decide_eq_false (fun e => h (by rw [e]))]
    exact Ev.now _
theorem psame_ev (a n : Int) (l : Bool) (d : List Int) (a' n' : Int) (l' : Bool) (d' : List Int) (hb : d.length ≤ 100000) : Ev (fun k => piece_Same.f k a n l d a' n' l' d') (decide (a = a' ∧ n = n' ∧ l = l' ∧ d = d')) := by
  unfold piece_Same.f
  by_cases h1 : a = a'
  · by_cases h2 : n = n'
    · by_cases h3 : l = l'
      · simp only [if_pos h1, if_pos h2, if_pos (show (l == l') = true by simp [h3])]
        have : decide (a = a' ∧ n = n' ∧ l = l' ∧ d = d') = decide (d = d') := by simp [h1, h2, h3]
        rw [this]
        exact Ev.bind (equal_ev d d' hb) (Ev.now _)
      · simp only [if_pos h1, if_pos h2, if_neg (show ¬ (l == l') = true by simp [h3])]
        rw [decide_eq_false (fun h => h3 h.2.2.1)]; exact Ev.now _
    · simp only [if_pos h1, if_neg h2]
      rw [decide_eq_false (fun h => h2 h.2.1)]; exact Ev.now _
  · simp only [if_neg h1]
    rw [decide_eq_false (fun h => h1 h.1)]; exact Ev.now _
theorem prsame_ev (a n : Int) (l : Bool) (d : List Int) (a' n' : Int) (l' : Bool) (d' : List Int) (hb : d.length ≤ 100000) : Ev (fun k => shutterref22_Same.f k a n l d a' n' l' d') (decide (a = a' ∧ n = n' ∧ l = l' ∧ d = d')) := by
  unfold shutterref22_Same.f
  by_cases h1 : a = a'
  · by_cases h2 : n = n'
    · by_cases h3 : l = l'
      · simp only [if_pos h1, if_pos h2, if_pos (show (l == l') = true by simp [h3])]
        have : decide (a = a' ∧ n = n' ∧ l = l' ∧ d = d') = decide (d = d') := by simp [h1, h2, h3]
        rw [this]
        exact Ev.bind (rsame_ev d d' hb) (Ev.now _)
      · simp only [if_pos h1, if_pos h2, if_neg (show ¬ (l == l') = true by simp [h3])]
        rw [decide_eq_false (fun h => h3 h.2.2.1)]; exact Ev.now _
    · simp only [if_pos h1, if_neg h2]
      rw [decide_eq_false (fun h => h2 h.2.1)]; exact Ev.now _
  · simp only [if_neg h1]
    rw [decide_eq_false (fun h => h1 h.1)]; exact Ev.now _

/-! ### read -/
def Bytes (l : List Int) : Prop := ∀ x ∈ l, 0 ≤ x ∧ x ≤ 255
def val4 (l : List Int) : Int := 16777216 * rd l 0 + 65536 * rd l 1 + 256 * rd l 2 + rd l 3
theorem rd_byte {l : List Int} (hb : Bytes l) (i : Nat) (h : i < l.length) : 0 ≤ rd l (i : Int) ∧ rd l (i : Int) ≤ 255 := by rw [rd_at h]; exact hb _ (List.getElem_mem h)
theorem wraps_i64 (n : Int) (h0 : 0 ≤ n) (h1 : n < 2 ^ 63) : IntKind.i64.wrap n = n := by rw [IntKind.wrap_i64]; omega
theorem join (x y : Int) (i : Nat) (hx : 0 ≤ x) (hm : x % 2 ^ i = 0) (hx1 : x < 2 ^ 63) (hy : 0 ≤ y) (hy1 : y < 2 ^ i) (hy2 : y < 2 ^ 63) : Go.bits .or .i64 x y = x + y := bits_join .i64 63 (by decide) wraps_i64 i x y hx hm hx1 hy hy1 hy2
theorem four_eq {l : List Int} (hb : Bytes l) (h : 4 ≤ l.length) : piece_four.f l = some (val4 l) := by
  have b0 : 0 ≤ rd l 0 ∧ rd l 0 ≤ 255 := rd_byte hb 0 (by omega)
  have b1 : 0 ≤ rd l 1 ∧ rd l 1 ≤ 255 := rd_byte hb 1 (by omega)
  have b2 : 0 ≤ rd l 2 ∧ rd l 2 ≤ 255 := rd_byte hb 2 (by omega)
  have b3 : 0 ≤ rd l 3 ∧ rd l 3 ≤ 255 := rd_byte hb 3 (by omega)
  unfold piece_four.f val4
  rw [if_pos (by omega), if_pos (by omega), if_pos (by omega), if_pos (by omega)]
  congr 1
  generalize rd l 0 = x0 at *
  generalize rd l 1 = x1 at *
  generalize rd l 2 = x2 at *
  generalize rd l 3 = x3 at *
  rw [wrap_in (x := x0) (by omega) (by omega), wrap_in (x := x1) (by omega) (by omega), wrap_in (x := x2) (by omega) (by omega), wrap_in (x := x3) (by omega) (by omega), wrap_in (x := x0 * 16777216) (by omega) (by omega), wrap_in (x := x1 * 65536) (by omega) (by omega), wrap_in (x := x2 * 256) (by omega) (by omega)]
  rw [join (x0 * 16777216) (x1 * 65536) 24 (by omega) (by omega) (by omega) (by omega) (by omega) (by omega)]
  rw [join (x0 * 16777216 + x1 * 65536) (x2 * 256) 16 (by omega) (by omega) (by omega) (by omega) (by omega) (by omega)]
  rw [join (x0 * 16777216 + x1 * 65536 + x2 * 256) x3 8 (by omega) (by omega) (by omega) (by omega) (by omega) (by omega)]
  omega
def readB (b : List Int) : Int × Int × Bool × List Int × Option Int :=
  if b.length < 9 then (0, 0, false, [], some 2) else (if rd b 8 > 1 then (0, 0, false, [], some 3) else (if mayB (val4 b) (val4 (b.drop 4)) (rd b 8 == 1) (b.drop 9) = true then (val4 b, val4 (b.drop 4), rd b 8 == 1, b.drop 9, none) else (0, 0, false, [], some 1)))
theorem bytes_drop {l : List Int} (h : Bytes l) (n : Nat) : Bytes (l.drop n) := fun x hx => h x (List.mem_of_mem_drop hx)
theorem clone_eq (l : List Int) (h : l.length ≤ 100000) : slices_Clone_byte_byte.f l = some l := by
  unfold slices_Clone_byte_byte.f
  simp only [Option.bind_some, List.length_nil, List.nil_append]
  rw [if_pos (by omega)]
theorem read_ev (b : List Int) (hb : Bytes b) (hl : b.length ≤ 100000) : Ev (fun k => piece_Read.f k b) (readB b) := by
  unfold piece_Read.f readB
  by_cases h1 : b.length < 9
  · simp only [if_pos h1, if_pos (show (b.length : Int) < 9 by omega)]; exact Ev.now _
  · simp only [if_neg h1, if_neg (show ¬ (b.length : Int) < 9 by omega), if_pos (show (8 : Int) < (b.length : Int) by omega)]
    by_cases h2 : rd b 8 > 1
    · simp only [if_pos h2]; exact Ev.now _
    · simp only [if_neg h2, four_eq hb (show 4 ≤ b.length by omega), Option.bind_some, if_pos (show (4 : Int) ≤ (b.length : Int) by omega), four_eq (bytes_drop hb 4) (show 4 ≤ (b.drop 4).length by rw [List.length_drop]; omega), if_pos (show (9 : Int) ≤ (b.length : Int) by omega), clone_eq (b.drop 9) (by rw [List.length_drop]; omega)]
      refine Ev.bind (may_ev _ _ _ _) ?_
      rcases hm : mayB (val4 b) (val4 (b.drop 4)) (rd b 8 == 1) (b.drop 9) with _ | _
      · simp only [Bool.false_eq_true, if_false]; exact Ev.now _
      · simp only [if_true]; exact Ev.now _
end Go.Proofs.YtfmlndkibnjbmaaDoor.PieceKPure

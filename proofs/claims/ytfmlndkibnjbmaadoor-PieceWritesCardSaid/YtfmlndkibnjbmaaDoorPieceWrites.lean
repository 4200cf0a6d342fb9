/- Proved: the law PieceWrites as a statement about numbers and lists; conditions: the bytes are in their range. -/
import Derived.Test.YtfmlndkibnjbmaaDoorPieceRW
import Derived.Laws.Bits64
import Derived.Test.YtfmlndkibnjbmaaDoorYPiecex9
import Derived.Test.YtfmlndkibnjbmaaDoorYPiecex8
import Derived.Test.YtfmlndkibnjbmaaDoorYPiecex7
namespace Go.Proofs.YtfmlndkibnjbmaaDoor.PiecePure
open Go.RowKit Go.Proofs.YtfmlndkibnjbmaaDoor.YPiece Go.Proofs.YtfmlndkibnjbmaaDoorW.PrintWords Go.Proofs.YtfmlndkibnjbmaaDoorW.PrintLast Go.Proofs.YtfmlndkibnjbmaaDoorW.PrintMore
set_option linter.unusedVariables false

/-! ### PieceWrites -/
theorem rmay_ev (a n : Int) (last : Bool) (d : List Int) : Ev (fun k => shutterref22_May.f k a n last d) (mayB a n last d) := by
  have no : Ev (fun k => shutterref22_May.j0 k true a n last d) false := Ev.step (f := fun _ => some false) (fun k => by simp only [shutterref22_May.j0, if_true]) (Ev.now _)
  unfold shutterref22_May.f mayB
  by_cases h1 : a < 0
  · simp only [if_pos h1, decide_eq_false (show ¬ 0 ≤ a by omega), Bool.false_and]; exact no
  · simp only [if_neg h1, decide_eq_true (show 0 ≤ a by omega), Bool.true_and]
    by_cases h2 : a > 2147483647
    · simp only [if_pos h2, decide_eq_false (show ¬ a ≤ 2147483647 by omega), Bool.false_and]; exact no
    · simp only [if_neg h2, decide_eq_true (show a ≤ 2147483647 by omega), Bool.true_and]
      by_cases h3 : n < 0
      · simp only [if_pos h3, decide_eq_false (show ¬ 0 ≤ n by omega), Bool.false_and]; exact no
      · simp only [if_neg h3, decide_eq_true (show 0 ≤ n by omega), Bool.true_and]
        by_cases h4 : n > 2147483647
        · simp only [decide_eq_true h4, decide_eq_false (show ¬ n ≤ 2147483647 by omega), Bool.false_and]; exact no
        · simp only [decide_eq_false h4, decide_eq_true (show n ≤ 2147483647 by omega), Bool.true_and]
          refine Ev.step (f := fun _ => some _) (fun k => ?_) (Ev.now _)
          simp only [shutterref22_May.j0, Bool.false_eq_true, if_false]
          by_cases h5 : n = 0
          · simp only [if_pos h5]
            cases last <;> simp
            by_cases h6 : d = [] <;> simp [h6]
          · simp only [if_neg h5]
            by_cases h7 : (d.length : Int) ≥ 1
            · simp only [if_pos h7, decide_eq_true (show 1 ≤ d.length by omega), Bool.true_and]
              by_cases h8 : (d.length : Int) ≤ 64
              · simp only [if_pos h8, decide_eq_true (show d.length ≤ 64 by omega), Bool.and_true]
                cases last
                · simp only [Bool.false_eq_true, if_false, Bool.or_false]
                  by_cases h9 : (d.length : Int) = 64
                  · rw [decide_eq_true (show d.length = 64 by omega), beq_iff_eq.2 h9]
                  · rw [decide_eq_false (show ¬ d.length = 64 by omega), beq_eq_false_iff_ne.2 h9]
                · simp
              · simp only [if_neg h8, decide_eq_false (show ¬ d.length ≤ 64 by omega), decide_eq_false (show ¬ d.length = 64 by omega), Bool.and_false, Bool.or_false]
            · simp only [if_neg h7, decide_eq_false (show ¬ 1 ≤ d.length by omega), decide_eq_false (show ¬ d.length = 64 by omega), Bool.false_and, Bool.and_false, Bool.or_false]
theorem sh (x : Int) (c : Nat) (h0 : 0 ≤ x) (h1 : x ≤ 2147483647) (hc : c ≤ 24) : Go.bits .and .i64 (shr .i64 x (c : Int)) 255 % 256 = (x / 2 ^ c) % 256 := by
  have e : shr .i64 x (c : Int) = x / 2 ^ c := by unfold shr; rw [Int.toNat_natCast, Nat.min_eq_left (by show c ≤ 64; omega)]
  have hp : (0 : Int) < 2 ^ c := Int.pow_pos (by omega)
  have g0 : 0 ≤ x / 2 ^ c := Int.ediv_nonneg h0 (by omega)
  have g1 : x / 2 ^ c ≤ x := Int.ediv_le_self _ h0
  have := bits_mask .i64 63 (by decide) wraps_i64 8 (by decide) (x / 2 ^ c) g0 (by omega)
  rw [e, show (255 : Int) = 2 ^ 8 - 1 by decide, this]
  omega
theorem rwrite_ev (a n : Int) (last : Bool) (d : List Int) (h : mayB a n last d = true) : Ev (fun k => shutterref22_Write.f k a n last d) (bytesOf a n last d) := by
  obtain ⟨a0, a1, n0, n1, hd⟩ := may_true h
  have u : ∀ c : Nat, c ≤ 24 → IntKind.u64.wrap (c : Int) = (c : Int) := fun c hc => by rw [IntKind.wrap_u64]; omega
  have ea : num4 a = [(a / 2 ^ 24) % 256, (a / 2 ^ 16) % 256, (a / 2 ^ 8) % 256, (a / 2 ^ 0) % 256] := by simp [num4]
  have en : num4 n = [(n / 2 ^ 24) % 256, (n / 2 ^ 16) % 256, (n / 2 ^ 8) % 256, (n / 2 ^ 0) % 256] := by simp [num4]
  unfold bytesOf
  rw [ea, en]
  unfold shutterref22_Write.f
  have w : ∀ i : Nat, i ≤ 3 → IntKind.u64.wrap (wrap64 (8 * (i : Int))) = ((8 * i : Nat) : Int) := fun i hi => by rw [wrap_in (by omega) (by omega)]; have := u (8 * i) (by omega); rw [← this]; congr 1
  have s1 : ∀ (i : Nat) (acc : List Int), i ≤ 3 → acc.length < 100 → ∀ (nxt : Int), nxt = (i : Int) - 1 → ∀ r, Ev (fun k => shutterref22_Write.l0 k (acc ++ [(a / 2 ^ (8 * i)) % 256]) nxt a n last d) r → Ev (fun k => shutterref22_Write.l0 k acc (i : Int) a n last d) r := by
    intro i acc hi hacc nxt hn r hr
    refine Ev.step (fun k => ?_) hr
    simp only [shutterref22_Write.l0]
    rw [if_pos (by omega), w i hi, if_pos (by omega), if_pos (by omega), sh a (8 * i) a0 a1 (by omega), wrap_in (x := (i : Int) - 1) (by omega) (by omega), hn]
  have s2 : ∀ (i : Nat) (acc : List Int), i ≤ 3 → acc.length < 100 → ∀ (nxt : Int), nxt = (i : Int) - 1 → ∀ r, Ev (fun k => shutterref22_Write.l1 k (acc ++ [(n / 2 ^ (8 * i)) % 256]) nxt a n last d) r → Ev (fun k => shutterref22_Write.l1 k acc (i : Int) a n last d) r := by
    intro i acc hi hacc nxt hn r hr
    refine Ev.step (fun k => ?_) hr
    simp only [shutterref22_Write.l1]
    rw [if_pos (by omega), w i hi, if_pos (by omega), if_pos (by omega), sh n (8 * i) n0 n1 (by omega), wrap_in (x := (i : Int) - 1) (by omega) (by omega), hn]
  refine s1 3 [] (by omega) (by simp) ((2 : Nat) : Int) (by omega) _ ?_
  refine s1 2 _ (by omega) (by simp) ((1 : Nat) : Int) (by omega) _ ?_
  refine s1 1 _ (by omega) (by simp) ((0 : Nat) : Int) (by omega) _ ?_
  refine s1 0 _ (by omega) (by simp) (-1) (by omega) _ ?_
  refine Ev.step (f := fun k => shutterref22_Write.l1 k [(a / 2 ^ 24) % 256, (a / 2 ^ 16) % 256, (a / 2 ^ 8) % 256, (a / 2 ^ 0) % 256] ((3 : Nat) : Int) a n last d) (fun k => ?_) ?_
  · simp only [shutterref22_Write.l0]
    rw [if_neg (by omega)]
    rfl
  refine s2 3 _ (by omega) (by simp) ((2 : Nat) : Int) (by omega) _ ?_
  refine s2 2 _ (by omega) (by simp) ((1 : Nat) : Int) (by omega) _ ?_
  refine s2 1 _ (by omega) (by simp) ((0 : Nat) : Int) (by omega) _ ?_
  refine s2 0 _ (by omega) (by simp) (-1) (by omega) _ ?_
  refine Ev.step (f := fun _ => some _) (fun k => ?_) (Ev.now _)
  simp only [shutterref22_Write.l1]
  rw [if_neg (by omega)]
  cases last
  · rw [if_neg (by simp), if_pos (by simp)]
    simp only [Option.bind_some]
    rw [if_pos (by simp; omega)]
    simp
  · rw [if_pos rfl, if_pos (by simp)]
    simp only [Option.bind_some]
    rw [if_pos (by simp; omega)]
    simp
def codeB (b : List Int) : Int × Int × Bool × List Int × Int := ((readB b).1, (readB b).2.1, (readB b).2.2.1, (readB b).2.2.2.1, (readB b).2.2.2.2.getD 0)
theorem rread_loop (b : List Int) (hb : Bytes b) (hl : b.length ≤ 100000) (h9 : ¬ b.length < 9) (last : Bool) (d : List Int) : ∀ r, Ev (fun k => (shutterref22_May.f k (val4 b) (val4 (b.drop 4)) last d).bind fun t279 => (if t279 = true then (some (val4 b, val4 (b.drop 4), last, d, (0 : Int))) else (some (0, 0, false, ([] : List Int), 1)))) r → Ev (fun k => shutterref22_Read.l0 k b 0 0 0 last d) r := by
  intro r hr
  obtain ⟨x0, x1, x2, x3, x4, x5, x6, x7, x8, rest, rfl⟩ := nine h9
  have g0 := hb x0 (by simp)
  have g1 := hb x1 (by simp)
  have g2 := hb x2 (by simp)
  have g3 := hb x3 (by simp)
  have g4 := hb x4 (by simp)
  have g5 := hb x5 (by simp)
  have g6 := hb x6 (by simp)
  have g7 := hb x7 (by simp)
  have v1 : val4 (x0 :: x1 :: x2 :: x3 :: x4 :: x5 :: x6 :: x7 :: x8 :: rest) = 16777216 * x0 + 65536 * x1 + 256 * x2 + x3 := rfl
  have v2 : val4 ((x0 :: x1 :: x2 :: x3 :: x4 :: x5 :: x6 :: x7 :: x8 :: rest).drop 4) = 16777216 * x4 + 65536 * x5 + 256 * x6 + x7 := rfl
  rw [v1, v2] at hr
  have hlen : ((x0 :: x1 :: x2 :: x3 :: x4 :: x5 :: x6 :: x7 :: x8 :: rest).length : Int) = 9 + rest.length := by simp; omega
  generalize hB : (x0 :: x1 :: x2 :: x3 :: x4 :: x5 :: x6 :: x7 :: x8 :: rest) = B at hr hlen ⊢
  have r0 : rd B 0 = x0 := by rw [← hB]; rfl
  have r1 : rd B 1 = x1 := by rw [← hB]; rfl
  have r2 : rd B 2 = x2 := by rw [← hB]; rfl
  have r3 : rd B 3 = x3 := by rw [← hB]; rfl
  have r4 : rd B 4 = x4 := by rw [← hB]; rfl
  have r5 : rd B 5 = x5 := by rw [← hB]; rfl
  have r6 : rd B 6 = x6 := by rw [← hB]; rfl
  have r7 : rd B 7 = x7 := by rw [← hB]; rfl
  refine Ev.step (f := fun k => shutterref22_Read.l0 k B 1 x0 x4 last d) (fun k => ?_) ?_
  · simp only [shutterref22_Read.l0]
    rw [if_pos (by omega), if_pos (by omega), if_pos (by omega), wrap_in (x := 4 + 0) (by omega) (by omega), if_pos (by omega), if_pos (by omega), r0, show (4 : Int) + 0 = 4 by omega, r4, wrap_in (x := 256 * 0) (by omega) (by omega), wrap_in (x := x0) (by omega) (by omega), wrap_in (x := x4) (by omega) (by omega), wrap_in (x := 256 * 0 + x0) (by omega) (by omega), wrap_in (x := 256 * 0 + x4) (by omega) (by omega), wrap_in (x := 0 + 1) (by omega) (by omega)]
    congr 1 <;> omega
  refine Ev.step (f := fun k => shutterref22_Read.l0 k B 2 (256 * x0 + x1) (256 * x4 + x5) last d) (fun k => ?_) ?_
  · simp only [shutterref22_Read.l0]
    rw [if_pos (by omega), if_pos (by omega), if_pos (by omega), wrap_in (x := 4 + 1) (by omega) (by omega), if_pos (by omega), if_pos (by omega), r1, show (4 : Int) + 1 = 5 by omega, r5, wrap_in (x := 256 * x0) (by omega) (by omega), wrap_in (x := 256 * x4) (by omega) (by omega), wrap_in (x := x1) (by omega) (by omega), wrap_in (x := x5) (by omega) (by omega), wrap_in (x := 256 * x0 + x1) (by omega) (by omega), wrap_in (x := 256 * x4 + x5) (by omega) (by omega), wrap_in (x := 1 + 1) (by omega) (by omega)]
    congr 1
  refine Ev.step (f := fun k => shutterref22_Read.l0 k B 3 (256 * (256 * x0 + x1) + x2) (256 * (256 * x4 + x5) + x6) last d) (fun k => ?_) ?_
  · simp only [shutterref22_Read.l0]
    rw [if_pos (by omega), if_pos (by omega), if_pos (by omega), wrap_in (x := 4 + 2) (by omega) (by omega), if_pos (by omega), if_pos (by omega), r2, show (4 : Int) + 2 = 6 by omega, r6, wrap_in (x := 256 * (256 * x0 + x1)) (by omega) (by omega), wrap_in (x := 256 * (256 * x4 + x5)) (by omega) (by omega), wrap_in (x := x2) (by omega) (by omega), wrap_in (x := x6) (by omega) (by omega), wrap_in (x := 256 * (256 * x0 + x1) + x2) (by omega) (by omega), wrap_in (x := 256 * (256 * x4 + x5) + x6) (by omega) (by omega), wrap_in (x := 2 + 1) (by omega) (by omega)]
    congr 1
  refine Ev.step (f := fun k => shutterref22_Read.l0 k B 4 (16777216 * x0 + 65536 * x1 + 256 * x2 + x3) (16777216 * x4 + 65536 * x5 + 256 * x6 + x7) last d) (fun k => ?_) ?_
  · simp only [shutterref22_Read.l0]
    rw [if_pos (by omega), if_pos (by omega), if_pos (by omega), wrap_in (x := 4 + 3) (by omega) (by omega), if_pos (by omega), if_pos (by omega), r3, show (4 : Int) + 3 = 7 by omega, r7, wrap_in (x := 256 * (256 * (256 * x0 + x1) + x2)) (by omega) (by omega), wrap_in (x := 256 * (256 * (256 * x4 + x5) + x6)) (by omega) (by omega), wrap_in (x := x3) (by omega) (by omega), wrap_in (x := x7) (by omega) (by omega), wrap_in (x := 256 * (256 * (256 * x0 + x1) + x2) + x3) (by omega) (by omega), wrap_in (x := 256 * (256 * (256 * x4 + x5) + x6) + x7) (by omega) (by omega), wrap_in (x := 3 + 1) (by omega) (by omega)]
    congr 1 <;> omega
  refine Ev.step (fun k => ?_) hr
  simp only [shutterref22_Read.l0]
  rw [if_neg (by omega)]
theorem rread_ev (b : List Int) (hb : Bytes b) (hl : b.length ≤ 100000) : Ev (fun k => shutterref22_Read.f k b) (codeB b) := by
  unfold shutterref22_Read.f codeB readB
  by_cases h1 : b.length < 9
  · simp only [if_pos h1, if_pos (show (b.length : Int) < 9 by omega)]; exact Ev.now _
  · have h8 := rd_byte hb 8 (by omega)
    have h8' : 0 ≤ rd b 8 ∧ rd b 8 ≤ 255 := h8
    simp only [if_neg h1, if_neg (show ¬ (b.length : Int) < 9 by omega), if_pos (show (8 : Int) < (b.length : Int) by omega)]
    have go : rd b 8 ≤ 1 → Ev (fun k => shutterref22_Read.j0 k b false) (let x := (if mayB (val4 b) (val4 (b.drop 4)) (rd b 8 == 1) (b.drop 9) = true then (val4 b, val4 (b.drop 4), rd b 8 == 1, b.drop 9, none) else (0, 0, false, [], some 1)); (x.1, x.2.1, x.2.2.1, x.2.2.2.1, x.2.2.2.2.getD 0)) := by
      intro h2
      refine Ev.step (f := fun k => shutterref22_Read.l0 k b 0 0 0 (rd b 8 == 1) (b.drop 9)) (fun k => ?_) ?_
      · simp only [shutterref22_Read.j0, Bool.false_eq_true, if_false, Option.bind_some, List.length_nil, List.nil_append]
        rw [if_pos (by omega), if_pos (by omega), if_pos (by rw [List.length_drop]; omega)]
      · refine rread_loop b hb hl h1 _ _ _ (Ev.bind (rmay_ev _ _ _ _) ?_)
        rcases hm : mayB (val4 b) (val4 (b.drop 4)) (rd b 8 == 1) (b.drop 9) with _ | _
        · simp only [Bool.false_eq_true, if_false]; exact Ev.now _
        · simp only [if_true]; exact Ev.now _
    by_cases h2 : rd b 8 > 1
    · simp only [if_pos h2, if_neg (show ¬ rd b 8 = 0 by omega)]
      rw [show (rd b 8 != 1) = true by rw [bne_iff_ne]; omega]
      refine Ev.step (f := fun _ => some _) (fun k => by simp only [shutterref22_Read.j0, if_true]; rfl) (Ev.now _)
    · simp only [if_neg h2]
      by_cases h3 : rd b 8 = 0
      · simp only [if_pos h3]; exact go (by omega)
      · simp only [if_neg h3]
        rw [show (rd b 8 != 1) = false by rw [bne_eq_false_iff_eq]; omega]
        exact go (by omega)
theorem writes (a n : Int) (last : Bool) (d b : List Int) (hd : Bytes d) (hb : Bytes b) : ∃ k, shutterlaw22_PieceWrites.f k a n last d b = some true := by
  refine Ev.rounds (g := fun k => shutterlaw22_PieceWrites.f k a n last d b) ?_
  unfold shutterlaw22_PieceWrites.f
  refine Ev.bind awake ?_
  simp only [if_true]
  have asleep : Ev (fun k => shutterlaw22_PieceWrites.j0 k b true a n last d) true := by
    refine Ev.step (f := fun k => (shutterlaw22_awake.f k).bind fun t => some t) (fun k => by simp only [shutterlaw22_PieceWrites.j0, if_true]) ?_
    exact Ev.bind awake (Ev.now _)
  by_cases c1 : (d.length : Int) > 300
  · simp only [if_pos c1]; exact asleep
  · simp only [if_neg c1]
    by_cases c2 : (b.length : Int) > 300
    · simp only [decide_eq_true c2]; exact asleep
    · simp only [decide_eq_false c2]
      have hr := read_ev b hb (by omega)
      have hrr := rread_ev b hb (by omega)
      have hqd : (readB b).2.2.2.1.length ≤ 100000 := by
        unfold readB
        split
        · simp
        · split
          · simp
          · split
            · simp only [List.length_drop]; omega
            · simp
      have tl : Ev (fun k => shutterlaw22_PieceWrites.j1 k b a n last d) true := by
        refine Ev.step (fun k => by simp only [shutterlaw22_PieceWrites.j1]; rfl) (Ev.bind hr (Ev.bind hrr ?_))
        unfold codeB
        refine Ev.bind (prsame_self _ _ _ _ hqd) ?_
        simp only [if_true]
        have hc : api_Code.f (readB b).2.2.2.2 = some ((readB b).2.2.2.2.getD 0) := rfl
        simp only [hc, Option.bind_some, if_true]
        refine Ev.bind (psame_ev a n last d _ _ _ _ (by omega)) (Ev.bind (prsame_ev a n last d _ _ _ _ (by omega)) ?_)
        rw [beq_self_eq_true]
        exact Ev.now _
      refine Ev.step (fun k => by simp only [shutterlaw22_PieceWrites.j0, Bool.false_eq_true, if_false]; rfl) (Ev.bind (write_ev a n last d) (Ev.bind (rmay_ev a n last d) ?_))
      rcases hm : mayB a n last d with _ | _
      · simp only [Bool.false_eq_true, if_false, show api_Code.f (some 1) = some 1 from rfl, Option.bind_some, if_true, List.length_nil]
        exact tl
      · simp only [if_true, Option.isNone_none]
        refine Ev.bind (rwrite_ev a n last d hm) ?_
        have hs := rsame_ev (bytesOf a n last d) (bytesOf a n last d) (by rw [bytesOf_length]; omega)
        rw [decide_eq_true rfl] at hs
        refine Ev.bind hs ?_
        simp only [if_true]
        exact tl
end Go.Proofs.YtfmlndkibnjbmaaDoor.PiecePure

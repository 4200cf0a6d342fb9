-- Own text, made by this session out of the translation by wip/tools/xprint.sh: Lean functions with the answers of Go functions, and their walks.
import Derived.Test.YtlniejfbkcgneaaYHashx0
namespace Go.Proofs.Ytlniejfbkcgneaa.YHash
open Go.RowKit Go.Proofs.YtlniejfbkcgneaaW.PrintWords Go.Proofs.YtlniejfbkcgneaaW.PrintLast Go.Proofs.YtlniejfbkcgneaaW.PrintMore
attribute [local go_sem] max2_int min2_int max_two min_two max_three min_three max_four min_four   -- for this text's walks alone
set_option linter.unusedVariables false
set_option linter.unusedSimpArgs false

-- NOT PRINTED: function 18 (hash_digits)

-- NOT PRINTED: function 11 (hash_New)

/-! ### hash_turn: function 23 -/
def hash_turn.f (a0 : Int) (a1 : Int) : Option (Int) := if 0 ≤ a1 then (if 0 ≤ (wrap64 (32 - a1)) then (some (Go.bits .or .u32 (shr .u32 a0 a1) (shl .u32 a0 (wrap64 (32 - a1))))) else (none)) else (none)
set_option maxHeartbeats 8000000 in
set_option maxRecDepth 100000 in
theorem hash_turn.calls (a0 : Int) (a1 : Int) (r : Int) (w : World) (h : hash_turn.f a0 a1 = some r) :
  Calls Try.prog 23 #[.int .u32 a0, .int .i64 a1] w fun e w' => e = .returned (.int .u32 r) ∧ Drawn0 w w' := by
 have H : (if 0 ≤ a1 then (if 0 ≤ (wrap64 (32 - a1)) then (some (Go.bits .or .u32 (shr .u32 a0 a1) (shl .u32 a0 (wrap64 (32 - a1))))) else (none)) else (none)) = some r := h
 clear h
 by_cases c3 : 0 ≤ a1
 ·rw [if_pos c3] at H
  have c3b0 := eq_true c3
  have c3b1 : decide (0 ≤ a1) = true := decide_eq_true c3
  clear c3
  obtain ⟨ji4, hji4⟩ : ∃ j_ : Int, (shr .u32 a0 a1) = j_ := ⟨_, rfl⟩
  replace H : (if 0 ≤ (wrap64 (32 - a1)) then (some (Go.bits .or .u32 (ji4) (shl .u32 a0 (wrap64 (32 - a1))))) else (none)) = some r := by first | (rw [hji4] at H; exact H) | (simp only [hji4] at H ⊢; exact H)
  have hji4_ : (a0 / 2 ^ min a1.toNat 32) = ji4 := hji4
  have hji4z : a1 ≤ 32 → (a0 / 2 ^ a1.toNat) = ji4 := shr_small hji4
  obtain ⟨ji5, hji5⟩ : ∃ j_ : Int, (wrap64 (32 - a1)) = j_ := ⟨_, rfl⟩
  replace H : (if 0 ≤ (ji5) then (some (Go.bits .or .u32 (ji4) (shl .u32 a0 (ji5)))) else (none)) = some r := by first | (rw [hji5] at H; exact H) | (simp only [hji5] at H ⊢; exact H)
  have hji5w : (IntKind.i64.wrap (32 - a1)) = ji5 := (i64_w _).trans hji5
  by_cases c6 : 0 ≤ (ji5)
  ·rw [if_pos c6] at H
   have c6b0 := eq_true c6
   have c6b1 : decide (0 ≤ (ji5)) = true := decide_eq_true c6
   clear c6
   obtain ⟨ji7, hji7⟩ : ∃ j_ : Int, (shl .u32 a0 (ji5)) = j_ := ⟨_, rfl⟩
   replace H : (some (Go.bits .or .u32 (ji4) (ji7))) = some r := by first | (rw [hji7] at H; exact H) | (simp only [hji7] at H ⊢; exact H)
   have hji7_ : (IntKind.u32.wrap (a0 * 2 ^ min (ji5).toNat 32)) = ji7 := hji7
   have hji7z : (ji5) ≤ 32 → (IntKind.u32.wrap (a0 * 2 ^ (ji5).toNat)) = ji7 := shl_small hji7
   obtain rfl := Option.some.inj H
   go_enter Try.func23, Try.ntmps23
   go_wp2
   repeat (go_quiet (fail); try go_wp2)
   go_ret
   exact ⟨by first | rfl | (simp; done) | (simp [IntKind.wrap_u8, i64_w]; done) | (simp only [IntKind.wrap_u8, IntKind.wrap_i64, i64_w]; done) | (simp only [← hji4, ← hji5, ← hji7] <;> (first | rfl | simp)) | (simp [*]; done), by repeat (first | exact Drawn0.refl _ | apply Drawn0.step)⟩
  ·rw [if_neg c6] at H
   exact absurd H (by simp)
 ·rw [if_neg c3] at H
  exact absurd H (by simp)

-- NOT PRINTED: function 22 (hash_words)

-- NOT PRINTED: function 19 (hash_Sum_block)

-- NOT PRINTED: function 12 (hash_Sum_Add)

-- NOT PRINTED: function 13 (hash_Sum_End)

-- NOT PRINTED: function 9 (hash_Of)

-- NOT PRINTED: function 8 (shutterlaw01_awake)

/-! ### shutterref01_Word: function 15 -/
def shutterref01_Word.l0 : Nat → ByteArray → Int → Int → Int → Option (Int)
 | 0, _, _, _, _ => none
 | k + 1, x0, x1, x5, x6 => if x6 < (wrap64 ((wrap64 (8 * x1)) + 8)) then (if 0 ≤ x6 then (if x6 < (x0.size : Int) then (if (bt x0 x6) ≥ 97 then (shutterref01_Word.l0 k x0 x1 (wrap64 ((wrap64 (16 * x5)) + (wrap64 ((wrap64 (bt x0 x6)) - 87)))) (wrap64 (x6 + 1))) else (shutterref01_Word.l0 k x0 x1 (wrap64 ((wrap64 (16 * x5)) + (wrap64 ((wrap64 (bt x0 x6)) - 48)))) (wrap64 (x6 + 1)))) else (none)) else (none)) else (some x5)
def shutterref01_Word.f (k : Nat) (a0 : ByteArray) (a1 : Int) : Option (Int) := shutterref01_Word.l0 k a0 a1 0 (wrap64 (8 * a1))
theorem shutterref01_Word.mono_l : ∀ k, (∀ y0 y1 y2 y3, LeO (shutterref01_Word.l0 k y0 y1 y2 y3) (shutterref01_Word.l0 (k + 1) y0 y1 y2 y3))
 | 0 => fun _ _ _ _ r h => by simp [shutterref01_Word.l0] at h
 | k + 1 => by
  have ih0 := shutterref01_Word.mono_l k
  ·intro y0 y1 y2 y3
   unfold shutterref01_Word.l0
   repeat' first
   | (with_reducible exact ih0 _ _ _ _)
   | (with_reducible exact LeO.refl _)
   | (with_reducible exact LeO.none _)
   | (with_reducible refine LeO.ite ?_ ?_)
   | (with_reducible refine LeO.bind ?_ (fun _ => ?_))
   | exact ih0 _ _ _ _
   | exact LeO.none _
   | refine LeO.ite ?_ ?_
   | refine LeO.bind ?_ (fun _ => ?_)
theorem shutterref01_Word.mono : ∀ a0 a1 k, LeO (shutterref01_Word.f k a0 a1) (shutterref01_Word.f (k + 1) a0 a1) := by
 intro a0 a1 k
 have ih0 := shutterref01_Word.mono_l k
 unfold shutterref01_Word.f
 repeat' first
   | (with_reducible exact ih0 _ _ _ _)
   | (with_reducible exact LeO.refl _)
   | (with_reducible exact LeO.none _)
   | (with_reducible refine LeO.ite ?_ ?_)
   | (with_reducible refine LeO.bind ?_ (fun _ => ?_))
   | exact ih0 _ _ _ _
   | exact LeO.none _
   | refine LeO.ite ?_ ?_
   | refine LeO.bind ?_ (fun _ => ?_)
set_option maxHeartbeats 8000000 in
set_option maxRecDepth 100000 in
theorem shutterref01_Word.calls (k : Nat) (a0 : ByteArray) (a1 : Int) (r : Int) (w : World) (h : shutterref01_Word.f k a0 a1 = some r) :
  Calls Try.prog 15 #[.string a0, .int .i64 a1] w fun e w' => e = .returned (.int .i64 r) ∧ Drawn0 w w' := by
 have H : (shutterref01_Word.l0 k a0 a1 0 (wrap64 (8 * a1))) = some r := h
 clear h
 have H' := Aside0.mk H
 clear H
 go_enter Try.func15, Try.ntmps15
 go_wp2
 (try simp only [add_plain])
 go_loopg [5, 6] k (fun kq v5 v6 w' => ∃ (x5_1 : Int) (x6_1 : Int), v5 = .int .i64 x5_1 ∧ v6 = .int .i64 x6_1 ∧ Aside0 (shutterref01_Word.l0 kq a0 a1 x5_1 x6_1 = some r) ∧ Aside0 (kq ≤ k) ∧ Drawn0 w w')
 case atStart => exact ⟨(0), (wrap64 (8 * a1)), (by first | rfl | (simp; done) | (simp [*]; done)), (by first | rfl | (simp; done) | (simp [*]; done)), H', ⟨Nat.le_refl _⟩, by repeat (first | exact Drawn0.refl _ | apply Drawn0.step)⟩
 case round =>
  clear H'
  try clear c1
  try clear p2
  obtain ⟨x5_1, x6_1, rfl, rfl, HA, HK1, ⟨m1, rfl⟩⟩ := hrel
  cases gk with
  | zero => exact absurd HA.out (by simp [shutterref01_Word.l0])
  | succ k1 =>
   have H := HA.out
   clear HA
   simp only [shutterref01_Word.l0] at H
   by_cases c3 : x6_1 < (wrap64 ((wrap64 (8 * a1)) + 8))
   ·rw [if_pos c3] at H
    have c3b0 : decide (x6_1 < (wrap64 ((wrap64 (8 * a1)) + 8))) = true := decide_eq_true c3
    clear c3
    by_cases c4 : 0 ≤ x6_1
    ·rw [if_pos c4] at H
     have c4b0 : decide (0 ≤ x6_1) = true := decide_eq_true c4
     clear c4
     by_cases c5 : x6_1 < (a0.size : Int)
     ·rw [if_pos c5] at H
      have c5b0 : decide (x6_1 < (a0.size : Int)) = true := decide_eq_true c5
      clear c5
      by_cases c8 : (bt a0 x6_1) ≥ 97
      ·rw [if_pos c8] at H
       have c8b0 : decide (97 ≤ (bt a0 x6_1)) = true := decide_eq_true c8
       clear c8
       have H' := Aside0.mk H
       clear H
       have p6 : 0 ≤ (x6_1 : Int) := of_decide_eq_true (by first | (with_reducible assumption) | assumption)
       have q6 : x6_1 < (a0.size : Int) := of_decide_eq_true (by first | (with_reducible assumption) | assumption)
       have hx6 := bt_at a0 x6_1
       replace p6 := eq_true p6
       replace q6 := eq_true q6
       have p7 : 0 ≤ (x6_1 : Int) := of_decide_eq_true (by first | (with_reducible assumption) | assumption)
       have q7 : x6_1 < (a0.size : Int) := of_decide_eq_true (by first | (with_reducible assumption) | assumption)
       have hx7 := bt_at a0 x6_1
       replace p7 := eq_true p7
       replace q7 := eq_true q7
       have p9 : 0 ≤ (x6_1 : Int) := of_decide_eq_true (by first | (with_reducible assumption) | assumption)
       have q9 : x6_1 < (a0.size : Int) := of_decide_eq_true (by first | (with_reducible assumption) | assumption)
       have hx9 := bt_at a0 x6_1
       replace p9 := eq_true p9
       replace q9 := eq_true q9
       go_wp2
       (try simp only [add_plain])
       go_roundg k1
       case measure => have := HK1.out; omega
       case rel => exact ⟨(wrap64 ((wrap64 (16 * x5_1)) + (wrap64 ((wrap64 (bt a0 x6_1)) - 87)))), (wrap64 (x6_1 + 1)), (by first | rfl | (simp; done) | (simp [*]; done)), (by first | rfl | (simp; done) | (simp [*]; done)), H', ⟨by have := HK1.out; omega⟩, by repeat (first | exact Drawn0.refl _ | apply Drawn0.step)⟩
      ·rw [if_neg c8] at H
       have c8b0 : decide (97 ≤ (bt a0 x6_1)) = false := decide_eq_false c8
       clear c8
       have H' := Aside0.mk H
       clear H
       have p6 : 0 ≤ (x6_1 : Int) := of_decide_eq_true (by first | (with_reducible assumption) | assumption)
       have q6 : x6_1 < (a0.size : Int) := of_decide_eq_true (by first | (with_reducible assumption) | assumption)
       have hx6 := bt_at a0 x6_1
       replace p6 := eq_true p6
       replace q6 := eq_true q6
       have p7 : 0 ≤ (x6_1 : Int) := of_decide_eq_true (by first | (with_reducible assumption) | assumption)
       have q7 : x6_1 < (a0.size : Int) := of_decide_eq_true (by first | (with_reducible assumption) | assumption)
       have hx7 := bt_at a0 x6_1
       replace p7 := eq_true p7
       replace q7 := eq_true q7
       go_wp2
       (try simp only [add_plain])
       go_roundg k1
       case measure => have := HK1.out; omega
       case rel => exact ⟨(wrap64 ((wrap64 (16 * x5_1)) + (wrap64 ((wrap64 (bt a0 x6_1)) - 48)))), (wrap64 (x6_1 + 1)), (by first | rfl | (simp; done) | (simp [*]; done)), (by first | rfl | (simp; done) | (simp [*]; done)), H', ⟨by have := HK1.out; omega⟩, by repeat (first | exact Drawn0.refl _ | apply Drawn0.step)⟩
     ·rw [if_neg c5] at H
      exact absurd H (by simp)
    ·rw [if_neg c4] at H
     exact absurd H (by simp)
   ·rw [if_neg c3] at H
    have c3b0 : decide (x6_1 < (wrap64 ((wrap64 (8 * a1)) + 8))) = false := decide_eq_false c3
    clear c3
    obtain rfl := Option.some.inj H
    go_wp2
    go_ret
    exact ⟨by first | rfl | (simp; done) | (simp [IntKind.wrap_u8, i64_w]; done) | (simp only [IntKind.wrap_u8, IntKind.wrap_i64, i64_w]; done) | (simp [*]; done), by repeat (first | exact Drawn0.refl _ | apply Drawn0.step)⟩

/-! ### shutterref01_Fill: function 16 -/
mutual
def shutterref01_Fill.l0 : Nat → List Int → List Int → Option (List Int)
 | 0, _, _ => none
 | k + 1, x0, x3 => if ((x3.length : Int) % 64) = 56 then (shutterref01_Fill.l1 k x3 (wrap64 (8 * (x0.length : Int))) 0) else (if x3.length < 140737488355328 then (shutterref01_Fill.l0 k x0 (x3 ++ [0])) else (none))
def shutterref01_Fill.l1 : Nat → List Int → Int → Int → Option (List Int)
 | 0, _, _, _ => none
 | k + 1, x3, x4, x5 => if x5 < 8 then (if 0 ≤ (IntKind.u64.wrap (wrap64 (56 - (wrap64 (8 * x5))))) then (if x3.length < 140737488355328 then (shutterref01_Fill.l1 k (x3 ++ [(Go.bits .and .i64 (shr .i64 x4 (IntKind.u64.wrap (wrap64 (56 - (wrap64 (8 * x5)))))) 255) % 256]) x4 (wrap64 (x5 + 1))) else (none)) else (none)) else (some x3)
end
def shutterref01_Fill.f (k : Nat) (l0 : List Int) : Option (List Int) := (some (([] : List Int) : List Int)).bind fun y101 => (if y101.length + l0.length < 140737488355328 then ((some (y101 ++ l0 : List Int)).bind fun y104 => (if y104.length < 140737488355328 then (shutterref01_Fill.l0 k l0 (y104 ++ [128])) else (none))) else (none))
theorem shutterref01_Fill.mono_l : ∀ k, (∀ y0 y1, LeO (shutterref01_Fill.l0 k y0 y1) (shutterref01_Fill.l0 (k + 1) y0 y1)) ∧ (∀ y0 y1 y2, LeO (shutterref01_Fill.l1 k y0 y1 y2) (shutterref01_Fill.l1 (k + 1) y0 y1 y2))
 | 0 => ⟨fun _ _ r h => by simp [shutterref01_Fill.l0] at h, fun _ _ _ r h => by simp [shutterref01_Fill.l1] at h⟩
 | k + 1 => by
  obtain ⟨ih0, ih1⟩ := shutterref01_Fill.mono_l k
  refine ⟨?_, ?_⟩
  ·intro y0 y1
   unfold shutterref01_Fill.l0
   repeat' first
   | (with_reducible exact ih0 _ _)
   | (with_reducible exact ih1 _ _ _)
   | (with_reducible exact LeO.refl _)
   | (with_reducible exact LeO.none _)
   | (with_reducible refine LeO.ite ?_ ?_)
   | (with_reducible refine LeO.bind ?_ (fun _ => ?_))
   | exact ih0 _ _
   | exact ih1 _ _ _
   | exact LeO.none _
   | refine LeO.ite ?_ ?_
   | refine LeO.bind ?_ (fun _ => ?_)
  ·intro y0 y1 y2
   unfold shutterref01_Fill.l1
   repeat' first
   | (with_reducible exact ih0 _ _)
   | (with_reducible exact ih1 _ _ _)
   | (with_reducible exact LeO.refl _)
   | (with_reducible exact LeO.none _)
   | (with_reducible refine LeO.ite ?_ ?_)
   | (with_reducible refine LeO.bind ?_ (fun _ => ?_))
   | exact ih0 _ _
   | exact ih1 _ _ _
   | exact LeO.none _
   | refine LeO.ite ?_ ?_
   | refine LeO.bind ?_ (fun _ => ?_)
theorem shutterref01_Fill.mono : ∀ a0 k, LeO (shutterref01_Fill.f k a0) (shutterref01_Fill.f (k + 1) a0) := by
 intro a0 k
 obtain ⟨ih0, ih1⟩ := shutterref01_Fill.mono_l k
 unfold shutterref01_Fill.f
 repeat' first
   | (with_reducible exact ih0 _ _)
   | (with_reducible exact ih1 _ _ _)
   | (with_reducible exact LeO.refl _)
   | (with_reducible exact LeO.none _)
   | (with_reducible refine LeO.ite ?_ ?_)
   | (with_reducible refine LeO.bind ?_ (fun _ => ?_))
   | exact ih0 _ _
   | exact ih1 _ _ _
   | exact LeO.none _
   | refine LeO.ite ?_ ?_
   | refine LeO.bind ?_ (fun _ => ?_)
set_option maxHeartbeats 8000000 in
set_option maxRecDepth 100000 in
theorem shutterref01_Fill.calls (k : Nat) (A0 : Option Addr) (c0 : Nat) (l0 : List Int) (r : List Int) (w : World) (hr0 : Kd.C (Kd.int .u8) w A0 l0.length l0) (hc0 : l0.length ≤ c0) (h : shutterref01_Fill.f k l0 = some r) :
  Calls Try.prog 16 #[.slice A0 l0.length c0] w fun e w' => ∃ v0_ : Value, e = .returned (v0_) ∧ Kd.R (Kd.int .u8) 5 w' w.heap.size (fun _ => True) v0_ r ∧ Below w.heap.size w w' := by
 have HR0 := Aside0.mk hr0
 have HC0 := Aside0.mk hc0
 clear hr0 hc0
 have HB := Aside0.mk (Below.refl w.heap.size w)
 have H : ((some (([] : List Int) : List Int)).bind fun y101 => (if y101.length + l0.length < 140737488355328 then ((some (y101 ++ l0 : List Int)).bind fun y104 => (if y104.length < 140737488355328 then (shutterref01_Fill.l0 k l0 (y104 ++ [128])) else (none))) else (none))) = some r := h
 clear h
 obtain ⟨y101, hy101⟩ : ∃ y_ : List Int, y_ = (([] : List Int)) := ⟨_, rfl⟩
 replace H : (if y101.length + l0.length < 140737488355328 then ((some (y101 ++ l0 : List Int)).bind fun y104 => (if y104.length < 140737488355328 then (shutterref01_Fill.l0 k l0 (y104 ++ [128])) else (none))) else (none)) = some r := by first | (rw [hy101]; with_reducible exact H) | (have H2_ := (Option.bind_some _ _).symm.trans H; rw [hy101]; with_reducible exact H2_) | (have H2_ := (Option.bind_some _ _).symm.trans H; with_reducible exact H2_) | with_reducible exact H | (rw [hy101]; exact H) | exact H
 have Ny101 := Aside0.mk hy101
 clear hy101
 by_cases c2 : y101.length + l0.length < 140737488355328
 ·rw [if_pos c2] at H
  have LMc2 := Aside0.mk c2
  clear c2
  obtain ⟨y104, hy104⟩ : ∃ y_ : List Int, y_ = (y101 ++ l0) := ⟨_, rfl⟩
  replace H : (if y104.length < 140737488355328 then (shutterref01_Fill.l0 k l0 (y104 ++ [128])) else (none)) = some r := by first | (rw [hy104]; with_reducible exact H) | (have H2_ := (Option.bind_some _ _).symm.trans H; rw [hy104]; with_reducible exact H2_) | (have H2_ := (Option.bind_some _ _).symm.trans H; with_reducible exact H2_) | with_reducible exact H | (rw [hy104]; exact H) | exact H
  have Ny104 := Aside0.mk hy104
  clear hy104
  by_cases c3 : y104.length < 140737488355328
  ·rw [if_pos c3] at H
   have LMc3 := Aside0.mk c3
   clear c3
   obtain ⟨y107, hy107⟩ : ∃ y_ : List Int, y_ = (y104 ++ [128]) := ⟨_, rfl⟩
   replace H : (shutterref01_Fill.l0 k l0 y107) = some r := by first | (rw [hy107]; with_reducible exact H) | (have H2_ := (Option.bind_some _ _).symm.trans H; rw [hy107]; with_reducible exact H2_) | (have H2_ := (Option.bind_some _ _).symm.trans H; with_reducible exact H2_) | with_reducible exact H | (rw [hy107]; exact H) | exact H
   have Ny107 := Aside0.mk hy107
   clear hy107
   have H' := Aside0.mk H
   clear H
   go_enter Try.func16, Try.ntmps16
   go_wp2_with (first | ((with_reducible refine gate_dst (N := 6) rfl ?_); refine Kd.R_lit (Kd.int .u8) _ 5 ?hg (N := 6) ?hd (xs := ([] : List Int)) (inner := []) (ok := fun _ => True) (okp := fun _ => True) ?hr ?hp (fun _ hk => hk) trivial (Below.refl _ _) (Nat.le_refl _) (by simp) ?_; (case hd => rfl); (case hg => rfl); (case hr => first | (go_simp; done) | (go_simp; rfl)); (case hp => exact (Reps.none _ _)); intro v102 w4 ho5 hb hg_ hnew_; clear hg_ hnew_; (first | rw [← Ny101.out] at ho5 | (simp only [Int.reduceToNat] at ho5; rw [← Ny101.out] at ho5)); have n0_ := Aside0.mk (Kd.R_lower ho5 (below_size (by repeat (first | (with_reducible first | exact HB.out | apply below_alloc | apply pw_below_drewN | apply below_drew1) | exact HB.out)))); have n1_ := Aside0.mk (below_step (by repeat (first | (with_reducible first | exact HB.out | apply below_alloc | apply pw_below_drewN | apply below_drew1) | exact HB.out)) hb); clear HB; have HO103 := n0_; have HB := n1_; clear n0_ n1_; clear hb ho5) | ((with_reducible refine gate_builtin (b := .append) (xs := #[.tmp 6, .tmp 7]) rfl ?_); at_builtin; refine Kd.R_append_rows (Kd.int .u8) (w0 := w) w.heap.size rfl (.tmp 6) (.tmp 7) 22 5 (.int .u8 0) 1 rfl Try.underlying22 info5 rfl (by decide) (by omega) v102 y101 l0 _ _ _ (fun _ => True) (fun _ => False) rfl rfl ?aO ?aR (fun _ _ h => h) (fun _ h => h.elim) ?aF ?aB ?aS ?aL ?_; (case aR => repeat (first | exact (Kd.C_below HR0.out HB.out) | (with_reducible refine Kd.C_alloc ?_ _) | (with_reducible refine Kd.C_drewN ?_ _) | (with_reducible refine Kd.C_drew ?_))); (case aB => exact (by repeat (first | (with_reducible first | exact HB.out | apply below_alloc | apply pw_below_drewN | apply below_drew1) | exact HB.out))); (case aF => exact (fun _ _ => trivial)); (case aO => exact (by (with_reducible repeat (first | apply Kd.R_alloc | apply Kd.R_drewN | apply Kd.R_drew)); exact HO103.out)); (case aS => exact (below_size (by repeat (first | (with_reducible first | exact HB.out | apply below_alloc | apply pw_below_drewN | apply below_drew1) | exact HB.out)))); (case aL => have := LMc2.out; omega); intro v105 w6 ho hb hg hat; rw [← Ny104.out] at ho; have n0_ := Aside0.mk (hb); have n1_ := Aside0.mk (ho); clear HB; clear HO103; have HB := n0_; have HO106 := n1_; clear n0_ n1_; clear ho hb hg hat) | ((with_reducible refine gate_builtin (b := .append) (xs := #[.tmp 8, .tmp 9]) rfl ?_); at_builtin; refine Kd.R_append (Kd.int .u8) (w0 := w) w.heap.size rfl (.tmp 8) (.tmp 9) 22 5 (.int .u8 0) 1 rfl Try.underlying22 info5 rfl (by decide) (by omega) v105 y104 128 [.int .u8 128] (fun _ => True) (fun _ => False) rfl rfl ?aP (fun _ hk => hk.elim) ?aF ?aO ?aB ?aS ?aL ?_; (case aP => exact rfl); (case aB => exact (by repeat (first | (with_reducible first | exact HB.out | apply below_alloc | apply pw_below_drewN | apply below_drew1) | exact HB.out))); (case aF => exact (fun _ _ => trivial)); (case aO => exact (by (with_reducible repeat (first | apply Kd.R_alloc | apply Kd.R_drewN | apply Kd.R_drew)); exact HO106.out)); (case aS => exact (below_size (by repeat (first | (with_reducible first | exact HB.out | apply below_alloc | apply pw_below_drewN | apply below_drew1) | exact HB.out)))); (case aL => have := LMc3.out; omega); intro v108 w7 ho hb hg hat; rw [← Ny107.out] at ho; have n0_ := Aside0.mk (hb); have n1_ := Aside0.mk (ho); clear HB; clear HO106; have HB := n0_; have HO109 := n1_; clear n0_ n1_; clear ho hb hg hat))
   (try simp only [add_plain])
   go_loopg [3] k (fun kq v3 w' => ∃ (x3_1 : List Int), Aside0 (shutterref01_Fill.l0 kq l0 x3_1 = some r) ∧ Aside0 (kq ≤ k) ∧ Aside0 (Kd.R (Kd.int .u8) 5 w' w.heap.size (fun _ => True) v3 x3_1) ∧ Aside0 (Below w.heap.size w w'))
   case atStart => exact ⟨(y107), H', ⟨Nat.le_refl _⟩, ⟨by (with_reducible repeat (first | apply Kd.R_alloc | apply Kd.R_drewN | apply Kd.R_drew)); exact HO109.out⟩, ⟨by repeat (first | (with_reducible first | exact HB.out | apply below_alloc | apply pw_below_drewN | apply below_drew1) | exact HB.out)⟩⟩
   case round =>
    clear H'
    try clear c1
    try clear c2
    try clear p2
    try clear c3
    obtain ⟨x3_1, HA, HK1, HO_3, HB⟩ := hrel
    cases gk with
    | zero => exact absurd HA.out (by simp [shutterref01_Fill.l0])
    | succ k1 =>
     have H := HA.out
     clear HA
     simp only [shutterref01_Fill.l0] at H
     by_cases c8 : ((x3_1.length : Int) % 64) = 56
     ·rw [if_pos c8] at H
      have c8b0 : (((x3_1.length : Int) % 64) == 56) = true := beq_iff_eq.mpr c8
      have c8b1 : (((x3_1.length : Int) % 64) != 56) = false := bne_eq_false_iff_eq.mpr c8
      clear c8
      have H' := Aside0.mk H
      clear H
      obtain ⟨Ao9, co9, eo9⟩ := Kd.R_slice HO_3.out
      subst eo9
      go_wp2
      (try simp only [add_plain])
      go_loopg [3, 5] k1 (fun kq v3 v5 w' => ∃ (x3_2 : List Int) (x5_2 : Int), v5 = .int .i64 x5_2 ∧ Aside0 (shutterref01_Fill.l1 kq x3_2 (wrap64 (8 * (l0.length : Int))) x5_2 = some r) ∧ Aside0 (kq ≤ k1) ∧ Aside0 (Kd.R (Kd.int .u8) 5 w' w.heap.size (fun _ => True) v3 x3_2) ∧ Aside0 (Below w.heap.size w w'))
      case atStart => exact ⟨(x3_1), (0), (by first | rfl | (simp; done) | (simp [*]; done)), H', ⟨Nat.le_refl _⟩, ⟨by (with_reducible repeat (first | apply Kd.R_alloc | apply Kd.R_drewN | apply Kd.R_drew)); exact HO_3.out⟩, ⟨by repeat (first | (with_reducible first | exact HB.out | apply below_alloc | apply pw_below_drewN | apply below_drew1) | exact HB.out)⟩⟩
      case round =>
       clear H'
       try clear c1
       try clear c2
       try clear p2
       try clear c3
       try clear p6
       try clear c8
       try clear c8b0
       try clear c8b1
       try clear p2
       obtain ⟨x3_2, x5_2, rfl, HA, HK2, HO_3, HB⟩ := hrel
       cases gk with
       | zero => exact absurd HA.out (by simp [shutterref01_Fill.l1])
       | succ k2 =>
        have H := HA.out
        clear HA
        simp only [shutterref01_Fill.l1] at H
        by_cases c10 : x5_2 < 8
        ·rw [if_pos c10] at H
         have c10b0 : decide (x5_2 < 8) = true := decide_eq_true c10
         clear c10
         obtain ⟨ji11, hji11⟩ : ∃ j_ : Int, (IntKind.u64.wrap (wrap64 (56 - (wrap64 (8 * x5_2))))) = j_ := ⟨_, rfl⟩
         replace H : (if 0 ≤ (ji11) then (if x3_2.length < 140737488355328 then (shutterref01_Fill.l1 k2 (x3_2 ++ [(Go.bits .and .i64 (shr .i64 (wrap64 (8 * (l0.length : Int))) (ji11)) 255) % 256]) (wrap64 (8 * (l0.length : Int))) (wrap64 (x5_2 + 1))) else (none)) else (none)) = some r := by first | (rw [hji11] at H; exact H) | (simp only [hji11] at H ⊢; exact H)
         by_cases c12 : 0 ≤ (ji11)
         ·rw [if_pos c12] at H
          have c12b0 := eq_true c12
          have c12b1 : decide (0 ≤ (ji11)) = true := decide_eq_true c12
          clear c12
          obtain ⟨ji13, hji13⟩ : ∃ j_ : Int, (shr .i64 (wrap64 (8 * (l0.length : Int))) (ji11)) = j_ := ⟨_, rfl⟩
          replace H : (if x3_2.length < 140737488355328 then (shutterref01_Fill.l1 k2 (x3_2 ++ [(Go.bits .and .i64 (ji13) 255) % 256]) (wrap64 (8 * (l0.length : Int))) (wrap64 (x5_2 + 1))) else (none)) = some r := by first | (rw [hji13] at H; exact H) | (simp only [hji13] at H ⊢; exact H)
          have hji13_ : ((wrap64 (8 * (l0.length : Int))) / 2 ^ min (ji11).toNat 64) = ji13 := hji13
          have hji13z : (ji11) ≤ 64 → ((wrap64 (8 * (l0.length : Int))) / 2 ^ (ji11).toNat) = ji13 := shr_small hji13
          by_cases c14 : x3_2.length < 140737488355328
          ·rw [if_pos c14] at H
           have LMc14 := Aside0.mk c14
           clear c14
           obtain ⟨y113, hy113⟩ : ∃ y_ : List Int, y_ = (x3_2 ++ [(Go.bits .and .i64 (ji13) 255) % 256]) := ⟨_, rfl⟩
           replace H : (shutterref01_Fill.l1 k2 y113 (wrap64 (8 * (l0.length : Int))) (wrap64 (x5_2 + 1))) = some r := by first | (rw [hy113]; with_reducible exact H) | (have H2_ := (Option.bind_some _ _).symm.trans H; rw [hy113]; with_reducible exact H2_) | (have H2_ := (Option.bind_some _ _).symm.trans H; with_reducible exact H2_) | with_reducible exact H | (rw [hy113]; exact H) | exact H
           have Ny113 := Aside0.mk hy113
           clear hy113
           have H' := Aside0.mk H
           clear H
           go_wp2_with (first | ((with_reducible refine gate_builtin (b := .append) (xs := #[.tmp 25, .tmp 34]) rfl ?_); at_builtin; refine Kd.R_append (Kd.int .u8) (w0 := w) w.heap.size rfl (.tmp 25) (.tmp 34) 22 5 (.int .u8 0) 1 rfl Try.underlying22 info5 rfl (by decide) (by omega) u3 x3_2 ((Go.bits .and .i64 (ji13) 255) % 256) [.int .u8 ((Go.bits .and .i64 (ji13) 255) % 256)] (fun _ => True) (fun _ => False) rfl rfl ?aP (fun _ hk => hk.elim) ?aF ?aO ?aB ?aS ?aL ?_; (case aP => exact rfl); (case aB => exact (by repeat (first | (with_reducible first | exact HB.out | apply below_alloc | apply pw_below_drewN | apply below_drew1) | exact HB.out))); (case aF => exact (fun _ _ => trivial)); (case aO => exact (by (with_reducible repeat (first | apply Kd.R_alloc | apply Kd.R_drewN | apply Kd.R_drew)); exact HO_3.out)); (case aS => exact (below_size (by repeat (first | (with_reducible first | exact HB.out | apply below_alloc | apply pw_below_drewN | apply below_drew1) | exact HB.out)))); (case aL => have := LMc14.out; omega); intro v114 w15 ho hb hg hat; rw [← Ny113.out] at ho; have n0_ := Aside0.mk (hb); have n1_ := Aside0.mk (ho); clear HB; clear HO_3; have HB := n0_; have HO115 := n1_; clear n0_ n1_; clear ho hb hg hat))
           (try simp only [add_plain])
           go_roundg k2
           case measure => have := HK1.out; have := HK2.out; omega
           case rel => exact ⟨(y113), (wrap64 (x5_2 + 1)), (by first | rfl | (simp; done) | (simp [*]; done)), H', ⟨by have := HK1.out; have := HK2.out; omega⟩, ⟨by (with_reducible repeat (first | apply Kd.R_alloc | apply Kd.R_drewN | apply Kd.R_drew)); exact HO115.out⟩, ⟨by repeat (first | (with_reducible first | exact HB.out | apply below_alloc | apply pw_below_drewN | apply below_drew1) | exact HB.out)⟩⟩
          ·rw [if_neg c14] at H
           exact absurd H (by simp)
         ·rw [if_neg c12] at H
          exact absurd H (by simp)
        ·rw [if_neg c10] at H
         have c10b0 : decide (x5_2 < 8) = false := decide_eq_false c10
         clear c10
         obtain rfl := Option.some.inj H
         go_wp2
         go_ret
         exact ⟨_, by first | rfl | (simp [errW_none, errW_some] <;> rfl) | (simp [*, errW_none, errW_some] <;> rfl), by (with_reducible repeat (first | apply Kd.R_alloc | apply Kd.R_drewN | apply Kd.R_drew)); exact HO_3.out, by repeat (first | (with_reducible first | exact HB.out | apply below_alloc | apply pw_below_drewN | apply below_drew1) | exact HB.out)⟩
     ·rw [if_neg c8] at H
      have c8b0 : (((x3_1.length : Int) % 64) == 56) = false := beq_eq_false_iff_ne.mpr c8
      have c8b1 : (((x3_1.length : Int) % 64) != 56) = true := bne_iff_ne.mpr c8
      by_cases c16 : x3_1.length < 140737488355328
      ·rw [if_pos c16] at H
       have LMc16 := Aside0.mk c16
       clear c16
       obtain ⟨y110, hy110⟩ : ∃ y_ : List Int, y_ = (x3_1 ++ [0]) := ⟨_, rfl⟩
       replace H : (shutterref01_Fill.l0 k1 l0 y110) = some r := by first | (rw [hy110]; with_reducible exact H) | (have H2_ := (Option.bind_some _ _).symm.trans H; rw [hy110]; with_reducible exact H2_) | (have H2_ := (Option.bind_some _ _).symm.trans H; with_reducible exact H2_) | with_reducible exact H | (rw [hy110]; exact H) | exact H
       have Ny110 := Aside0.mk hy110
       clear hy110
       have H' := Aside0.mk H
       clear H
       obtain ⟨Ao17, co17, eo17⟩ := Kd.R_slice HO_3.out
       subst eo17
       go_wp2_with (first | ((with_reducible refine gate_builtin (b := .append) (xs := #[.tmp 15, .tmp 16]) rfl ?_); at_builtin; refine Kd.R_append (Kd.int .u8) (w0 := w) w.heap.size rfl (.tmp 15) (.tmp 16) 22 5 (.int .u8 0) 1 rfl Try.underlying22 info5 rfl (by decide) (by omega) (.slice Ao17 x3_1.length co17) x3_1 0 [.int .u8 0] (fun _ => True) (fun _ => False) rfl rfl ?aP (fun _ hk => hk.elim) ?aF ?aO ?aB ?aS ?aL ?_; (case aP => exact rfl); (case aB => exact (by repeat (first | (with_reducible first | exact HB.out | apply below_alloc | apply pw_below_drewN | apply below_drew1) | exact HB.out))); (case aF => exact (fun _ _ => trivial)); (case aO => exact (by (with_reducible repeat (first | apply Kd.R_alloc | apply Kd.R_drewN | apply Kd.R_drew)); exact HO_3.out)); (case aS => exact (below_size (by repeat (first | (with_reducible first | exact HB.out | apply below_alloc | apply pw_below_drewN | apply below_drew1) | exact HB.out)))); (case aL => have := LMc16.out; omega); intro v111 w18 ho hb hg hat; rw [← Ny110.out] at ho; have n0_ := Aside0.mk (hb); have n1_ := Aside0.mk (ho); clear HB; clear HO_3; have HB := n0_; have HO112 := n1_; clear n0_ n1_; clear ho hb hg hat))
       (try simp only [add_plain])
       go_roundg k1
       case measure => have := HK1.out; omega
       case rel => exact ⟨(y110), H', ⟨by have := HK1.out; omega⟩, ⟨by (with_reducible repeat (first | apply Kd.R_alloc | apply Kd.R_drewN | apply Kd.R_drew)); exact HO112.out⟩, ⟨by repeat (first | (with_reducible first | exact HB.out | apply below_alloc | apply pw_below_drewN | apply below_drew1) | exact HB.out)⟩⟩
      ·rw [if_neg c16] at H
       exact absurd H (by simp)
  ·rw [if_neg c3] at H
   exact absurd H (by simp)
 ·rw [if_neg c2] at H
  exact absurd H (by simp)

/-! ### shutterref01_turn: function 20 -/
def shutterref01_turn.f (a0 : Int) (a1 : Int) : Option (Int) := if 0 ≤ (IntKind.u64.wrap (a1)) then (if 0 ≤ (IntKind.u64.wrap (wrap64 (32 - a1))) then (some (Go.bits .and .i64 (Go.bits .or .i64 (shr .i64 a0 (IntKind.u64.wrap (a1))) (shl .i64 a0 (IntKind.u64.wrap (wrap64 (32 - a1))))) 4294967295)) else (none)) else (none)
set_option maxHeartbeats 8000000 in
set_option maxRecDepth 100000 in
theorem shutterref01_turn.calls (a0 : Int) (a1 : Int) (r : Int) (w : World) (h : shutterref01_turn.f a0 a1 = some r) :
  Calls Try.prog 20 #[.int .i64 a0, .int .i64 a1] w fun e w' => e = .returned (.int .i64 r) ∧ Drawn0 w w' := by
 have H : (if 0 ≤ (IntKind.u64.wrap (a1)) then (if 0 ≤ (IntKind.u64.wrap (wrap64 (32 - a1))) then (some (Go.bits .and .i64 (Go.bits .or .i64 (shr .i64 a0 (IntKind.u64.wrap (a1))) (shl .i64 a0 (IntKind.u64.wrap (wrap64 (32 - a1))))) 4294967295)) else (none)) else (none)) = some r := h
 clear h
 obtain ⟨ji3, hji3⟩ : ∃ j_ : Int, (IntKind.u64.wrap (a1)) = j_ := ⟨_, rfl⟩
 replace H : (if 0 ≤ (ji3) then (if 0 ≤ (IntKind.u64.wrap (wrap64 (32 - a1))) then (some (Go.bits .and .i64 (Go.bits .or .i64 (shr .i64 a0 (ji3)) (shl .i64 a0 (IntKind.u64.wrap (wrap64 (32 - a1))))) 4294967295)) else (none)) else (none)) = some r := by first | (rw [hji3] at H; exact H) | (simp only [hji3] at H ⊢; exact H)
 by_cases c4 : 0 ≤ (ji3)
 ·rw [if_pos c4] at H
  have c4b0 := eq_true c4
  have c4b1 : decide (0 ≤ (ji3)) = true := decide_eq_true c4
  clear c4
  obtain ⟨ji5, hji5⟩ : ∃ j_ : Int, (shr .i64 a0 (ji3)) = j_ := ⟨_, rfl⟩
  replace H : (if 0 ≤ (IntKind.u64.wrap (wrap64 (32 - a1))) then (some (Go.bits .and .i64 (Go.bits .or .i64 (ji5) (shl .i64 a0 (IntKind.u64.wrap (wrap64 (32 - a1))))) 4294967295)) else (none)) = some r := by first | (rw [hji5] at H; exact H) | (simp only [hji5] at H ⊢; exact H)
  have hji5_ : (a0 / 2 ^ min (ji3).toNat 64) = ji5 := hji5
  have hji5z : (ji3) ≤ 64 → (a0 / 2 ^ (ji3).toNat) = ji5 := shr_small hji5
  obtain ⟨ji6, hji6⟩ : ∃ j_ : Int, (IntKind.u64.wrap (wrap64 (32 - a1))) = j_ := ⟨_, rfl⟩
  replace H : (if 0 ≤ (ji6) then (some (Go.bits .and .i64 (Go.bits .or .i64 (ji5) (shl .i64 a0 (ji6))) 4294967295)) else (none)) = some r := by first | (rw [hji6] at H; exact H) | (simp only [hji6] at H ⊢; exact H)
  by_cases c7 : 0 ≤ (ji6)
  ·rw [if_pos c7] at H
   have c7b0 := eq_true c7
   have c7b1 : decide (0 ≤ (ji6)) = true := decide_eq_true c7
   clear c7
   obtain ⟨ji8, hji8⟩ : ∃ j_ : Int, (shl .i64 a0 (ji6)) = j_ := ⟨_, rfl⟩
   replace H : (some (Go.bits .and .i64 (Go.bits .or .i64 (ji5) (ji8)) 4294967295)) = some r := by first | (rw [hji8] at H; exact H) | (simp only [hji8] at H ⊢; exact H)
   have hji8_ : (IntKind.i64.wrap (a0 * 2 ^ min (ji6).toNat 64)) = ji8 := hji8
   have hji8z : (ji6) ≤ 64 → (IntKind.i64.wrap (a0 * 2 ^ (ji6).toNat)) = ji8 := shl_small hji8
   have hji8y : (wrap64 (a0 * 2 ^ min (ji6).toNat 64)) = ji8 := (i64_w _).symm.trans hji8_
   have hji8x : (ji6) ≤ 64 → (wrap64 (a0 * 2 ^ (ji6).toNat)) = ji8 := fun h_ => (i64_w _).symm.trans (hji8z h_)
   obtain rfl := Option.some.inj H
   go_enter Try.func20, Try.ntmps20
   go_wp2
   go_ret
   exact ⟨by first | rfl | (simp; done) | (simp [IntKind.wrap_u8, i64_w]; done) | (simp only [IntKind.wrap_u8, IntKind.wrap_i64, i64_w]; done) | (simp only [← hji3, ← hji5, ← hji6, ← hji8] <;> (first | rfl | simp)) | (simp [*]; done), by repeat (first | exact Drawn0.refl _ | apply Drawn0.step)⟩
  ·rw [if_neg c7] at H
   exact absurd H (by simp)
 ·rw [if_neg c4] at H
  exact absurd H (by simp)

/-! ### shutterref01_both: function 21 -/
def shutterref01_both.f (a0 : Int) (a1 : Int) : Option (Int) := some (Go.bits .and .i64 a0 a1)
set_option maxHeartbeats 8000000 in
set_option maxRecDepth 100000 in
theorem shutterref01_both.calls (a0 : Int) (a1 : Int) (r : Int) (w : World) (h : shutterref01_both.f a0 a1 = some r) :
  Calls Try.prog 21 #[.int .i64 a0, .int .i64 a1] w fun e w' => e = .returned (.int .i64 r) ∧ Drawn0 w w' := by
 have H : (some (Go.bits .and .i64 a0 a1)) = some r := h
 clear h
 obtain rfl := Option.some.inj H
 go_enter Try.func21, Try.ntmps21
 go_wp2
 go_ret
 exact ⟨by first | rfl | (simp; done) | (simp [IntKind.wrap_u8, i64_w]; done) | (simp only [IntKind.wrap_u8, IntKind.wrap_i64, i64_w]; done) | (simp [*]; done), by repeat (first | exact Drawn0.refl _ | apply Drawn0.step)⟩

-- NOT PRINTED: function 17 (shutterref01_Block)

-- NOT PRINTED: function 10 (shutterref01_Of)

-- NOT PRINTED: function 3 (shutterlaw01_HashSums)

end Go.Proofs.Ytlniejfbkcgneaa.YHash

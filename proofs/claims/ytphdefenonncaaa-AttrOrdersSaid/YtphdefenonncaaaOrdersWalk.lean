/- Proved: the walk of the law AttrOrders: for every byte it answers true, and nothing that was there has turned; conditions: the byte's own bounds. -/
import Derived.Test.YtphdefenonncaaaQAttrOrdersx4
namespace Go.Proofs.Ytphdefenonncaaa.Orders
open Go.RowKit Go.Proofs.Ytphdefenonncaaa.QAttrOrders Go.Proofs.YtphdefenonncaaaW.PrintWords Go.Proofs.YtphdefenonncaaaW.PrintLast
set_option linter.unusedVariables false
set_option linter.unusedSimpArgs false

theorem awake : shutterlaw05_awake.f 20 = some true := by decide +kernel

def order (a : Int) : Bool := a == 29 || (a == 17 || (a == 19 || (a == 5 || (a == 60 || a == 18))))
def chr (a : Int) : Bool := a == 0 || (a == 28 || (a == 30 || (decide (64 ≤ a) && a != 255)))
def bare (a : Int) : Bool := a == 108 || (a == 110 || (a == 107 || a == 109))
def aid (a : Int) : Bool := bare a || (a == 125 || ((decide (241 ≤ a) && decide (a ≤ 249)) || (decide (122 ≤ a) && decide (a ≤ 124))))
theorem chr_fin : ∀ n : Fin 256, attr_Char.f ((n.val : Nat) : Int) = some (chr ((n.val : Nat) : Int)) := by decide +kernel
theorem bare_fin : ∀ n : Fin 256, attr_Bare.f 20 ((n.val : Nat) : Int) = some (bare ((n.val : Nat) : Int)) := by decide +kernel
theorem aid_fin : ∀ n : Fin 256, attr_Aid.f 20 ((n.val : Nat) : Int) = some (aid ((n.val : Nat) : Int)) := by decide +kernel
theorem law_fin : ∀ n : Fin 256, ((!order ((n.val : Nat) : Int) || !chr ((n.val : Nat) : Int)) && ((!bare ((n.val : Nat) : Int) || aid ((n.val : Nat) : Int)) && (!aid ((n.val : Nat) : Int) || chr ((n.val : Nat) : Int)))) = true := by decide +kernel

set_option maxHeartbeats 4000000 in
set_option maxRecDepth 100000 in
theorem walk1 (a : Int) (o c b i : Bool) (w : World) (ho : order a = o) (hc : attr_Char.f a = some c) (hb : attr_Bare.f 20 a = some b) (hi : attr_Aid.f 20 a = some i)
    (h1 : o = true → c = false) (h2 : b = true → i = true) (h3 : i = true → c = true) :
    Calls Try.prog 3 #[.int .u8 a] w fun e w' => e = .returned (.bool true) ∧ Below w.heap.size w w' := by
  have A0 := Aside0.mk awake
  have A1 := Aside0.mk hc
  have A2 := Aside0.mk hb
  have A3 := Aside0.mk hi
  have ho := Aside0.mk ho
  have H1 := Aside0.mk h1
  have H2 := Aside0.mk h2
  have H3 := Aside0.mk h3
  clear hc hb hi h1 h2 h3
  have HB := Aside0.mk (Below.refl w.heap.size w)
  go_enter Try.func3, Try.ntmps3
  go_upto_region 1 with (fail)
  go_cut [3] (fun v3 wc => v3 = .bool o ∧ Aside0 (Below w.heap.size w wc))
  case first =>
    cases e29 : (a == 29) with
    | true =>
      (first | rw [e29] | skip)
      obtain rfl : o = true := by rw [← ho.out, order, e29]; rfl
      clear ho
      go_wp2
      go_meet
      case rel => exact ⟨by first | rfl | (simp; done) | (simp [*]; done), ⟨by repeat (first | (with_reducible first | exact HB.out | apply below_alloc | apply pw_below_drewN | apply below_drew1) | exact HB.out)⟩⟩
    | false =>
      (first | rw [e29] | skip)
      cases e17 : (a == 17) with
      | true =>
        obtain rfl : o = true := by rw [← ho.out, order, e29, e17]; rfl
        clear ho
        go_wp2
        go_meet
        case rel => exact ⟨by first | rfl | (simp; done) | (simp [*]; done), ⟨by repeat (first | (with_reducible first | exact HB.out | apply below_alloc | apply pw_below_drewN | apply below_drew1) | exact HB.out)⟩⟩
      | false =>
        cases e19 : (a == 19) with
        | true =>
          obtain rfl : o = true := by rw [← ho.out, order, e29, e17, e19]; rfl
          clear ho
          go_wp2
          go_meet
          case rel => exact ⟨by first | rfl | (simp; done) | (simp [*]; done), ⟨by repeat (first | (with_reducible first | exact HB.out | apply below_alloc | apply pw_below_drewN | apply below_drew1) | exact HB.out)⟩⟩
        | false =>
          cases e5 : (a == 5) with
          | true =>
            obtain rfl : o = true := by rw [← ho.out, order, e29, e17, e19, e5]; rfl
            clear ho
            go_wp2
            go_meet
            case rel => exact ⟨by first | rfl | (simp; done) | (simp [*]; done), ⟨by repeat (first | (with_reducible first | exact HB.out | apply below_alloc | apply pw_below_drewN | apply below_drew1) | exact HB.out)⟩⟩
          | false =>
            cases e60 : (a == 60) with
            | true =>
              obtain rfl : o = true := by rw [← ho.out, order, e29, e17, e19, e5, e60]; rfl
              clear ho
              go_wp2
              go_meet
              case rel => exact ⟨by first | rfl | (simp; done) | (simp [*]; done), ⟨by repeat (first | (with_reducible first | exact HB.out | apply below_alloc | apply pw_below_drewN | apply below_drew1) | exact HB.out)⟩⟩
            | false =>
              cases e18 : (a == 18) with
              | true =>
                obtain rfl : o = true := by rw [← ho.out, order, e29, e17, e19, e5, e60, e18]; rfl
                clear ho
                go_wp2
                go_meet
                case rel => exact ⟨by first | rfl | (simp; done) | (simp [*]; done), ⟨by repeat (first | (with_reducible first | exact HB.out | apply below_alloc | apply pw_below_drewN | apply below_drew1) | exact HB.out)⟩⟩
              | false =>
                obtain rfl : o = false := by rw [← ho.out, order, e29, e17, e19, e5, e60, e18]; rfl
                clear ho
                go_wp2
                go_meet
                case rel => exact ⟨by first | rfl | (simp; done) | (simp [*]; done), ⟨by repeat (first | (with_reducible first | exact HB.out | apply below_alloc | apply pw_below_drewN | apply below_drew1) | exact HB.out)⟩⟩
  case rest =>
    obtain ⟨rfl, HB⟩ := hcut
    clear ho
    cases o <;> cases c <;> cases b <;> cases i <;> first
      | (have h := H1.out rfl; cases h; done)
      | (have h := H2.out rfl; cases h; done)
      | (have h := H3.out rfl; cases h; done)
      | skip
    all_goals
      clear H1 H2 H3
      go_wp2_with (first | (go_at_call 6; (with_reducible refine (shutterlaw05_awake.calls 20 true _ A0.out).mono ?_); rintro e w13 ⟨rfl, hb⟩; have n0_ := Aside0.mk (below_step (HB.out) hb); clear HB; have HB := n0_; clear n0_; clear hb) | (go_at_call 7; (with_reducible refine (attr_Char.calls a _ _ A1.out).mono ?_); rintro e w' ⟨rfl, ⟨nd, rfl⟩⟩) | (go_at_call 8; (with_reducible refine (attr_Bare.calls 20 a _ _ A2.out).mono ?_); rintro e w' ⟨rfl, ⟨nd, rfl⟩⟩) | (go_at_call 9; (with_reducible refine (attr_Aid.calls 20 a _ _ A3.out).mono ?_); rintro e w' ⟨rfl, ⟨nd, rfl⟩⟩))
      go_ret
      exact ⟨rfl, by repeat (first | (with_reducible first | exact HB.out | apply below_alloc | apply pw_below_drewN | apply below_drew1) | exact HB.out)⟩

theorem walk (a : Int) (w : World) (w0 : (Lit.int .u8 a).wf = true) : Calls Try.prog 3 #[.int .u8 a] w fun e w' => e = .returned (.bool true) ∧ Below w.heap.size w w' := by
  have h' : 0 ≤ a ∧ a ≤ 255 := by
    simp [Lit.wf, IntKind.min, IntKind.max, IntKind.signed, IntKind.bits] at w0
    omega
  obtain ⟨n, rfl⟩ := Int.eq_ofNat_of_zero_le h'.1
  have hl := law_fin ⟨n, by omega⟩
  simp only [Bool.and_eq_true, Bool.or_eq_true, Bool.not_eq_true'] at hl
  refine walk1 (n : Int) _ _ _ _ w rfl (chr_fin ⟨n, by omega⟩) (bare_fin ⟨n, by omega⟩) (aid_fin ⟨n, by omega⟩) ?_ ?_ ?_
  · intro h; rcases hl.1 with h1 | h1
    · rw [h] at h1; cases h1
    · exact h1
  · intro h; rcases hl.2.1 with h1 | h1
    · rw [h] at h1; cases h1
    · exact h1
  · intro h; rcases hl.2.2 with h1 | h1
    · rw [h] at h1; cases h1
    · exact h1
end Go.Proofs.Ytphdefenonncaaa.Orders

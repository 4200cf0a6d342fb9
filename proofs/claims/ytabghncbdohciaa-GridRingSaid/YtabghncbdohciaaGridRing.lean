/- Proved: the laws GridRing as statements about numbers and lists; conditions: the numbers are of their kinds. -/
import Derived.Test.YtabghncbdohciaaGridPure
import Derived.Test.YtabghncbdohciaaYGridx9
namespace Go.Proofs.Ytabghncbdohciaa.GridPure
open Go.RowKit Go.Proofs.Ytabghncbdohciaa.YGrid Go.Proofs.YtabghncbdohciaaW.PrintWords Go.Proofs.YtabghncbdohciaaW.PrintLast Go.Proofs.YtabghncbdohciaaW.PrintMore
set_option linter.unusedVariables false

theorem back (x n : Int) (L : Nat) (h1 : 1 ≤ L) (hx : 0 ≤ x) (hx' : x < L) : ((x + n) % (L : Int) + -n) % (L : Int) = x := by
  rw [Int.emod_add_emod, show x + n + -n = x by omega, Int.emod_eq_of_lt hx hx']

theorem ring (rows cols : Int) (l : List S44) (cur : Int) (lk ins : Bool) (a n m : Int) (ha : 0 ≤ a) (ha' : a ≤ 65535) (hn : -9223372036854775808 ≤ n) (hn' : n ≤ 9223372036854775807) (hm : -32768 ≤ m) (hm' : m ≤ 32767) : ∃ k, shutterlaw10_GridRing.f k rows cols l cur lk ins a n m = some true := by
  refine Ev.rounds (g := fun k => shutterlaw10_GridRing.f k rows cols l cur lk ins a n m) ?_
  unfold shutterlaw10_GridRing.f
  refine Ev.bind awake ?_
  simp only [if_true]
  refine Ev.bind (few_ev rows cols l cur lk ins) ?_
  rcases hf : fewB rows cols l cur with _ | _
  · refine Ev.step (f := fun k => (shutterlaw10_awake.f k).bind fun t224 => some t224) (fun k => by simp only [shutterlaw10_GridRing.j0, Bool.not_false, if_true]) ?_
    exact Ev.bind awake (Ev.now _)
  · obtain ⟨h1, h2, _⟩ := few_true hf
    have ra := mod_range a l.length h1
    obtain ⟨x, hx⟩ : ∃ x, a % (l.length : Int) = x := ⟨_, rfl⟩
    rw [hx] at ra
    have on := fun (y k : Int) (hy : 0 ≤ y ∧ y < l.length) (hk : -9223372036854775808 ≤ k ∧ k ≤ 9223372036854775807) => on_eq rows cols l cur lk ins y k h1 (by omega) hy.1 hy.2 hk.1 hk.2
    have rn := mod_range (x + n) l.length h1
    have r1 := mod_range (x + 1) l.length h1
    have rm := mod_range (x + m) l.length h1
    have tail : Ev (fun k => shutterlaw10_GridRing.j1 k m x false rows cols l cur lk ins) true := by
      refine Ev.step (f := fun _ => some true) (fun k => ?_) (Ev.now _)
      simp only [shutterlaw10_GridRing.j1, Bool.false_eq_true, if_false]
      rw [wrap_in (x := m) (by omega) (by omega), wrap_in (x := m + 1) (by omega) (by omega), wrap_in (x := -m) (by omega) (by omega), on x m ra (by omega), Option.bind_some, on _ 1 rm (by omega), Option.bind_some, on x (m + 1) ra (by omega), Option.bind_some]
      rw [if_pos (by rw [Int.emod_add_emod]; congr 1; omega), on x 1 ra (by omega), Option.bind_some, next_eq rows cols l cur lk ins x h1 (by omega) ra.1 ra.2, Option.bind_some, if_pos rfl, Option.bind_some, on _ (-m) rm (by omega), Option.bind_some, back x m l.length h1 ra.1 ra.2]
      simp
    refine Ev.step (fun k => ?_) tail
    simp only [shutterlaw10_GridRing.j0, Bool.not_true, Bool.false_eq_true, if_false]
    rw [if_neg (by omega), arg a l.length h1 ha ha', hx, on x n ra ⟨hn, hn'⟩, Option.bind_some, if_neg (by omega), if_neg (by omega), on x (l.length : Int) ra (by omega), Option.bind_some, if_pos (by rw [Int.add_emod_right, Int.emod_eq_of_lt ra.1 ra.2]), on x 0 ra (by omega), Option.bind_some, if_pos (by rw [Int.add_zero, Int.emod_eq_of_lt ra.1 ra.2]), on x 1 ra (by omega), Option.bind_some, on _ (-1) r1 (by omega), Option.bind_some, back x 1 l.length h1 ra.1 ra.2]
    simp
end Go.Proofs.Ytabghncbdohciaa.GridPure

/- Proved: the reference's Same tells that a text is itself; conditions: the theorems' own premises. -/
import Derived.Test.YtlniejfbkcgneaaHLaw
namespace Go.Proofs.Ytlniejfbkcgneaa.HashT
open Go.RowKit Go.Proofs.Ytlniejfbkcgneaa.YHash Go.Proofs.YtlniejfbkcgneaaW.PrintWords Go.Proofs.YtlniejfbkcgneaaW.PrintLast Go.Proofs.YtlniejfbkcgneaaW.PrintMore
set_option linter.unusedVariables false
set_option linter.unusedSimpArgs false
theorem Bytes.at_ {w : World} {A : Option Addr} {p : List Int} (h : Bytes w A p) (i : Nat) (hi : i < p.length) : ∃ ad, A = some ad ∧ w.cell? (ad.add i) = some (.int .u8 (rd p (i : Int))) := by
  obtain ⟨ad, e, hc⟩ := h (by omega)
  refine ⟨ad, e, hc i _ ?_⟩
  unfold nums rd
  rw [List.getElem?_map, List.getElem?_eq_getElem hi, Int.toNat_natCast, List.getD_eq_getElem?_getD, List.getElem?_eq_getElem hi]; rfl
set_option maxHeartbeats 4000000 in
set_option maxRecDepth 100000 in
theorem same_calls (A1 A2 : Option Addr) (c1 c2 : Nat) (l : List Int) (w : World) (hb1 : Bytes w A1 l) (hb2 : Bytes w A2 l) (hl : l.length ≤ 1000000) :
    Calls Try.prog 14 #[.slice A1 l.length c1, .slice A2 l.length c2] w fun e w' => e = .returned (.bool true) ∧ ∃ m, w' = w.drewN m := by
  have H1 := Aside0.mk hb1
  have H2 := Aside0.mk hb2
  clear hb1 hb2
  obtain ⟨n, hn⟩ : ∃ n, l.length = n := ⟨_, rfl⟩
  rw [hn] at hl ⊢
  have HN := Aside0.mk hn
  clear hn
  go_enter Try.func14, Try.ntmps14
  go_wp2
  go_loopg [5] n (fun kq v5 w' => ∃ (i m : Nat), i ≤ n ∧ v5 = .int .i64 (i : Int) ∧ Aside0 (kq = n - i) ∧ Aside0 (w.drewN m = w'))
  case atStart => exact ⟨0, 0, by omega, rfl, ⟨rfl⟩, ⟨rfl⟩⟩
  case round =>
    obtain ⟨i, m, hi, rfl, HK, HM⟩ := hrel
    by_cases hlt : i < n
    · obtain ⟨a1, rfl, hc1⟩ := H1.out.at_ i (by rw [HN.out]; exact hlt)
      obtain ⟨a2, rfl, hc2⟩ := H2.out.at_ i (by rw [HN.out]; exact hlt)
      replace hc1 := cell_at HM.out hc1
      replace hc2 := cell_at HM.out hc2
      have zt : 0 ≤ (i : Int) := by omega
      have lt : (i : Int) < (n : Int) := by omega
      go_wp2
      go_quiet (fail)
      go_wp2
      go_roundg (n - (i + 1))
      case measure => have := HK.out; omega
      case rel => exact ⟨i + 1, m + nq, by omega, by go_num, ⟨rfl⟩, ⟨by rw [← HM.out]; simp [World.drewN, Nat.add_assoc]⟩⟩
    · go_wp2
      go_ret
      exact ⟨rfl, m, HM.out.symm⟩
end Go.Proofs.Ytlniejfbkcgneaa.HashT

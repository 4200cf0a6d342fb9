/- Proved: the law NetOrder; conditions: the theorems' own premises. -/
import Derived.Test.YtaciokdgoogpiaaNMk
namespace Go.Proofs.Ytaciokdgoogpiaa.NetT
open Go.RowKit Go.Proofs.Ytaciokdgoogpiaa.YNet Go.Proofs.YtaciokdgoogpiaaW.PrintWords Go.Proofs.YtaciokdgoogpiaaW.PrintLast Go.Proofs.YtaciokdgoogpiaaW.PrintMore
set_option linter.unusedVariables false
set_option linter.unusedSimpArgs false
theorem mkS_throw (f : Nat → Int × List Int) (i : Nat) (t : Int) (h0 : 0 ≤ t) (h1 : t ≤ 1000) (hi : i < 200) : throwS (mkS f i t) ⟨#[]⟩ (f i).1 ⟨#[]⟩ (f i).2 false false t = mkS f (i + 1) t := by
  have hd : delayS t = t := by unfold delayS; omega
  unfold throwS layS
  rw [hd, if_neg (by decide), if_neg (by decide), if_pos (by rw [mkS_length]; exact hi), mkS_succ]
  rfl
def oe (j : Nat) : Int × List Int := ((j : Int) % 2, [(j : Int)])
set_option maxHeartbeats 4000000 in
set_option maxRecDepth 100000 in
theorem order_law (n delay : Int) (w : World) (hn : 0 ≤ n ∧ n ≤ 255) (hd : 0 ≤ delay ∧ delay ≤ 255) :
    Calls Try.prog 7 #[.int .u8 n, .int .u8 delay] w fun e w' => e = .returned (.bool true) ∧ Below w.heap.size w w' := by
  obtain ⟨n0, n1⟩ := hn
  obtain ⟨d0, d1⟩ := hd
  go_enter Try.func7, Try.ntmps7
  go_wp2_with (go_at_call 8; refine stop_here ?_)
  refine ⟨?_⟩
  refine (awake_calls w).mono ?_
  rintro e w2 ⟨rfl, hb⟩
  have B2 := Aside0.mk hb
  clear hb
  go_wp2_with (go_at_call 9; refine stop_here ?_)
  refine ⟨?_⟩
  refine (new_is w2).mono ?_
  rintro e w3 ⟨g, rfl, hg, hA, hb⟩
  have A3 := Aside0.mk hA
  have G3 := Aside0.mk hg
  have W2 := Aside0.mk (show w.heap.size ≤ w2.heap.size from B2.out.size)
  have B3 := Aside0.mk (below_step B2.out hb)
  have Z3 := Aside0.mk hb.size
  clear hA hg hb B2
  go_upto_region 8 with (fail)
  obtain ⟨N, hN⟩ : ∃ N : Nat, n % 100 = (N : Int) := ⟨(n % 100).toNat, by omega⟩
  obtain ⟨D, hD⟩ : ∃ D : Nat, delay % 20 = (D : Int) := ⟨(delay % 20).toNat, by omega⟩
  have hN1 : (N : Int) ≤ 99 := by omega
  have hD1 : (D : Int) ≤ 19 := by omega
  rw [hN]
  have HD := Aside0.mk hD
  clear hN hD
  go_loopg [7] N (fun kq v7 w' => ∃ (i : Nat) (v : Value), i ≤ N ∧ v7 = .int .i64 (i : Int) ∧ Aside0 (kq = N - i) ∧ Aside0 (AirIs w' w2.heap.size g v (mkS oe i D)) ∧ Aside0 (Below w.heap.size w w') ∧ Aside0 (w2.heap.size ≤ w'.heap.size))
  case atStart => exact ⟨0, .slice none 0 0, by omega, rfl, ⟨rfl⟩, A3, B3, Z3⟩
  case round =>
    clear A3 B3 Z3
    obtain ⟨i, v, hi, rfl, HK, A4, B4, Z4⟩ := hrel
    have zi : 0 ≤ (i : Int) := by omega
    by_cases hlt : i < N
    · have lt : (i : Int) < (N : Int) := by omega
      have i99 : (i : Int) ≤ 98 := by omega
      go_wp2_with ((with_reducible refine gate_dst (N := 29) rfl ?_); refine stop_here ?_)
      refine ⟨?_⟩
      refine made_event rfl ⟨nums .u8 [(i : Int)]⟩ 5 1 ?hr29 ?_
      case hr29 => first | (go_simp; done) | (go_simp; rfl)
      intro gb hgb w5 hbx hb
      have X5 := Aside0.mk hbx
      have A5 := Aside0.mk (A4.out.below hb)
      have B5 := Aside0.mk (below_step B4.out hb)
      have Z5 := Aside0.mk (Nat.le_trans Z4.out hb.size)
      clear hgb hbx hb A4 B4 Z4
      go_wp2_with (go_at_call 13; refine stop_here ?_)
      refine ⟨?_⟩
      refine (throw_is w5 w2.heap.size g v _ ⟨#[]⟩ ((i : Int) % 2) ⟨#[]⟩ (some ⟨gb, 0, none⟩) 1 [(i : Int)] false false (delay % 20) A5.out (lit_bytes X5.out) (fun _ ad e => by
        injection e with e
        subst e
        exact A5.out.typed X5.out (by decide) (by decide)) (by simp) (by simp) Z5.out).mono ?_
      rintro e w6 ⟨rfl, v6, hA, hV, hF⟩
      rw [HD.out] at hA
      have A6 : Aside0 (AirIs w6 w2.heap.size g v6 (mkS oe (i + 1) D)) := ⟨by
        rw [← mkS_throw oe i D (by omega) (by omega) (by omega)]
        exact hA⟩
      have B6 := Aside0.mk (below_air B5.out hF A5.out G3.out W2.out B5.out.size)
      have Z6 := Aside0.mk (Nat.le_trans Z5.out hF.size)
      clear hA hV hF A5 B5 X5 Z5
      go_wp2
      go_roundg (N - i - 1)
      case measure => have := HK.out; omega
      case rel => exact ⟨i + 1, v6, by omega, by go_num, ⟨by omega⟩, A6, B6, Z6⟩
    · have HI : Aside0 (i = N) := ⟨by omega⟩
      have lt : ¬ (i : Int) < (N : Int) := by omega
      rw [HI.out] at A4
      have HD' := HD
      go_upto_region 12 with (fail)
      go_loopg [8] D (fun kq v8 w' => ∃ (k : Nat) (v : Value), k ≤ D ∧ v8 = .int .i64 (k : Int) ∧ Aside0 (kq = D - k) ∧ Aside0 (AirIs w' w2.heap.size g v (mkS oe N ((D : Int) - (k : Int)))) ∧ Aside0 (Below w.heap.size w w'))
      case atStart => exact ⟨0, v, by omega, rfl, ⟨rfl⟩, ⟨by have h := A4.out; simpa using h⟩, B4⟩
      case round =>
        clear A4 B4 Z4 HK
        obtain ⟨k, v', hk, rfl, HK, A4, B4⟩ := hrel
        have zk : 0 ≤ (k : Int) := by omega
        by_cases hlt2 : k < D
        · have lt2 : (k : Int) < delay % 20 := by have := HD.out; omega
          go_wp2_with (go_at_call 12; refine stop_here ?_)
          refine ⟨?_⟩
          refine (tick_is _ w2.heap.size g v' _ A4.out).mono ?_
          rintro e w5 ⟨hC, v5, hA, hV, hF⟩
          rw [mkS_left oe N _ (by omega), show (D : Int) - (k : Int) - 1 = (D : Int) - ((k + 1 : Nat) : Int) by omega] at hA
          rw [mkS_gone oe N _ (by omega)] at hC
          obtain ⟨An, cn, rfl⟩ := came_none hC
          have A5 := Aside0.mk hA
          have B5 := Aside0.mk (below_air B4.out hF A4.out G3.out W2.out B4.out.size)
          clear hC hA hV hF A4 B4
          go_wp2
          go_roundg (D - k - 1)
          case measure => have := HK.out; omega
          case rel => exact ⟨k + 1, v5, by omega, by go_num, ⟨by omega⟩, A5, B5⟩
        · have HKD : Aside0 (k = D) := ⟨by omega⟩
          have lt2 : ¬ (k : Int) < delay % 20 := by have := HD.out; omega
          rw [HKD.out, Int.sub_self] at A4
          go_wp2_with (go_at_call 12; refine stop_here ?_)
          refine ⟨?_⟩
          refine (tick_is _ w2.heap.size g v' _ A4.out).mono ?_
          rintro e w5 ⟨hC, v5, hA, hV, hF⟩
          rw [mkS_left0] at hA
          rw [mkS_gone0] at hC
          obtain ⟨Ar, cr, rfl, hcr, hrow⟩ := came_rows hC
          have A5 := Aside0.mk hA
          have B5 := Aside0.mk (below_air B4.out hF A4.out G3.out W2.out B4.out.size)
          have HR := Aside0.mk hrow
          have HCR := Aside0.mk hcr
          rw [mkS_length]
          clear hC hA hV hF A4 B4 hrow hcr
          go_upto_region 20 with (fail)
          go_loopg [10] N (fun kq v10 w' => ∃ (j : Nat), j ≤ N ∧ v10 = .int .i64 (j : Int) ∧ Aside0 (kq = N - j) ∧ w' = w5)
          case atStart => exact ⟨0, by omega, rfl, ⟨rfl⟩, rfl⟩
          case round =>
            obtain ⟨j, hj, rfl, HK, hw⟩ := hrel
            subst hw
            have zj : 0 ≤ (j : Int) := by omega
            by_cases hlt3 : j < N
            · have lt3 : (j : Int) < (N : Int) := by omega
              obtain ⟨gr, off, hAr, hrow⟩ := HR.out (by rw [mkS_length]; omega)
              subst hAr
              obtain ⟨Ai, ki, c1, c3, hki, hby⟩ := hrow j (by rw [mkS_length]; omega)
              rw [mkS_at] at c1 c3 hki hby
              obtain ⟨ga, oa, hAi, cb⟩ := hby (j : Int) rfl
              subst hAi
              replace c1 : wr.cell? ⟨gr, off + j * 4 + 1, none⟩ = some (.int .i64 ((j : Int) % 2)) := c1
              replace c3 : wr.cell? ⟨gr, off + j * 4 + 3, none⟩ = some (.slice (some ⟨ga, oa, none⟩) 1 ki) := c3
              have j99 : (j : Int) ≤ 98 := by omega
              have HROW := Aside0.mk hrow
              clear hrow hby hki
              go_wp2
              go_roundg (N - j - 1)
              case measure => have := HK.out; omega
              case rel => exact ⟨j + 1, by omega, by go_num, ⟨by omega⟩, rfl⟩
            · have lt3 : ¬ (j : Int) < (N : Int) := by omega
              go_wp2_with (go_at_call 15; refine stop_here ?_)
              refine ⟨?_⟩
              refine (fly_n 0 _ _ g v5 _ A5.out rfl).mono ?_
              rintro e w6 ⟨rfl, rfl⟩
              go_wp2
              go_ret
              exact ⟨rfl, B5.out⟩
end Go.Proofs.Ytaciokdgoogpiaa.NetT

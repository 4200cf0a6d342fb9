/- Proved: the reference's Of tells what the program's does; conditions: the theorems' own premises. -/
import Derived.Test.YtlniejfbkcgneaaHRBlock
namespace Go.Proofs.Ytlniejfbkcgneaa.HashT
open Go.RowKit Go.Proofs.Ytlniejfbkcgneaa.YHash Go.Proofs.YtlniejfbkcgneaaW.PrintWords Go.Proofs.YtlniejfbkcgneaaW.PrintLast Go.Proofs.YtlniejfbkcgneaaW.PrintMore
set_option linter.unusedVariables false
set_option linter.unusedSimpArgs false
theorem wordsI_set (i : Nat) (hi : i < 8) : (⟨nums .i64 ((List.range i).map word ++ zeros (8 - i))⟩ : Array Value).setIfInBounds i (.int .i64 (word i)) = ⟨nums .i64 ((List.range (i + 1)).map word ++ zeros (8 - (i + 1)))⟩ := by
  rw [List.setIfInBounds_toArray]
  congr 1
  unfold nums
  have hz : zeros (8 - i) = 0 :: zeros (8 - (i + 1)) := by rw [← zeros_succ]; congr 1; omega
  have hl : ((List.range i).map word).length = i := by simp
  rw [hz, List.map_append, List.set_append_right _ _ (by simp), List.length_map, hl, Nat.sub_self, List.map_cons, List.set_cons_zero, List.range_succ, List.map_append, List.map_append, List.map_append, List.append_assoc]
  rfl
theorem wordsI_at (i : Nat) (hi : i < 8) : (⟨nums .i64 ((List.range i).map word ++ zeros (8 - i))⟩ : Array Value)[i]? = some (.int .i64 0) := by
  rw [List.getElem?_toArray]
  unfold nums
  have hz : zeros (8 - i) = 0 :: zeros (8 - (i + 1)) := by rw [← zeros_succ]; congr 1; omega
  have hl : ((List.range i).map word).length = i := by simp
  rw [List.getElem?_map, List.getElem?_append_right (by rw [hl]; exact Nat.le_refl _), hl, Nat.sub_self, hz]; rfl
theorem h0_all : AllW h0 := by
  intro x hx
  simp only [h0, List.mem_cons, List.not_mem_nil, or_false] at hx
  unfold W32
  omega
theorem chewB_rest {B : List Int → List Int → List Int} (h T : List Int) : ∀ k : Nat, k * 64 ≤ T.length → (chewB B k (h, T)).2 = T.drop (k * 64) := by
  intro k
  induction k with
  | zero => intro _; rw [chewB_zero, Nat.zero_mul, List.drop_zero]
  | succ k ih =>
    intro hk
    rw [Nat.add_mul, Nat.one_mul] at hk
    rw [chewB_step k _ (by show k * 64 + 64 ≤ T.length; omega), ih (by omega)]
    show List.drop 64 (List.drop (k * 64) T) = _
    rw [List.drop_drop, Nat.add_mul, Nat.one_mul]
theorem q_addr {w : World} {base n c : Nat} {A : Option Addr} {xs : List Value} (h : QRow w base 5 1 (.slice A n c) n xs) (hn : 0 < n) : ∃ g off, A = some ⟨g, off, none⟩ ∧ n ≤ c := by
  rcases h.2 with ⟨h0, _⟩ | ⟨g, off, cap, cur, he, hb, hh, hnc, hm, hcs, ht⟩
  · omega
  · injection he with ha _ hc
    subst ha
    exact ⟨_, _, rfl, by omega⟩
theorem ints_range {w : World} {g ty : Nat} {l : List Int} (hg : w.heap[g]? = some (.cells ⟨nums .i64 l⟩ ty (0, 0))) : w.rangeAt g 0 (nums .i64 l) := by
  intro j v hj
  rw [Nat.zero_add, blk_cell hg, List.getElem?_toArray]
  exact hj
theorem sub_word (F : List Int) (fl u : Nat) (hf : F.length = fl) (h : u + 64 ≤ fl) : ((F.drop u).take 64).length = 64 ∧ ∀ i : Nat, i < 64 → rd ((F.drop u).take 64) (i : Int) = rd F ((u + i : Nat) : Int) := by
  refine ⟨by rw [List.length_take, List.length_drop]; omega, fun i hi => ?_⟩
  unfold rd
  rw [Int.toNat_natCast, Int.toNat_natCast, List.getD_eq_getElem?_getD, List.getD_eq_getElem?_getD, List.getElem?_take_of_lt hi, List.getElem?_drop]
theorem tail_all (n : Nat) : AllB (tailOf n) := by
  intro x hx
  unfold tailOf at hx
  rcases List.mem_cons.1 hx with rfl | hx
  · omega
  · rcases List.mem_append.1 hx with h | h
    · rw [(List.mem_replicate.1 h).2]; omega
    · obtain ⟨i, _, rfl⟩ := List.mem_map.1 h
      unfold byte8; omega
theorem fill_len (l : List Int) : (l ++ tailOf l.length).length % 64 = 0 := by
  rw [List.length_append, ← tailB_of, tailB_len]
  have := padN_at l.length
  omega
theorem reads_bytes {w : World} {A : Option Addr} {l : List Int} (h : Bytes w A l) (hl : l.length ≤ 9223372036854775807) : Kd.C (Kd.int .u8) w A l.length l := by
  refine Kd.C_of_reads (d := (0 : Int)) ⟨rfl, hl, fun hn => ?_⟩
  obtain ⟨ad, e, hc⟩ := h hn
  refine ⟨ad, e, fun j hj => hc j _ ?_⟩
  unfold nums
  rw [List.getElem?_map, List.getElem?_eq_getElem hj, List.getD_eq_getElem?_getD, List.getElem?_eq_getElem hj]; rfl
theorem own_bytes {w : World} {base : Nat} {ok : Nat → Prop} {v : Value} {l : List Int} (h : Kd.R (Kd.int .u8) 5 w base ok v l) : QRow w base 5 1 v l.length (nums .u8 l) := q_of_own (Kd.own_of_R h)
theorem rout_is (h : List Int) (hw : AllW h) (hl : h.length = 8) (j q m : Nat) (hq : q < 8) (hm : m < 4) (e : j = 4 * q + m) : Go.bits .and .i64 (rd h (q : Int) / 2 ^ (24 - 8 * m)) 255 % 256 = outByte h j := by
  rw [← outByte_is h j q m hm e]
  have hx := hw.at_ q (by omega)
  obtain ⟨a, ha, hx⟩ := hx.nat
  rw [hx]
  have hc : (a : Int) / 2 ^ (24 - 8 * m) = ((a / 2 ^ (24 - 8 * m) : Nat) : Int) := by rw [Int.natCast_ediv, Int.natCast_pow]; rfl
  have h2 : a / 2 ^ (24 - 8 * m) < 2 ^ 63 := Nat.lt_of_le_of_lt (Nat.div_le_self _ _) (by omega)
  have h255 : (255 : Int) = ((2 ^ 8 - 1 : Nat) : Int) := by decide
  rw [hc, h255, i64_and h2 (by decide), Nat.and_two_pow_sub_one_eq_mod]
  generalize a / 2 ^ (24 - 8 * m) = z
  omega
set_option maxHeartbeats 8000000 in
set_option maxRecDepth 100000 in
theorem rof_calls (A : Option Addr) (c : Nat) (l : List Int) (w : World) (hb : Bytes w A l) (hall : AllB l) (hl : l.length ≤ 1000) (hc : l.length ≤ c) :
    Calls Try.prog 10 #[.slice A l.length c] w fun e w' => e = .returned (.agg ⟨nums .u8 (digest l)⟩) ∧ Below w.heap.size w w' := by
  have HY := Aside0.mk hb
  have HA := Aside0.mk hall
  have HL := Aside0.mk hl
  have HC0 := Aside0.mk hc
  obtain ⟨kf, hkf⟩ := (rfill_ev l hl).rounds
  have HKF := Aside0.mk hkf
  have HB := Aside0.mk (Below.refl w.heap.size w)
  clear hb hall hl hc hkf
  go_enter Try.func10, Try.ntmps10
  obtain ⟨C, hC⟩ : ∃ C, Value.string begins = C := ⟨_, rfl⟩
  have HC := Aside0.mk hC
  unfold begins at hC
  rw [hC]
  clear hC
  go_wp2_with ((with_reducible refine gate_dst (N := 2) rfl ?_); refine stop_here ?_)
  refine ⟨?_⟩
  refine box_event rfl (N := 2) rfl (cs := ⟨nums .u8 (zeros 32)⟩) (t := 25) ?hr2 ?_
  case hr2 => first | (go_simp; done) | (go_simp; rfl)
  intro g2 hg w1 hbox hb
  have G2 := Aside0.mk (show w.heap.size ≤ g2 by rw [hg]; exact HB.out.size)
  have Z := Aside0.mk hbox
  have B := Aside0.mk (below_step HB.out hb)
  clear hg hbox hb HB
  go_wp2_with ((with_reducible refine gate_dst (N := 3) rfl ?_); refine stop_here ?_)
  refine ⟨?_⟩
  refine box_event rfl (N := 3) rfl (cs := ⟨nums .i64 (zeros 8)⟩) (t := 37) ?hr3 ?_
  case hr3 => first | (go_simp; done) | (go_simp; rfl)
  intro g3 hg w2 hbox hb
  have G3 := Aside0.mk (show w.heap.size ≤ g3 by rw [hg]; exact B.out.size)
  have N23 := Aside0.mk (show g2 ≠ g3 by have := blk_lt Z.out; omega)
  have Z2 := Aside0.mk (blk_below Z.out hb)
  have X2 := Aside0.mk hbox
  have B2 := Aside0.mk (below_step B.out hb)
  clear hg hbox hb Z B
  go_wp2
  go_loopg [4] 8 (fun kq v4 w' => ∃ (i : Nat), i ≤ 8 ∧ v4 = .int .i64 (i : Int) ∧ Aside0 (kq = 8 - i) ∧ Aside0 (w'.heap[g3]? = some (.cells ⟨nums .i64 ((List.range i).map word ++ zeros (8 - i))⟩ 37 (0, 0))) ∧ Aside0 (w'.heap[g2]? = some (.cells ⟨nums .u8 (zeros 32)⟩ 25 (0, 0))) ∧ Aside0 (Below w.heap.size w w'))
  case atStart => exact ⟨0, by omega, rfl, ⟨rfl⟩, X2, Z2, B2⟩
  case round =>
    clear X2 Z2 B2
    obtain ⟨i, hi, rfl, HK, X, Z, B⟩ := hrel
    by_cases hlt : i < 8
    · have zt : 0 ≤ (i : Int) := by omega
      have lt : (i : Int) < 8 := by omega
      have ci := (blk_cell X.out i).trans (wordsI_at i hlt)
      have fi := blk_frozen X.out i
      go_wp2_with (go_at_call 15; refine (rword_calls i hlt C HC _).mono ?_; rintro e w9 ⟨rfl, hm⟩; have hb := drew_below hm; clear hm; replace ci := pw_cell_below hb ci; have n_X := Aside0.mk (blk_below X.out hb); have n_Z := Aside0.mk (blk_below Z.out hb); have n_B := Aside0.mk (below_step B.out hb); replace fi := blk_frozen n_X.out i; clear X Z B hb; have X := n_X; have Z := n_Z; have B := n_B; clear n_X n_Z n_B)
      go_roundg (8 - (i + 1))
      case measure => have := HK.out; omega
      case rel => exact ⟨i + 1, by omega, by go_num, ⟨rfl⟩, ⟨blk_put X.out i _ (wordsI_set i hlt)⟩, ⟨blk_far Z.out N23.out _⟩, ⟨below_set B.out G3.out⟩⟩
    · have hi8 : i = 8 := by omega
      subst hi8
      have X3 := Aside0.mk (show wr.heap[g3]? = some (.cells ⟨nums .i64 h0⟩ 37 (0, 0)) by
        rw [X.out]; simp only [Nat.sub_self]; rw [words_are]; simp [zeros])
      clear X
      go_wp2_with (go_at_call 16; refine stop_here ?_)
      refine ⟨?_⟩
      refine (shutterref01_Fill.calls kf A c l (l ++ tailOf l.length) _ (reads_bytes (HY.out.below B.out) (by have := HL.out; omega)) HC0.out HKF.out).mono ?_
      rintro e w4 ⟨vf, rfl, ho, hb⟩
      obtain ⟨F, hF⟩ : ∃ F, l ++ tailOf l.length = F := ⟨_, rfl⟩
      have hq := own_bytes ho
      rw [hF] at hq
      obtain ⟨Af, cf, hvf, hlf⟩ := q_slice hq
      subst hvf
      have HFd := Aside0.mk hF
      have FL := Aside0.mk (show F.length % 64 = 0 by rw [← hF]; exact fill_len l)
      have FA := Aside0.mk (show AllB F by rw [← hF]; intro x hx; rcases List.mem_append.1 hx with h | h; exact HA.out x h; exact tail_all _ x h)
      have FM := Aside0.mk (show F.length ≤ 2000 by rw [← hF, List.length_append, ← tailB_of, tailB_len]; have := padN_lt l.length; have := HL.out; omega)
      have Q := Aside0.mk (q_lower hq B.out.size)
      have X := Aside0.mk (blk_below X3.out hb)
      have Z4 := Aside0.mk (blk_below Z.out hb)
      have B4 := Aside0.mk (below_step B.out hb)
      have HCF := Aside0.mk hlf
      clear hF hq ho hb X3 Z B hlf
      obtain ⟨K, hK⟩ : ∃ K, K = F.length / 64 := ⟨_, rfl⟩
      have HKd := Aside0.mk (show F.length = K * 64 by rw [hK]; have := FL.out; omega)
      clear hK
      go_wp2
      go_loopg [6] K (fun kq v6 w' => ∃ (k : Nat) (h : List Int), k ≤ K ∧ v6 = .int .i64 ((k * 64 : Nat) : Int) ∧ Aside0 (kq = K - k) ∧ Aside0 (h = (chewB blockL k (h0, F)).1) ∧ Aside0 (AllW h) ∧ Aside0 (w'.heap[g3]? = some (.cells ⟨nums .i64 h⟩ 37 (0, 0))) ∧ Aside0 (w'.heap[g2]? = some (.cells ⟨nums .u8 (zeros 32)⟩ 25 (0, 0))) ∧ Aside0 (QRow w' w.heap.size 5 1 (.slice Af F.length cf) F.length (nums .u8 F)) ∧ Aside0 (Below w.heap.size w w'))
      case atStart => exact ⟨0, h0, by omega, by simp, ⟨rfl⟩, ⟨rfl⟩, ⟨h0_all⟩, X, Z4, Q, B4⟩
      case round =>
        clear X Z4 Q B4
        obtain ⟨k, h, hk, rfl, HKK, HH, HW, X, Z, Q, B⟩ := hrel
        have H8 := Aside0.mk (show h.length = 8 by rw [HH.out]; exact chewB_eight blockL_length _ _)
        obtain ⟨u, hu⟩ : ∃ u, u = k * 64 := ⟨_, rfl⟩
        rw [← hu]
        obtain ⟨fl, hfl⟩ : ∃ fl, F.length = fl := ⟨_, rfl⟩
        have HFl := Aside0.mk hfl
        have HU := Aside0.mk hu
        have hQ := Q.out
        rw [hfl] at hQ ⊢
        have Q1 := Aside0.mk hQ
        have HK1 := Aside0.mk (show fl = K * 64 from hfl.symm.trans HKd.out)
        clear hQ hfl hu Q
        by_cases hlt : k < K
        · have h0u : 0 ≤ (u : Int) := by omega
          have hus : (u : Int) < (fl : Int) := by have := HU.out; have := HK1.out; omega
          have hu64 : u + 64 ≤ fl := by have := HU.out; have := HK1.out; omega
          have hfm : fl ≤ 2000 := by have := FM.out; have := HFl.out; omega
          obtain ⟨e, he⟩ : ∃ e, e = u + 64 := ⟨_, rfl⟩
          have e1 : wrap64 ((u : Int) + 64) = (e : Int) := by rw [he]; unfold wrap64; omega
          have e2 : IntKind.i64.wrap ((u : Int) + 64) = (e : Int) := (i64_w _).trans e1
          obtain ⟨g5, off5, hA5, hcc⟩ := q_addr Q1.out (by omega)
          subst hA5
          obtain ⟨A7, hA7⟩ : ∃ A7, (if cf = ((u : Int)).toNat then (some (⟨g5, off5, none⟩ : Addr)) else (some (⟨g5, off5, none⟩ : Addr)).map (·.add (((u : Int)).toNat * 1))) = A7 := ⟨_, rfl⟩
          obtain ⟨i0, hi0, hzz⟩ := Option.map_eq_some_iff.1 info5
          simp only [Prod.mk.injEq] at hzz
          have kc := cut_mid (P := Try.prog) 22 5 .i64 .i64 Try.underlying22 hi0 1 hzz.2.1 (some ⟨g5, off5, none⟩) fl cf u e h0u (by rw [he]; omega) (by rw [he]; omega) hcc
          rw [hA7] at kc
          replace kc : ∀ W : World, (Instr.slice 22 (.slice (some ⟨g5, off5, none⟩) fl cf) (some (.int .i64 (u : Int))) (some (.int .i64 (e : Int))) none).run Try.prog W = .ok (.slice A7 64 (cf - u)) W := fun W => (kc W).trans (by rw [Int.toNat_natCast, Int.toNat_natCast, show e - u = 64 by omega])
          have hA8 : A7 = some ⟨g5, off5 + u, none⟩ := by
            rw [← hA7, if_neg (by rw [Int.toNat_natCast]; omega), Option.map_some, add_at, Int.toNat_natCast, Nat.mul_one]
          subst hA8
          have HE := Aside0.mk he
          have HU64 := Aside0.mk hu64
          have HCF1 := Aside0.mk hcc
          have WW := Aside0.mk (sub_word F fl u HFl.out hu64)
          have X0 := Aside0.mk (blk_drew X.out)
          have Z0 := Aside0.mk (blk_drew Z.out)
          have Q0 := Aside0.mk (show QRow wr.drew w.heap.size 5 1 (.slice (some ⟨g5, off5, none⟩) fl cf) fl (nums .u8 F) from Q1.out)
          have B0 := Aside0.mk (below_drew1 B.out)
          have rg := ints_range X.out
          clear hA7 hzz hi0 he hcc hfm hu64 X Z Q1 B
          go_wp2
          refine start_ (n := 8) (S := fun w' => w'.rangeAt g3 0 (nums .i64 h)) (ds := [6, 7]) #[false, false, false, false, false, false, false, false] (by kernel_rfl) rfl rfl (rg) (fun hHeld => ?_)
          refine pure_ (i := 1) (N := some 26) (v := ?_) (a' := ?_) #[false, true, false, false, false, false, false, false] rfl rfl (by kernel_rfl) (fun _ _ _ h => h) (Or.inl ⟨by rfl, ?_⟩) ?_ ?_
          rotate_left
          · intro w'
            go_simp
            with_reducible rfl
          rotate_left
          · simp only [Act.put, List.setIfInBounds_toArray, List.set_cons_zero, List.set_cons_succ, i64_w, i32_w]
            rfl
          refine pure_ (i := 2) (N := some 27) (v := ?_) (a' := ?_) #[false, true, true, false, false, false, false, false] rfl rfl (by kernel_rfl) (fun _ _ _ h => h) (Or.inl ⟨by rfl, ?_⟩) ?_ ?_
          rotate_left
          · intro w'
            go_simp
            with_reducible rfl
          rotate_left
          · simp only [Act.put, List.setIfInBounds_toArray, List.set_cons_zero, List.set_cons_succ, i64_w, i32_w]
            rfl
          refine pure_ (i := 3) (N := some 28) (v := ?_) (a' := ?_) #[false, true, true, true, false, false, false, false] rfl rfl (by kernel_rfl) (fun _ _ _ h => h) (Or.inl ⟨by rfl, ?_⟩) ?_ ?_
          rotate_left
          · intro w'
            go_simp
            with_reducible rfl
          rotate_left
          · simp only [Act.put, List.setIfInBounds_toArray, List.set_cons_zero, List.set_cons_succ, i64_w, i32_w]
            rfl
          refine pure_ (i := 4) (N := some 29) (v := ?_) (a' := ?_) #[false, true, true, true, true, false, false, false] rfl rfl (by kernel_rfl) (fun _ _ _ h => h) (Or.inl ⟨by rfl, ?_⟩) ?_ ?_
          rotate_left
          · intro w'
            go_simp
            with_reducible rfl
          rotate_left
          · simp only [Act.put, List.setIfInBounds_toArray, List.set_cons_zero, List.set_cons_succ, i64_w, i32_w]
            rfl
          refine pure_ (i := 5) (N := some 30) (v := ?_) (a' := ?_) #[false, true, true, true, true, true, false, false] rfl rfl (by kernel_rfl) (fun _ _ _ h => h) (Or.inl ⟨by rfl, ?_⟩) ?_ ?_
          rotate_left
          · intro w'
            go_simp
            with_reducible rfl
          rotate_left
          · simp only [Act.put, List.setIfInBounds_toArray, List.set_cons_zero, List.set_cons_succ, i64_w, i32_w]
            rfl
          refine take_ (i := 0) (N := some 25) (v := ?_) (a' := ?_) #[true, true, true, true, true, true, false, false] rfl rfl (by kernel_rfl) (fun _ _ _ h => h) (Or.inl ⟨by rfl, ?_⟩) hHeld ?_ ?_
          rotate_left
          · intro w' s0
            refine (load_mid_run 37 (.tmp 3) ?q1 g3 0 ?q2 (nums .i64 h) _ s0 Try.underlying37 rfl (by rw [nums_len, H8.out]; rfl)); rfl; rfl
          rotate_left
          · simp only [Act.put, List.setIfInBounds_toArray, List.set_cons_zero, List.set_cons_succ, i64_w, i32_w]
            rfl
          refine last_ (i := 6) (N := some 31) #[true, true, true, true, true, true, true, false] rfl rfl (by kernel_rfl) (by decide) (fun K hK => ?_)
          refine goes_ Try.func17 (by kernel_rfl) rfl #[.agg ⟨nums .i64 h⟩, .slice (some ⟨g5, off5 + u, none⟩) 64 (cf - u)] (by rfl) rfl rfl (by simp only [List.map_toArray, List.map_cons, List.map_nil]; rfl) ?_
          have hr6 : ∀ i : Nat, i < 64 → World.cell? wr.drew ⟨g5, off5 + u + i, none⟩ = some (.int .u8 (rd ((F.drop u).take 64) i)) := fun i hi => by
            rw [WW.out.2 i hi]
            obtain ⟨ad, e5, hc5⟩ := q_cells Q0.out (by have := HU64.out; omega)
            injection e5 with e5
            subst e5
            have h9 := hc5 (u + i) (.int .u8 (rd F ((u + i : Nat) : Int))) (by
              have hlt9 : u + i < F.length := by rw [HFl.out]; have := HU64.out; omega
              unfold nums rd
              rw [List.getElem?_map, List.getElem?_eq_getElem hlt9, Int.toNat_natCast, List.getD_eq_getElem?_getD, List.getElem?_eq_getElem hlt9]; rfl)
            rw [add_at, ← Nat.add_assoc] at h9
            exact h9
          refine (rblock_calls g5 (off5 + u) 64 (cf - u) ((F.drop u).take 64) h _ H8.out HW.out (by rw [WW.out.1]; exact Nat.le_refl _) WW.out.1 (fun x hx => FA.out x (List.mem_of_mem_drop (List.mem_of_mem_take hx))) hr6).mono ?_
          clear hr6
          rintro e5 w5 ⟨rfl, hb⟩
          refine ⟨_, rfl, ?_⟩
          have X5 := Aside0.mk (blk_below X0.out hb)
          have Z5 := Aside0.mk (blk_below Z0.out hb)
          have Q5 := Aside0.mk (q_below Q0.out hb)
          have B5 := Aside0.mk (below_step B0.out hb)
          have LB := Aside0.mk (show (blockL ((F.drop u).take 64) h).length = 8 by rw [blockL_length]; exact H8.out)
          clear hb X0 Z0 Q0 B0
          refine hK.out _ _ ?_
          clear hK K
          refine norm_ (a' := ?_) ?_ ?_
          rotate_left
          · show Act.put _ (some 31) _ = _
            simp only [Act.put, List.setIfInBounds_toArray, List.set_cons_zero, List.set_cons_succ, i64_w, i32_w]
            rfl
          refine last_ (i := 7) (N := none) #[true, true, true, true, true, true, true, true] rfl rfl (by kernel_rfl) (by decide) (fun K hK => ?_)
          rw [if_pos (by rfl)]
          refine wp_store_row 37 (.tmp 3) (.tmp 31) rfl g3 ⟨nums .i64 (blockL ((F.drop u).take 64) h)⟩ rfl rfl 37 _ X5.out (by rw [i64s_size _ LB.out]; rfl) (by rw [i64s_size _ LB.out, i64s_size _ H8.out]) (i64s_one _) ?_
          have X6 := Aside0.mk (show (w5.setRow g3 ⟨nums .i64 (blockL ((F.drop u).take 64) h)⟩).heap[g3]? = some (.cells ⟨nums .i64 (blockL ((F.drop u).take 64) h)⟩ 37 (0, 0)) from setRow_heap _ _ _ _ _ _ X5.out)
          have Z6 := Aside0.mk ((setRow_other w5 g3 g2 ⟨nums .i64 (blockL ((F.drop u).take 64) h)⟩ N23.out).trans Z5.out)
          have B6 := Aside0.mk (below_setRow B5.out G3.out ⟨nums .i64 (blockL ((F.drop u).take 64) h)⟩)
          have Q6 := Aside0.mk (q_move (w1 := w5.setRow g3 ⟨nums .i64 (blockL ((F.drop u).take 64) h)⟩) Q5.out (fun j hj => setRow_other w5 g3 j _ (fun e => by
            subst e
            obtain ⟨_, cc, hcc⟩ := q_typed Q5.out j hj
            have := X5.out.symm.trans hcc
            simp at this)))
          refine hK.out _ _ ?_
          clear hK K
          refine done_ (by kernel_rfl) ?_
          have HH1 := Aside0.mk (show blockL ((F.drop u).take 64) h = (chewB blockL (k + 1) (h0, F)).1 by
            rw [chewB_step k _ (by show k * 64 + 64 ≤ F.length; rw [HFl.out, ← HU.out, ← HE.out]; have := HU.out; have := HK1.out; have := HE.out; omega), chewB_rest _ _ k (by rw [HFl.out, ← HU.out]; omega), ← HU.out, ← HH.out])
          have HW1 := Aside0.mk (show AllW (blockL ((F.drop u).take 64) h) from addN_all HW.out 8)
          clear e1 e2 kc rg hHeld X5 Z5 Q5 B5
          have es : wrap64 ((u : Int) + 64) = (((k + 1) * 64 : Nat) : Int) := by have h1 := HU.out; have h2 := HU64.out; have h3 := FM.out; have h4 := HFl.out; rw [Nat.add_mul, ← h1]; unfold wrap64; omega
          go_wp2
          have hfl9 := HFl.out
          subst hfl9
          go_roundg (K - (k + 1))
          case measure => have := HKK.out; clear es; omega
          case rel => exact ⟨k + 1, _, by clear es; omega, by rw [es], ⟨rfl⟩, HH1, HW1, X6, Z6, Q6, B6⟩
        · have hge : ¬ u < fl := by have := HU.out; have := HK1.out; omega
          have hge' : ¬ (u : Int) < (fl : Int) := by omega
          have hkK : k = K := by omega
          have HFu := Aside0.mk (show h = (full (l ++ tailOf l.length)).1 by
            rw [HFd.out, HH.out, hkK]
            unfold full fullB
            rw [show F.length / 64 = K by have := HKd.out; omega])
          clear hkK
          go_wp2_with ((with_reducible refine gate_dst (N := 7) rfl ?_); refine stop_here ?_)
          refine ⟨?_⟩
          refine box_event rfl (N := 7) rfl (cs := ⟨nums .u8 (zeros 32)⟩) (t := 25) ?hr7 ?_
          case hr7 => first | (go_simp; done) | (go_simp; rfl)
          intro g7 hg w10 hbox hb
          have G7 := Aside0.mk (show w.heap.size ≤ g7 by rw [hg]; exact B.out.size)
          have D27 := Aside0.mk (show g2 ≠ g7 by have := blk_lt Z.out; omega)
          have D37 := Aside0.mk (show g3 ≠ g7 by have := blk_lt X.out; omega)
          have Y10 := Aside0.mk hbox
          have X10 := Aside0.mk (blk_below X.out hb)
          have Z10 := Aside0.mk (blk_below Z.out hb)
          have B10 := Aside0.mk (below_step B.out hb)
          clear hg hbox hb X Z B Q1 hge hge'
          go_wp2
          go_loopg [8] 32 (fun kq v8 w' => ∃ (j : Nat), j ≤ 32 ∧ v8 = .int .i64 (j : Int) ∧ Aside0 (kq = 32 - j) ∧ Aside0 (w'.heap[g7]? = some (.cells ⟨nums .u8 ((List.range j).map (outByte h) ++ zeros (32 - j))⟩ 25 (0, 0))) ∧ Aside0 (w'.heap[g3]? = some (.cells ⟨nums .i64 h⟩ 37 (0, 0))) ∧ Aside0 (w'.heap[g2]? = some (.cells ⟨nums .u8 (zeros 32)⟩ 25 (0, 0))) ∧ Aside0 (Below w.heap.size w w'))
          case atStart => exact ⟨0, by omega, rfl, ⟨rfl⟩, Y10, X10, Z10, B10⟩
          case round =>
            clear Y10 X10 Z10 B10
            obtain ⟨j, hj, rfl, HK3, Y, X, Z, B⟩ := hrel
            by_cases hlt3 : j < 32
            · have zt : 0 ≤ (j : Int) := by omega
              have lt : (j : Int) < 32 := by omega
              obtain ⟨q, m, hq, hm, hqm⟩ : ∃ q m, q < 8 ∧ m < 4 ∧ j = 4 * q + m := ⟨j / 4, j % 4, by omega, by omega, by omega⟩
              have kq : (j : Int) / 4 = (q : Int) := by omega
              have km : (j : Int) % 4 = (m : Int) := by omega
              have zq : 0 ≤ (q : Int) := by omega
              have lq : (q : Int) < 8 := by omega
              have zm : 0 ≤ (m : Int) := by omega
              have lm : (m : Int) < 4 := by omega
              have cq := (blk_cell X.out q).trans (i64s_at h (show q < h.length by rw [H8.out]; exact hq))
              have cj := (blk_cell Y.out j).trans (outs_at _ _ hlt3)
              have fj := blk_frozen Y.out j
              have ku : IntKind.u64.wrap (24 - 8 * (m : Int)) = 24 - 8 * (m : Int) := by simp [IntKind.wrap, IntKind.bits, IntKind.signed]; omega
              have hro := rout_is h HW.out H8.out j q m hq hm hqm
              obtain ⟨y, hy⟩ : ∃ y, Go.bits .and .i64 (rd h (q : Int) / 2 ^ (24 - 8 * m)) 255 % 256 = y := ⟨_, rfl⟩
              have HYd := Aside0.mk (show y = outByte h j from hy.symm.trans hro)
              clear hqm hq hm hro
              go_wp2
              clear hy cq cj fj ku
              go_roundg (32 - (j + 1))
              case measure => have := HK3.out; omega
              case rel => exact ⟨j + 1, by omega, by go_num, ⟨rfl⟩, ⟨blk_put Y.out j (.int .u8 y) (by rw [HYd.out]; exact outs_set _ _ hlt3)⟩, ⟨blk_far X.out D37.out _⟩, ⟨blk_far Z.out D27.out _⟩, ⟨below_set B.out G7.out⟩⟩
            · have HJ : Aside0 (j = 32) := ⟨by omega⟩
              have YD := Aside0.mk (show wr.heap[g7]? = some (.cells ⟨nums .u8 (digest l)⟩ 25 (0, 0)) by
                rw [Y.out, HJ.out, HFu.out]; unfold digest zeros; simp)
              clear Y
              go_wp2_with ((with_reducible refine gate_dst (N := 50) rfl ?_); refine stop_here ?_)
              refine ⟨?_⟩
              refine wpList_load_row rfl 25 (.tmp 7) rfl g7 rfl 25 ⟨nums .u8 (digest l)⟩ (0, 0) _ YD.out Try.underlying25 rfl (by rw [u8s_size _ (digest_len l)]; rfl) ?_
              go_wp2_with ((with_reducible refine gate_store (t := 25) (p := 2) rfl ?_); refine stop_here ?_)
              refine ⟨?_⟩
              refine row_event rfl 25 (.tmp 2) (.tmp 50) rfl g2 ⟨nums .u8 (digest l)⟩ rfl rfl 25 _ Z.out (by rw [u8s_size _ (digest_len l)]; rfl) (by rw [u8s_size _ (digest_len l)]; rfl) (u8s_one _) ?_
              intro w12 hp
              have BF := Aside0.mk (hp.below B.out G2.out)
              have XF := Aside0.mk hp.here
              clear hp
              go_wp2
              exact bodyPost_ret (results_cell_row rfl _ _ g2 25 ⟨nums .u8 (digest l)⟩ (0, 0) _ rfl XF.out Try.underlying25 rfl (by rw [u8s_size _ (digest_len l)]; rfl)) rfl ⟨rfl, BF.out⟩
end Go.Proofs.Ytlniejfbkcgneaa.HashT

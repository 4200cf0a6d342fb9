/- Proved: what the reference's Tick and Same answer, in plain Lean, and their contracts told by it; conditions: the theorems' own premises. -/
import Derived.Test.YtaciokdgoogpiaaNRThrow
namespace Go.Proofs.Ytaciokdgoogpiaa.NetT
open Go.RowKit Go.Proofs.Ytaciokdgoogpiaa.YNet Go.Proofs.YtaciokdgoogpiaaW.PrintWords Go.Proofs.YtaciokdgoogpiaaW.PrintLast Go.Proofs.YtaciokdgoogpiaaW.PrintMore
set_option linter.unusedVariables false
set_option linter.unusedSimpArgs false
theorem w64 {x : Int} (h0 : -9223372036854775808 ≤ x) (h1 : x ≤ 9223372036854775807) : wrap64 x = x := by unfold wrap64; omega
theorem same01 (l : List Int) (hl : l.length < 1099511627776) : ∀ n k i : Nat, l.length - i ≤ n → n < k → i ≤ l.length → shutterref01_Same.l0 k l l (i : Int) = some true
  | n, 0, i, _, hk, _ => by omega
  | n, k + 1, i, hn, hk, hi => by
    unfold shutterref01_Same.l0
    by_cases h : i < l.length
    · rw [if_pos (by omega), if_pos (by omega), if_pos (by omega), if_pos rfl, w64 (by omega) (by omega)]
      obtain ⟨m, rfl⟩ : ∃ m, n = m + 1 := ⟨n - 1, by omega⟩
      exact same01 l hl m k (i + 1) (by omega) (by omega) (by omega)
    · rw [if_neg (by omega)]
theorem same24 (l : List S32) (M : Nat) (hl : l.length < 1099511627776) (hM : M < 1099511627776) (hx : ∀ i : Int, (rd_T32 l i).f3.length ≤ M) : ∀ n k i : Nat, l.length - i ≤ n → n + M + 1 < k → i ≤ l.length → shutterref24_Same.l0 k l l (i : Int) = some true
  | n, 0, i, _, hk, _ => by omega
  | n, k + 1, i, hn, hk, hi => by
    unfold shutterref24_Same.l0
    by_cases h : i < l.length
    · have h1 := hx (i : Int)
      have e : shutterref01_Same.f k (rd_T32 l (i : Int)).f3 (rd_T32 l (i : Int)).f3 = some true := by
        unfold shutterref01_Same.f
        rw [if_pos rfl]
        exact same01 _ (by omega) _ k 0 (Nat.le_refl _) (by omega) (by omega)
      rw [if_pos (by omega), if_pos (by omega), if_pos (by omega), if_pos rfl, if_pos rfl, if_pos rfl, e]
      simp only [Option.bind_some, if_true]
      rw [w64 (by omega) (by omega)]
      obtain ⟨m, rfl⟩ : ∃ m, n = m + 1 := ⟨n - 1, by omega⟩
      exact same24 l M hl hM hx m k (i + 1) (by omega) (by omega) (by omega)
    · rw [if_neg (by omega)]
theorem same_self (l : List S32) (M : Nat) (hl : l.length < 1099511627776) (hM : M < 1099511627776) (hx : ∀ x ∈ l, x.f3.length ≤ M) : shutterref24_Same.f (l.length + M + 2) l l = some true := by
  unfold shutterref24_Same.f
  rw [if_pos rfl]
  refine same24 l M hl hM (fun i => ?_) l.length _ 0 (by omega) (by omega) (by omega)
  unfold rd_T32
  rw [List.getD_eq_getElem?_getD]
  cases h : l[i.toNat]? with
  | none => simp [z32]
  | some x => exact hx x (List.mem_of_getElem? h)
/-- Those that stay on their way. -/
def keptS (l : List Say) : List Say := l.filter (fun x => decide (tickOf x ≠ 0))
def goneS (l : List Say) : List Say := l.filter (fun x => decide (tickOf x = 0))
def lessS (x : Say) : Say := (x.1, x.2.1, x.2.2.1, x.2.2.2.1, x.2.2.2.2 - 1)
def leftS (l : List Say) : List Say := (keptS l).map lessS
theorem takeS_snoc (l : List Say) (j : Nat) (h : j < l.length) : l.take (j + 1) = l.take j ++ [l[j]] := by
  rw [List.take_succ_eq_append_getElem h]
theorem rtick_pure (l : List Say) (hl : l.length ≤ 200) (ht : ∀ x ∈ l, 0 ≤ tickOf x ∧ tickOf x ≤ 3000) : ∀ n k i : Nat, l.length - i ≤ n → n < k → i ≤ l.length →
    shutterref24_Tick.l0 k ((goneS (l.take i)).map mailOf) (i : Int) (l.map mailOf) (l.map tickOf) ((leftS (l.take i)).map mailOf) ((leftS (l.take i)).map tickOf) = some ((leftS l).map mailOf, (leftS l).map tickOf, (goneS l).map mailOf)
  | n, 0, i, _, hk, _ => by omega
  | n, k + 1, i, hn, hk, hi => by
    unfold shutterref24_Tick.l0
    by_cases h : i < l.length
    · have e1 : rd (l.map tickOf) (i : Int) = tickOf l[i] := by
        unfold rd
        rw [Int.toNat_natCast, List.getD_eq_getElem?_getD, List.getElem?_map, List.getElem?_eq_getElem h]; rfl
      have e2 : rd_T32 (l.map mailOf) (i : Int) = mailOf l[i] := by
        unfold rd_T32
        rw [Int.toNat_natCast, List.getD_eq_getElem?_getD, List.getElem?_map, List.getElem?_eq_getElem h]; rfl
      have hb := ht l[i] (List.getElem_mem h)
      have hg : (goneS (l.take i)).length ≤ 200 := by
        unfold goneS
        have := List.length_filter_le (fun x => decide (tickOf x = 0)) (l.take i)
        rw [List.length_take] at this
        omega
      have hk' : (leftS (l.take i)).length ≤ 200 := by
        unfold leftS keptS
        have := List.length_filter_le (fun x => decide (tickOf x ≠ 0)) (l.take i)
        rw [List.length_take] at this
        rw [List.length_map]
        omega
      obtain ⟨m, rfl⟩ : ∃ m, n = m + 1 := ⟨n - 1, by omega⟩
      have IH := rtick_pure l hl ht m k (i + 1) (by omega) (by omega) (by omega)
      rw [if_pos (by rw [List.length_map]; omega), if_pos (by omega), if_pos (by rw [List.length_map]; omega), e1, e2, w64 (by omega) (by omega)]
      by_cases hz : tickOf l[i] = 0
      · have g1 : goneS (l.take (i + 1)) = goneS (l.take i) ++ [l[i]] := by unfold goneS; rw [takeS_snoc l i h, List.filter_append]; simp [hz]
        have g2 : leftS (l.take (i + 1)) = leftS (l.take i) := by unfold leftS keptS; rw [takeS_snoc l i h, List.filter_append]; simp [hz]
        rw [if_pos hz, if_pos (by rw [List.length_map]; omega)]
        rw [g1, g2, List.map_append] at IH
        exact IH
      · have g1 : goneS (l.take (i + 1)) = goneS (l.take i) := by unfold goneS; rw [takeS_snoc l i h, List.filter_append]; simp [hz]
        have g2 : leftS (l.take (i + 1)) = leftS (l.take i) ++ [lessS l[i]] := by unfold leftS keptS; rw [takeS_snoc l i h, List.filter_append, List.map_append]; simp [hz]
        rw [if_neg hz, if_pos (by rw [List.length_map]; omega), if_pos (by rw [List.length_map]; omega), w64 (by omega) (by omega)]
        rw [g1, g2, List.map_append, List.map_append] at IH
        exact IH
    · have e : i = l.length := by omega
      rw [if_neg (by rw [List.length_map]; omega), e, List.take_length]
theorem rtick_f (l : List Say) (hl : l.length ≤ 200) (ht : ∀ x ∈ l, 0 ≤ tickOf x ∧ tickOf x ≤ 3000) : shutterref24_Tick.f (l.length + 1) (l.map mailOf) (l.map tickOf) = some ((leftS l).map mailOf, (leftS l).map tickOf, (goneS l).map mailOf) :=
  rtick_pure l hl ht l.length (l.length + 1) 0 (by omega) (by omega) (by omega)
/-- What the reference's Tick answers: its air, and the datagrams that come. -/
def RefTicked (w : World) (e : Ending) (ok : Nat → Prop) (l : List Say) : Prop := ∃ v0 v1 v2, e = .returned (.tuple #[.agg #[v0, v1], v2]) ∧ RefIs w ok v0 v1 (leftS l) ∧ Kd.V k32 32 w 0 ok v2 ((goneS l).map mailOf)
theorem rtick_calls (w : World) (ok : Nat → Prop) (v0 v1 : Value) (l : List Say) (hR : RefIs w ok v0 v1 l) (hl : l.length ≤ 200) (ht : ∀ x ∈ l, 0 ≤ tickOf x ∧ tickOf x ≤ 3000) :
    Calls Try.prog 10 #[.agg #[v0, v1]] w fun e w' => RefTicked w' e (fun k => ok k ∨ w.heap.size ≤ k) l ∧ Below w.heap.size w w' := by
  obtain ⟨A0, c0, A1, c1, rfl, rfl⟩ := hR.slices
  have h0 := hR.1
  have h1 := Kd.V_reads' hR.2
  have h := shutterref24_Tick.calls (l.length + 1) ok A0 c0 (l.map mailOf) A1 c1 (l.map tickOf) _ _ _ w (by rw [List.length_map]; exact h0) (by exact h1.2.2) (by rw [List.length_map]; exact h1.2.1) (rtick_f l hl ht)
  rw [List.length_map, List.length_map] at h
  refine h.mono ?_
  rintro e w' ⟨u0, u1, u2, rfl, hn0, hr1, hn2, hb⟩
  exact ⟨⟨u0, u1, u2, rfl, ⟨Kd.V_mono (Kd.N_V hn0) (fun k hk => hk.1), Kd.V_mono (Kd.R_V hr1) (fun k hk => .inr hk)⟩, Kd.V_mono (Kd.N_V hn2) (fun k hk => hk.1)⟩, hb⟩
end Go.Proofs.Ytaciokdgoogpiaa.NetT

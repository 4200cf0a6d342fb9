/- Proved: what acked needs: its closure, IndexFunc, Clone; conditions: the theorems' own premises. -/
import Derived.Test.YtafjegfmmnjpfaaDoorLSend
namespace Go.Proofs.YtafjegfmmnjpfaaDoor.LineT
open Go.RowKit Go.Proofs.YtafjegfmmnjpfaaDoor.YLine Go.Proofs.YtafjegfmmnjpfaaDoorW.PrintWords Go.Proofs.YtafjegfmmnjpfaaDoorW.PrintLast Go.Proofs.YtafjegfmmnjpfaaDoorW.PrintMore
set_option linter.unusedVariables false
set_option linter.unusedSimpArgs false
set_option maxHeartbeats 4000000 in
set_option maxRecDepth 100000 in
theorem ackclo_calls (w : World) (nb : Nat) (n : Int) (p : Pk) (hn : w.heap[nb]? = some (.cells #[.int .i64 n] 3 (0, 0))) :
    Calls Tryd.prog 43 #[.agg ⟨p.cells⟩, .pointer (some ⟨nb, 0, none⟩)] w fun e w' => e = .returned (.bool (decide (n < p.num))) ∧ Below w.heap.size w w' := by
  have HN := Aside0.mk hn
  have HB := Aside0.mk (Below.refl w.heap.size w)
  clear hn
  obtain ⟨ack, num, last, A, c, b⟩ := p
  unfold Pk.cells
  go_enter Tryd.func43, Tryd.ntmps43
  go_wp2_with ((with_reducible refine gate_dst (N := 2) rfl ?_); refine stop_here ?_)
  refine ⟨?_⟩
  refine box_event rfl (N := 2) rfl (cs := ⟨[.int .i64 ack, .int .i64 num, .bool last, .slice A b.length c]⟩) (t := 37) ?hr2 ?_
  case hr2 => first | (go_simp; done) | (go_simp; rfl)
  intro m hm w1 hbox hb
  have X1 := Aside0.mk hbox
  have N1 := Aside0.mk (blk_below HN.out hb)
  have B1 := Aside0.mk (below_step HB.out hb)
  clear hm hbox hb HN HB
  have c1 := (blk_cell X1.out 1).trans (show (⟨[Value.int .i64 ack, .int .i64 num, .bool last, .slice A b.length c]⟩ : Array Value)[1]? = some (.int .i64 num) from rfl)
  have cn := (blk_cell N1.out 0).trans (show (#[Value.int .i64 n] : Array Value)[0]? = some (.int .i64 n) from rfl)
  go_wp2
  go_ret
  exact ⟨rfl, B1.out⟩
def ackFn (nb : Nat) : Value := .func (.func 43) #[] #[.pointer (some ⟨nb, 0, none⟩)]
theorem pk_range {w : World} {base gr off c : Nat} {fs : List Pk} (hq : QRow w base 37 4 (.slice (some ⟨gr, off, none⟩) fs.length c) fs.length (pkCells fs)) (i : Nat) (hi : i < fs.length) : w.rangeAt gr (off + i * 4) (Pk.cells (fs[i])) := by
  intro j u hj
  obtain ⟨ad, e, h⟩ := q_cells hq (by omega)
  injection e with e
  subst e
  have hj4 : j < 4 := (List.getElem?_eq_some_iff.1 hj).1
  have := h (i * 4 + j) u (by rw [pkCells_at fs i hi j hj4]; exact hj)
  rwa [add_at, ← Nat.add_assoc] at this
/-- The index of the first pack with a greater number. -/
def firstOver (n : Int) : List P4 → Option Nat
  | [] => none
  | p :: ps => if n < p.f1 then some 0 else (firstOver n ps).map (· + 1)
theorem over_none {n : Int} {l : List P4} (h : ∀ j (hj : j < l.length), ¬ n < (l[j]).f1) : firstOver n l = none := by
  induction l with
  | nil => rfl
  | cons p l ih =>
    unfold firstOver
    rw [if_neg (show ¬ n < p.f1 from h 0 (by simp)), ih (fun j hj => h (j + 1) (by simpa using hj))]
    rfl
theorem over_some {n : Int} {l : List P4} {k : Nat} (hk : k < l.length) (h1 : n < (l[k]).f1) (h : ∀ j (hj : j < k), ¬ n < (l[j]'(by omega)).f1) : firstOver n l = some k := by
  induction l generalizing k with
  | nil => simp at hk
  | cons p l ih =>
    unfold firstOver
    cases k with
    | zero => rw [if_pos (show n < p.f1 from h1)]
    | succ k =>
      rw [if_neg (show ¬ n < p.f1 from h 0 (by omega)), ih (by simpa using hk) h1 (fun j hj => h (j + 1) (by omega))]
      rfl
def IdxIs (e : Ending) (k : Option Nat) : Prop := e = .returned (.int .i64 (match k with | some k => (k : Int) | none => -1))
set_option maxHeartbeats 4000000 in
set_option maxRecDepth 100000 in
theorem idxp_calls (w : World) (base nb c : Nat) (A : Option Addr) (n : Int) (qs : List Pk) (hq : QRow w base 37 4 (.slice A qs.length c) qs.length (pkCells qs)) (hn : w.heap[nb]? = some (.cells #[.int .i64 n] 3 (0, 0))) (hl : qs.length ≤ 100000) :
    Calls Tryd.prog 42 #[.slice A qs.length c, ackFn nb] w fun e w' => IdxIs e (firstOver n (qs.map Pk.say)) ∧ Below w.heap.size w w' := by
  have Q0 := Aside0.mk hq
  have N0 := Aside0.mk hn
  have B0 := Aside0.mk (Below.refl w.heap.size w)
  clear hq hn
  unfold ackFn
  go_enter Tryd.func42, Tryd.ntmps42
  go_wp2
  go_loopg [5, 8] qs.length (fun kq v5 v8 w' => ∃ (i : Nat), i ≤ qs.length ∧ v8 = .int .i64 (i : Int) ∧ Aside0 (kq = qs.length - i) ∧ Aside0 (∀ j (h : j < qs.length), j < i → (qs[j]).num ≤ n) ∧ Aside0 (Below w.heap.size w w'))
  case atStart => exact ⟨0, by omega, rfl, ⟨rfl⟩, ⟨fun _ _ h => by omega⟩, B0⟩
  case round =>
    clear B0
    obtain ⟨i, hi, rfl, HK, HZ, B1⟩ := hrel
    by_cases hlt : i < qs.length
    · have zt : 0 ≤ (i : Int) := by omega
      have lt : (i : Int) < (qs.length : Int) := by omega
      obtain ⟨gr, off, hA⟩ := row_at Q0.out (by omega)
      subst hA
      go_wp2_with ((with_reducible refine gate_dst (N := 15) rfl ?_); refine stop_here ?_)
      refine ⟨?_⟩
      refine wpList_load_mid rfl 37 (.tmp 14) rfl gr (off + i * 4) rfl (Pk.cells (qs[i])) _ (pk_range (qi_below Q0.out B1.out) i hlt) Tryd.underlying37 rfl ?hi ?_
      case hi => rfl
      obtain ⟨x, hx⟩ : ∃ x, qs[i] = x := ⟨_, rfl⟩
      have HX := Aside0.mk hx
      have HLT := Aside0.mk hlt
      rw [hx]
      clear hx
      go_wp2_with (go_at_call 43; refine stop_here ?_)
      refine ⟨?_⟩
      refine (ackclo_calls _ nb n x (blk_below N0.out B1.out)).mono ?_
      rintro e w2 ⟨rfl, hb⟩
      have B2 := Aside0.mk (below_step B1.out hb)
      clear hb B1
      by_cases hz : n < x.num
      · rw [decide_eq_true hz]
        have E : Aside0 (firstOver n (qs.map Pk.say) = some i) := ⟨over_some (by rw [List.length_map]; exact hlt) (by rw [List.getElem_map, HX.out]; exact hz) (fun j hj => by rw [List.getElem_map]; exact Int.not_lt.2 (HZ.out j (by have := HLT.out; omega) hj))⟩
        clear hz
        go_wp2
        go_ret
        rw [E.out]
        exact ⟨rfl, B2.out⟩
      · rw [decide_eq_false hz]
        have HZ2 := Aside0.mk (show ∀ j (h : j < qs.length), j < i + 1 → (qs[j]).num ≤ n from fun j h hj => by
          by_cases e : j = i
          · subst e; rw [HX.out]; exact Int.not_lt.1 hz
          · exact HZ.out j h (by omega))
        clear hz
        go_wp2
        go_roundg (qs.length - i - 1)
        case measure => have := HK.out; have := HLT.out; omega
        case rel => exact ⟨i + 1, by have := HLT.out; omega, by go_num, ⟨by omega⟩, HZ2, B2⟩
    · have HI : Aside0 (i = qs.length) := ⟨by omega⟩
      have lt : ¬ (i : Int) < (qs.length : Int) := by omega
      have E : Aside0 (firstOver n (qs.map Pk.say) = none) := ⟨over_none (fun j hj => by rw [List.getElem_map]; exact Int.not_lt.2 (HZ.out j (by rw [List.length_map] at hj; exact hj) (by rw [List.length_map] at hj; have := HI.out; omega)))⟩
      go_wp2
      go_ret
      rw [E.out]
      exact ⟨rfl, B1.out⟩
theorem pk_raw {w : World} {B : Nat} {A : Option Addr} {c : Nat} {gs : List Pk} (hq : QRow w B 37 4 (.slice A gs.length c) gs.length (pkCells gs)) : (Kd.raw 4).C w A gs.length (gs.map Pk.cells) := by
  refine ⟨List.length_map _, q_max hq, fun hn => ?_⟩
  obtain ⟨ad, rfl, hc⟩ := q_cells hq hn
  refine ⟨ad, rfl, fun j p hj => ?_⟩
  rw [List.getElem?_map] at hj
  have hjl : j < gs.length := by
    by_cases h : j < gs.length
    · exact h
    · rw [List.getElem?_eq_none (by omega)] at hj; cases hj
  rw [List.getElem?_eq_getElem hjl] at hj
  injection hj with hj
  subst hj
  refine ⟨Pk.cells gs[j], rfl, ⟨rfl, rfl, pk_one _⟩, fun i u hi => ?_⟩
  have hi4 : i < 4 := (List.getElem?_eq_some_iff.1 hi).1
  exact hc (j * 4 + i) u (by rw [pkCells_at gs j hjl i hi4]; exact hi)
theorem raw_row {w : World} {B : Nat} {ok : Nat → Prop} {v : Value} {gs : List Pk} (h : (Kd.raw 4).R 37 w B ok v (gs.map Pk.cells)) : QRow w B 37 4 v gs.length (pkCells gs) := by
  obtain ⟨_, inner, hown, hrep⟩ := h
  have hq := q_of_own hown
  rw [List.length_map] at hq
  have e : pkCells gs = inner := cells_list gs inner hq.1 (fun j hj => (hrep.2 j (gs[j]).cells (by rw [List.getElem?_map, List.getElem?_eq_getElem hj]; rfl)).1)
  rw [e]
  exact hq
/-- A row of packs, copied. -/
def RowIs (w : World) (B : Nat) (e : Ending) (qs : List Pk) : Prop := ∃ v, e = .returned v ∧ QRow w B 37 4 v qs.length (pkCells qs)
set_option maxHeartbeats 4000000 in
set_option maxRecDepth 100000 in
theorem clonep_calls (w : World) (base c : Nat) (A : Option Addr) (qs : List Pk) (hq : QRow w base 37 4 (.slice A qs.length c) qs.length (pkCells qs)) (hl : qs.length ≤ 100000) :
    Calls Tryd.prog 44 #[.slice A qs.length c] w fun e w' => RowIs w' w.heap.size e qs ∧ Below w.heap.size w w' := by
  have Q0 := Aside0.mk hq
  have B0 := Aside0.mk (Below.refl w.heap.size w)
  clear hq
  have hq := fun (W : World) => Lib.run_eql_slice_nil (P := Tryd.prog) W 28 37 A qs.length c 0 0 Tryd.underlying28
  cases A with
  | none =>
    have HQ := Aside0.mk hq
    clear hq
    have h0 : qs.length = 0 := by
      by_cases h : 0 < qs.length
      · obtain ⟨gr, off, e⟩ := row_at Q0.out h
        cases e
      · omega
    obtain rfl := List.length_eq_zero_iff.1 h0
    clear h0 HQ
    have hq := fun (W : World) => Lib.run_eql_slice_nil (P := Tryd.prog) W 28 37 none 0 c 0 0 Tryd.underlying28
    show Calls _ _ #[.slice none 0 c] _ _
    go_enter Tryd.func44, Tryd.ntmps44
    go_wp2
    go_ret
    exact ⟨⟨_, rfl, ⟨rfl, .inl ⟨rfl, none, rfl, fun a ha => by cases ha⟩⟩⟩, B0.out⟩
  | some ad =>
    go_enter Tryd.func44, Tryd.ntmps44
    go_wp2_with ((with_reducible refine gate_dst (N := 5) rfl ?_); refine stop_here ?_)
    refine ⟨?_⟩
    refine Kd.R_lit (Kd.raw 4) (w0 := w) w.heap.size 37 rfl (N := 5) rfl (xs := ([] : List (List Value))) (inner := []) (ok := fun _ => True) (okp := fun _ => True) ?hr5 ⟨rfl, fun j p h => by simp at h⟩ (fun _ _ => trivial) trivial (Below.refl _ _) (Nat.le_refl _) (by decide) ?_
    case hr5 => first | (go_simp; done) | (go_simp; rfl)
    intro v5 w1 hR hb hg _
    have R1 := Aside0.mk hR
    have B1 := Aside0.mk hb
    clear hR hb hg
    go_wp2_with (at_builtin; refine stop_here ?_)
    refine ⟨?_⟩
    refine Kd.R_append_rows (Kd.raw 4) (w0 := w) w.heap.size rfl (.tmp 5) (.tmp 6) 28 37 (.agg ⟨pk0.cells⟩) 48 rfl Tryd.underlying28 infoPk rfl (by decide) (by omega) v5 [] (qs.map Pk.cells) (some ad) qs.length c (fun _ => True) (fun _ => False) rfl rfl R1.out (pk_raw (qi_below Q0.out B1.out)) (fun _ _ h => h) (fun _ h => h.elim) (fun _ _ => trivial) B1.out B1.out.size ?hl ?_
    case hl => simp; omega
    intro v6 w2 hR hb hg _
    rw [List.nil_append] at hR
    have R2 := Aside0.mk (raw_row hR)
    have B2 := Aside0.mk hb
    clear hR hb hg
    go_wp2
    go_ret
    exact ⟨⟨_, rfl, R2.out⟩, B2.out⟩
end Go.Proofs.YtafjegfmmnjpfaaDoor.LineT

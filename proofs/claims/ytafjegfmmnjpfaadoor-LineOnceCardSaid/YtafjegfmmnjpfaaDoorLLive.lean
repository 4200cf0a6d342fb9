/- Proved: the protocol between two lines, in plain Lean: sending, ticks, and that all comes in the end; conditions: the theorems' own premises. -/
import Derived.Test.YtafjegfmmnjpfaaDoorLProto
import Derived.Test.YtafjegfmmnjpfaaDoorLSent
namespace Go.Proofs.YtafjegfmmnjpfaaDoor.LineT
open Go.RowKit Go.Proofs.YtafjegfmmnjpfaaDoor.YLine Go.Proofs.YtafjegfmmnjpfaaDoorW.PrintWords Go.Proofs.YtafjegfmmnjpfaaDoorW.PrintLast Go.Proofs.YtafjegfmmnjpfaaDoorW.PrintMore
set_option linter.unusedVariables false
set_option linter.unusedSimpArgs false
theorem numFrom_at (n : Int) (ps : List P4) (i : Nat) : (numFrom n ps)[i]? = (ps[i]?).map fun p => ⟨p.f0, n + i + 1, p.f2, p.f3⟩ := by
  induction ps generalizing n i with
  | nil => rfl
  | cons p ps ih =>
    cases i with
    | zero => simp [numFrom]
    | succ i =>
      simp only [numFrom, List.getElem?_cons_succ, ih]
      congr 1
      funext x
      congr 1
      push_cast
      omega
/-- A message's pieces, with their numbers. -/
def msgP (n : Int) (msg : List Int) : List P4 := numFrom n (Chunk.cutL msg)
theorem msgP_length (n : Int) (msg : List Int) : (msgP n msg).length = (msg.length + 63) / 64 := by unfold msgP; rw [numFrom_length, cutL_length]
theorem msgP_at (n : Int) (msg : List Int) (j : Nat) (hj : j < (msg.length + 63) / 64) : (msgP n msg)[j]? = some ⟨0, n + j + 1, decide (j + 1 = (msg.length + 63) / 64), Chunk.chunk msg j⟩ := by
  unfold msgP
  rw [numFrom_at]
  unfold Chunk.cutL
  rw [List.getElem?_map, List.getElem?_range hj]
  rfl
theorem dec_msg {P : List P4} {msgs : List (List Int)} {msg : List Int} (n : Int) (hw : dec P = (msgs, [])) (h1 : 1 ≤ msg.length) : ∀ j, j ≤ (msg.length + 63) / 64 →
    dec (P ++ (msgP n msg).take j) = if j = (msg.length + 63) / 64 then (msgs ++ [msg], []) else (msgs, msg.take (64 * j)) := by
  intro j
  induction j with
  | zero =>
    intro hj
    rw [if_neg (by omega), List.take_zero, List.append_nil, hw, Nat.mul_zero, List.take_zero]
  | succ j ih =>
    intro hj
    have hlt : j < (msgP n msg).length := by rw [msgP_length]; omega
    have he := msgP_at n msg j (by omega)
    rw [List.getElem?_eq_getElem hlt] at he
    rw [List.take_succ_eq_append_getElem hlt, Option.some.inj he, ← List.append_assoc, dec_snoc, ih (by omega), if_neg (by omega)]
    unfold decStep
    have ht : msg.take (64 * j) ++ Chunk.chunk msg j = msg.take (64 * (j + 1)) := by
      unfold Chunk.chunk
      rw [show 64 * (j + 1) = 64 * j + 64 by omega, List.take_add]
    by_cases e : j + 1 = (msg.length + 63) / 64
    · rw [if_pos (by simpa using e), if_pos e, ht, List.take_of_length_le (show msg.length ≤ 64 * (j + 1) by omega)]
    · rw [if_neg (by simpa using e), if_neg e, ht]
/-- The receiver's part of a line stays. -/
structure SameRecv (b b2 : LS) : Prop where
  await : b2.await = b.await
  coming : b2.coming = b.coming
  kept : b2.kept = b.kept
/-- Bounds of a line's times. -/
structure Tm (a : LS) : Prop where
  w0 : 1 ≤ a.wait
  w1 : a.wait ≤ 16
  l0 : 0 ≤ a.left
  l1 : a.left ≤ 16
theorem send_ok {P : List P4} {d : Nat} {a : LS} {msgs : List (List Int)} {msg : List Int} (hP : Pieces P) (hS : Sendr P d a) (hw : dec P = (msgs, [])) (h1 : 1 ≤ msg.length) (h2 : msg.length ≤ 600) (hc : P.length + 10 ≤ 100) (ht : Tm a) :
    sendE a msg = none ∧ ∃ P2, Pieces P2 ∧ Sendr P2 d (sendS a msg) ∧ dec P2 = (msgs ++ [msg], []) ∧ P2.length ≤ P.length + 10 ∧ (∃ Q, P2 = P ++ Q) ∧ SameRecv a (sendS a msg) ∧ Tm (sendS a msg) ∧ (sendS a msg).owes = a.owes := by
  have hql : a.queue.length ≤ P.length := by rw [hS.queue, List.length_drop]; omega
  have hE : sendE a msg = none := sendE_of h1 (by omega) (by omega)
  have hput := sendS_none hE
  have hml := msgP_length (P.length : Int) msg
  refine ⟨hE, P ++ msgP (P.length : Int) msg, ⟨?_, ?_, ?_, ?_⟩, ?_, ?_, ?_, ⟨_, rfl⟩, ?_, ?_, ?_⟩
  · intro i q hq
    by_cases hi : i < P.length
    · rw [List.getElem?_append_left hi] at hq
      exact hP.num i q hq
    · rw [List.getElem?_append_right (by omega)] at hq
      have hl := (List.getElem?_eq_some_iff.1 hq).1
      rw [msgP_at _ _ _ (by omega)] at hq
      injection hq with hq
      subst hq
      show (P.length : Int) + ((i - P.length : Nat) : Int) + 1 = _
      omega
  · intro i q hq
    by_cases hi : i < P.length
    · rw [List.getElem?_append_left hi] at hq
      exact hP.fit i q hq
    · rw [List.getElem?_append_right (by omega)] at hq
      have hl := (List.getElem?_eq_some_iff.1 hq).1
      rw [msgP_at _ _ _ (by omega)] at hq
      injection hq with hq
      subst hq
      show 1 ≤ (Chunk.chunk msg _).length ∧ (Chunk.chunk msg _).length ≤ 64 ∧ (decide _ = false → (Chunk.chunk msg _).length = 64)
      rw [Chunk.chunk_length]
      unfold Chunk.size
      refine ⟨by omega, by omega, fun e => ?_⟩
      have e := of_decide_eq_false e
      omega
  · intro i
    by_cases hi : i ≤ P.length
    · rw [List.take_append_of_le_length hi]
      exact hP.short i
    · rw [List.take_append, List.take_of_length_le (by omega)]
      by_cases hj : i - P.length ≤ (msg.length + 63) / 64
      · rw [dec_msg _ hw h1 _ hj]
        split
        · show 0 ≤ 700; omega
        · show (msg.take _).length ≤ 700; rw [List.length_take]; omega
      · rw [List.take_of_length_le (by omega)]
        have h3 := dec_msg (P.length : Int) hw h1 ((msg.length + 63) / 64) (Nat.le_refl _)
        rw [List.take_of_length_le (by omega), if_pos rfl] at h3
        rw [h3]
        show 0 ≤ 700
        omega
  · rw [List.length_append, hml]; omega
  · rw [hput]
    refine ⟨?_, ?_, by rw [List.length_append]; have := hS.le; omega⟩
    · show a.given + ((Chunk.cutL msg).length : Int) = _
      rw [hS.given, List.length_append, hml, cutL_length]
      omega
    · show a.queue ++ numFrom a.given (Chunk.cutL msg) = _
      rw [hS.queue, hS.given, List.drop_append_of_le_length hS.le]
      rfl
  · have h3 := dec_msg (P.length : Int) hw h1 ((msg.length + 63) / 64) (Nat.le_refl _)
    rw [List.take_of_length_le (by omega), if_pos rfl] at h3
    exact h3
  · rw [List.length_append, hml]; omega
  · rw [hput]
    unfold putS resetS
    split <;> exact ⟨rfl, rfl, rfl⟩
  · rw [hput]
    unfold putS resetS
    split
    · exact ⟨by show (1 : Int) ≤ 1; omega, by show (1 : Int) ≤ 16; omega, by show (0 : Int) ≤ 0; omega, by show (0 : Int) ≤ 16; omega⟩
    · exact ⟨ht.w0, ht.w1, ht.l0, ht.l1⟩
  · rw [hput]
    unfold putS resetS
    split <;> rfl
theorem Pieces.pre {P Q : List P4} (h : Pieces (P ++ Q)) : Pieces P :=
  ⟨fun i q hq => h.num i q (by rw [List.getElem?_append_left (List.getElem?_eq_some_iff.1 hq).1]; exact hq), fun i q hq => h.fit i q (by rw [List.getElem?_append_left (List.getElem?_eq_some_iff.1 hq).1]; exact hq), fun i => by
    by_cases hi : i ≤ P.length
    · have := h.short i
      rwa [List.take_append_of_le_length hi] at this
    · have := h.short P.length
      rw [List.take_append_of_le_length (Nat.le_refl _)] at this
      rw [List.take_of_length_le (by omega)]
      rwa [List.take_of_length_le (Nat.le_refl _)] at this, by have := h.cnt; rw [List.length_append] at this; omega⟩
theorem Like.more {P Q : List P4} {i : Nat} {p : P4} (h : Like P i p) : Like (P ++ Q) i p := by
  obtain ⟨q, hq, h⟩ := h
  exact ⟨q, by rw [List.getElem?_append_left (List.getElem?_eq_some_iff.1 hq).1]; exact hq, h⟩
theorem Recv.more {P Q : List P4} {r lo : Nat} {b : LS} {out : List (List Int)} (h : Recv P r lo b out) : Recv (P ++ Q) r lo b out :=
  ⟨h.await, by rw [List.length_append]; have := h.le; omega, by rw [List.take_append_of_le_length h.le]; exact h.told, fun p hp => by
    obtain ⟨i, h1, h2⟩ := h.kept p hp
    exact ⟨i, h1.more, h2⟩, h.nodup⟩
theorem Fine.more {P Q : List P4} {n : Nat} {p : P4} (h : Fine P n p) : Fine (P ++ Q) n p := ⟨h.ack, h.body.imp id fun ⟨i, h⟩ => ⟨i, h.more⟩⟩
/-! ### ticks -/
theorem tick_same (L : LS) : SameRecv L (tickS L) ∧ (tickS L).queue = L.queue ∧ (tickS L).given = L.given ∧ (tickS L).owes = false := by
  unfold tickS afterS left1S
  split <;> split <;> exact ⟨⟨rfl, rfl, rfl⟩, rfl, rfl, rfl⟩
theorem tick_tm {L : LS} (h : Tm L) : Tm (tickS L) := by
  obtain ⟨h1, h2, h3, h4⟩ := h
  unfold tickS afterS left1S
  split <;> split <;> constructor <;> first | (show _ ≤ _; simp only; omega)
theorem tick_fine {P P' : List P4} (hP : Pieces P) {d r : Nat} {a : LS} {out : List (List Int)} (hS : Sendr P d a) (hR : Recv P' r (r + 1) a out) : ∀ p ∈ tickOutS a, Fine P r p := by
  have haw : (afterS (left1S a)).await - 1 = (r : Int) ∧ (left1S a).await - 1 = (r : Int) ∧ (left1S a).queue = a.queue := by
    have h := hR.await
    unfold afterS left1S
    split <;> split <;> refine ⟨?_, ?_, rfl⟩ <;> first | omega | (show a.await - 1 = (r : Int); omega)
  have hfirst : ∀ p ∈ firstS (left1S a), Fine P r p := fun p hp => by
    unfold firstS at hp
    split at hp
    · obtain ⟨q, hq, rfl⟩ := List.mem_map.1 hp
      have hq2 := List.mem_of_mem_take hq
      rw [haw.2.2, hS.queue] at hq2
      obtain ⟨j, hj⟩ := List.getElem?_of_mem hq2
      rw [List.getElem?_drop] at hj
      have hn := hP.num _ _ hj
      exact ⟨haw.2.1, .inr ⟨d + j, q, hj, hn, rfl, rfl⟩⟩
    · cases hp
  intro p hp
  unfold tickOutS outS at hp
  split at hp
  · obtain rfl := List.mem_singleton.1 hp
    exact ⟨haw.1, .inl ⟨rfl, rfl, rfl⟩⟩
  · exact hfirst p hp
theorem tick_lok {P P' : List P4} (hP : Pieces P) {d r lo : Nat} {a : LS} {out : List (List Int)} (hS : Sendr P d a) (hR : Recv P' r lo a out) (hP' : Pieces P') (ht : Tm a) : LOk a := by
  have h1 := hR.await
  have h2 := hR.le
  have h3 := hP'.cnt
  refine ⟨by omega, by omega, ht.w0, ht.w1, ht.l0, ht.l1, by rw [hS.queue, List.length_drop]; have := hP.cnt; omega, fun p hp => ?_⟩
  rw [hS.queue] at hp
  obtain ⟨j, hj⟩ := List.getElem?_of_mem hp
  rw [List.getElem?_drop] at hj
  have := (hP.fit _ _ hj).2.1
  omega
theorem hear_bounds {P : List P4} (hP : Pieces P) {r : Nat} {b : LS} {out : List (List Int)} (h : Recv P r (r + 1) b out) : b.coming.length ≤ 1000000 ∧ (∀ p ∈ b.kept, p.f3.length ≤ 1000000) ∧ 0 ≤ b.await ∧ b.kept.length ≤ 90000 ∧ b.await ≤ 2305843009213693952 := by
  have h1 := hP.short r
  rw [h.told] at h1
  have h2 := h.few (by omega)
  have h3 := h.await
  have h4 := h.le
  have h5 := hP.cnt
  have h1' : b.coming.length ≤ 700 := h1
  refine ⟨by omega, fun p hp => ?_, by omega, by omega, by omega⟩
  obtain ⟨i, hl, _⟩ := h.kept p hp
  have := (hl.fit hP).2.1
  omega
end Go.Proofs.YtafjegfmmnjpfaaDoor.LineT

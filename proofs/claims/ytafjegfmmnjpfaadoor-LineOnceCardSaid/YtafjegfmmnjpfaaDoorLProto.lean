/- Proved: the protocol between two lines, in plain Lean: what was heard is a beginning of what was sent; conditions: the theorems' own premises. -/
import Derived.Test.YtafjegfmmnjpfaaDoorLSame
namespace Go.Proofs.YtafjegfmmnjpfaaDoor.LineT
open Go.RowKit Go.Proofs.YtafjegfmmnjpfaaDoor.YLine Go.Proofs.YtafjegfmmnjpfaaDoorW.PrintWords Go.Proofs.YtafjegfmmnjpfaaDoorW.PrintLast Go.Proofs.YtafjegfmmnjpfaaDoorW.PrintMore
set_option linter.unusedVariables false
set_option linter.unusedSimpArgs false
def decStep (s : List (List Int) × List Int) (p : P4) : List (List Int) × List Int := if p.f2 = true then (s.1 ++ [s.2 ++ p.f3], []) else (s.1, s.2 ++ p.f3)
/-- What pieces tell: the messages, and what is still coming. -/
def dec (ps : List P4) : List (List Int) × List Int := ps.foldl decStep ([], [])
theorem dec_snoc (ps : List P4) (p : P4) : dec (ps ++ [p]) = decStep (dec ps) p := by unfold dec; rw [List.foldl_append]; rfl
/-- All pieces that a line sent. -/
structure Pieces (P : List P4) : Prop where
  num : ∀ (i : Nat) (q : P4), P[i]? = some q → q.f1 = (i : Int) + 1
  fit : ∀ (i : Nat) (q : P4), P[i]? = some q → 1 ≤ q.f3.length ∧ q.f3.length ≤ 64 ∧ (q.f2 = false → q.f3.length = 64)
  short : ∀ i : Nat, (dec (P.take i)).2.length ≤ 700
  cnt : P.length ≤ 100
/-- A pack is the piece at i. -/
def Like (P : List P4) (i : Nat) (p : P4) : Prop := ∃ q, P[i]? = some q ∧ p.f1 = (i : Int) + 1 ∧ p.f2 = q.f2 ∧ p.f3 = q.f3
theorem Like.lt {P : List P4} {i : Nat} {p : P4} (h : Like P i p) : i < P.length := by
  obtain ⟨q, hq, _⟩ := h
  exact (List.getElem?_eq_some_iff.1 hq).1
theorem Like.fit {P : List P4} (hP : Pieces P) {i : Nat} {p : P4} (h : Like P i p) : 1 ≤ p.f3.length ∧ p.f3.length ≤ 64 ∧ (p.f2 = false → p.f3.length = 64) := by
  obtain ⟨q, hq, _, h2, h3⟩ := h
  rw [h2, h3]
  exact hP.fit i q hq
/-- What a line heard: r pieces, the messages out; what is kept lies behind. -/
structure Recv (P : List P4) (r lo : Nat) (b : LS) (out : List (List Int)) : Prop where
  await : b.await = (r : Int) + 1
  le : r ≤ P.length
  told : dec (P.take r) = (out, b.coming)
  kept : ∀ p ∈ b.kept, ∃ i, Like P i p ∧ lo ≤ i ∧ i < r + 8
  nodup : (b.kept.map fun p => p.f1).Nodup
/-- What a line sent: the pieces from d on wait. -/
structure Sendr (P : List P4) (d : Nat) (a : LS) : Prop where
  given : a.given = (P.length : Int)
  queue : a.queue = P.drop d
  le : d ≤ P.length
theorem fndS_none {n : Int} {l : List P4} (h : fndS n l = none) : ∀ p ∈ l, p.f1 ≠ n := by
  induction l with
  | nil => intro p hp; cases hp
  | cons a l ih =>
    unfold fndS at h
    split at h
    · cases h
    · rename_i hn
      have h2 : fndS n l = none := by
        cases hf : fndS n l with
        | none => rfl
        | some j => rw [hf] at h; cases h
      intro p hp
      rcases List.mem_cons.1 hp with rfl | hp
      · exact hn
      · exact ih h2 p hp
theorem fndS_some {n : Int} {l : List P4} {j : Nat} (h : fndS n l = some j) : ∃ p, l[j]? = some p ∧ p.f1 = n := by
  induction l generalizing j with
  | nil => cases h
  | cons a l ih =>
    unfold fndS at h
    split at h
    · rename_i hn
      injection h with h
      subst h
      exact ⟨a, rfl, hn⟩
    · obtain ⟨k, hk, rfl⟩ := Option.map_eq_some_iff.1 h
      obtain ⟨p, h1, h2⟩ := ih hk
      exact ⟨p, by simpa using h1, h2⟩
theorem fndS_is {n : Int} {l : List P4} (h : ∃ p ∈ l, p.f1 = n) : ∃ j, fndS n l = some j := by
  cases hf : fndS n l with
  | some j => exact ⟨j, rfl⟩
  | none =>
    obtain ⟨p, hp, e⟩ := h
    exact absurd e (fndS_none hf p hp)
theorem nodup_erase {l : List P4} {j : Nat} {p : P4} (h : (l.map fun p => p.f1).Nodup) (hj : l[j]? = some p) : ∀ x ∈ l.eraseIdx j, x.f1 ≠ p.f1 := by
  induction l generalizing j with
  | nil => intro x hx; simp at hx
  | cons a l ih =>
    rw [List.map_cons, List.nodup_cons] at h
    cases j with
    | zero =>
      simp only [List.getElem?_cons_zero, Option.some.injEq] at hj
      subst hj
      intro x hx e
      have hx' : x ∈ l := by simpa using hx
      exact h.1 (by rw [← e]; exact List.mem_map_of_mem hx')
    | succ j =>
      have hj' : l[j]? = some p := by simpa using hj
      intro x hx e
      have hx' : x ∈ a :: l.eraseIdx j := by simpa using hx
      rcases List.mem_cons.1 hx' with rfl | hx'
      · exact h.1 (by rw [e]; exact List.mem_map_of_mem (List.mem_of_getElem? hj'))
      · exact ih h.2 hj' x hx' e
theorem nodup_bound : ∀ (n : Nat) (l : List Int), l.Nodup → (∀ x ∈ l, 0 ≤ x ∧ x < (n : Int)) → l.length ≤ n
  | 0, l, _, h => by
    cases l with
    | nil => simp
    | cons a l => have := h a (List.mem_cons_self); omega
  | n + 1, l, hn, h => by
    by_cases hm : (n : Int) ∈ l
    · have h1 := List.length_erase_of_mem hm
      have h2 := nodup_bound n (l.erase (n : Int)) (hn.erase _) (fun x hx => by
        have h3 := (hn.mem_erase_iff.1 hx)
        have h4 := h x h3.2
        have h5 := h3.1
        omega)
      omega
    · have h2 := nodup_bound n l hn (fun x hx => by
        have h4 := h x hx
        have h5 : x ≠ (n : Int) := fun e => hm (e ▸ hx)
        omega)
      omega
theorem Recv.few {P : List P4} {r lo : Nat} {b : LS} {out : List (List Int)} (h : Recv P r lo b out) (hlo : r ≤ lo) : b.kept.length ≤ 8 := by
  have e : b.kept.length = (b.kept.map fun p => p.f1 - ((r : Int) + 1)).length := by rw [List.length_map]
  rw [e]
  refine nodup_bound 8 _ ?_ ?_
  · have h1 := h.nodup
    unfold List.Nodup at h1 ⊢
    rw [List.pairwise_map] at h1 ⊢
    exact h1.imp fun hx e => hx (by omega)
  · intro x hx
    obtain ⟨p, hp, rfl⟩ := List.mem_map.1 hx
    obtain ⟨i, ⟨q, _, h2, _⟩, h3, h4⟩ := h.kept p hp
    omega
structure SameSend (b b2 : LS) : Prop where
  queue : b2.queue = b.queue
  given : b2.given = b.given
  wait : b2.wait = b.wait
  left : b2.left = b.left
  owes : b2.owes = b.owes
theorem SameSend.refl (b : LS) : SameSend b b := ⟨rfl, rfl, rfl, rfl, rfl⟩
theorem SameSend.trans {a b c : LS} (h : SameSend a b) (k : SameSend b c) : SameSend a c := ⟨k.1.trans h.1, k.2.trans h.2, k.3.trans h.3, k.4.trans h.4, k.5.trans h.5⟩
theorem drain_ok {P : List P4} (hP : Pieces P) : ∀ (n r : Nat) (b : LS) (out ms : List (List Int)), Recv P r r b out → b.kept.length ≤ n →
    ∃ r2 b2 new, drainF n b ms = (b2, ms ++ new, none) ∧ Recv P r2 (r2 + 1) b2 (out ++ new) ∧ r ≤ r2 ∧ SameSend b b2 ∧ ((∃ p ∈ b.kept, p.f1 = (r : Int) + 1) → r < r2) := by
  intro n
  induction n with
  | zero =>
    intro r b out ms h hn
    have hk : b.kept = [] := List.eq_nil_of_length_eq_zero (by omega)
    refine ⟨r, b, [], by rw [List.append_nil]; rfl, ?_, Nat.le_refl _, SameSend.refl b, fun ⟨p, hp, _⟩ => ?_⟩
    · rw [List.append_nil]
      exact ⟨h.await, h.le, h.told, fun p hp => (by rw [hk] at hp; cases hp), h.nodup⟩
    · rw [hk] at hp; cases hp
  | succ n ih =>
    intro r b out ms h hn
    cases hf : fndS b.await b.kept with
    | none =>
      have hno := fndS_none hf
      rw [h.await] at hno
      refine ⟨r, b, [], ?_, ?_, Nat.le_refl _, SameSend.refl b, fun ⟨p, hp, e⟩ => absurd e (hno p hp)⟩
      · rw [List.append_nil]
        unfold drainF
        rw [hf]
      · rw [List.append_nil]
        refine ⟨h.await, h.le, h.told, fun p hp => ?_, h.nodup⟩
        obtain ⟨i, h1, h2, h3⟩ := h.kept p hp
        refine ⟨i, h1, ?_, h3⟩
        by_cases e : i = r
        · subst e
          obtain ⟨q, _, h5, _⟩ := h1
          exact absurd h5 (hno p hp)
        · omega
    | some j =>
      obtain ⟨p, hp, hpn⟩ := fndS_some hf
      have hpm := List.mem_of_getElem? hp
      obtain ⟨i, hl, h2, h3⟩ := h.kept p hpm
      have hfit := hl.fit hP
      obtain ⟨q, hq, h4, h5, h6⟩ := hl
      have hi : i = r := by have := h.await; omega
      subst hi
      have hlt := (List.getElem?_eq_some_iff.1 hq).1
      have htake : P.take (i + 1) = P.take i ++ [q] := by
        rw [List.take_succ_eq_append_getElem hlt, (List.getElem?_eq_some_iff.1 hq).2]
      have hc : b.coming.length ≤ 700 := by
        have := hP.short i
        rw [h.told] at this
        exact this
      have hlen : (b.kept.eraseIdx j).length ≤ n := by
        rw [List.length_eraseIdx, if_pos (List.getElem?_eq_some_iff.1 hp).1]
        omega
      have hdec : dec (P.take (i + 1)) = decStep (out, b.coming) q := by rw [htake, dec_snoc, h.told]
      have hK : ∀ x ∈ b.kept.eraseIdx j, ∃ k, Like P k x ∧ i + 1 ≤ k ∧ k < i + 1 + 8 := fun x hx => by
        obtain ⟨k, hk, h8, h9⟩ := h.kept x (List.mem_of_mem_eraseIdx hx)
        refine ⟨k, hk, ?_, by omega⟩
        have h10 := nodup_erase h.nodup hp x hx
        obtain ⟨_, _, h11, _⟩ := hk
        have : k ≠ i := fun e => h10 (by rw [h11, h4, e])
        omega
      have hN : ((b.kept.eraseIdx j).map fun p => p.f1).Nodup := h.nodup.sublist ((List.eraseIdx_sublist _ _).map _)
      rw [drainF_step hf hp, if_neg (by omega)]
      cases hlast : p.f2 with
      | true =>
        rw [if_pos rfl]
        have hR : Recv P (i + 1) (i + 1) { b with kept := b.kept.eraseIdx j, await := b.await + 1, coming := [] } (out ++ [b.coming ++ p.f3]) := by
          refine ⟨by show b.await + 1 = _; rw [h.await]; omega, hlt, ?_, hK, hN⟩
          rw [hdec]
          unfold decStep
          rw [if_pos (by rw [← h5]; exact hlast), h6]
        obtain ⟨r2, b2, new, e1, e2, e3, e4, _⟩ := ih (i + 1) _ _ (ms ++ [b.coming ++ p.f3]) hR hlen
        refine ⟨r2, b2, (b.coming ++ p.f3) :: new, by rw [e1, List.append_assoc]; rfl, ?_, by omega, ⟨e4.1, e4.2, e4.3, e4.4, e4.5⟩, fun _ => by omega⟩
        have : out ++ (b.coming ++ p.f3) :: new = out ++ [b.coming ++ p.f3] ++ new := by rw [List.append_assoc]; rfl
        rw [this]
        exact e2
      | false =>
        rw [if_neg (by decide)]
        have hR : Recv P (i + 1) (i + 1) { b with kept := b.kept.eraseIdx j, await := b.await + 1, coming := b.coming ++ p.f3 } out := by
          refine ⟨by show b.await + 1 = _; rw [h.await]; omega, hlt, ?_, hK, hN⟩
          rw [hdec]
          unfold decStep
          rw [if_neg (by rw [← h5, hlast]; decide), h6]
        obtain ⟨r2, b2, new, e1, e2, e3, e4, _⟩ := ih (i + 1) _ _ ms hR hlen
        exact ⟨r2, b2, new, e1, e2, by omega, ⟨e4.1, e4.2, e4.3, e4.4, e4.5⟩, fun _ => by omega⟩
/-- An acknowledgment takes the pieces below off. -/
theorem ack_ok {P : List P4} (hP : Pieces P) {d n : Nat} {a : LS} (h : Sendr P d a) (hn : n ≤ P.length) :
    Sendr P (max d n) (ackS a (n : Int)) ∧ (ackS a (n : Int)).owes = a.owes ∧ (ackS a (n : Int)).wait = (if d < n then 1 else a.wait) ∧ (ackS a (n : Int)).left = (if d < n then 0 else a.left) := by
  have hq := h.queue
  have hlen : a.queue.length = P.length - d := by rw [hq, List.length_drop]
  have hat : ∀ j (hj : j < a.queue.length), (a.queue[j]).f1 = ((d + j : Nat) : Int) + 1 := fun j hj => by
    have h1 : a.queue[j]? = P[d + j]? := by rw [hq, List.getElem?_drop]
    rw [List.getElem?_eq_getElem hj] at h1
    exact hP.num _ _ h1.symm
  have hk : ackK a (n : Int) = n - d := by
    unfold ackK
    by_cases hnl : n < P.length
    · have hd : n - d < a.queue.length ∨ n < d := by
        have := h.le
        by_cases e : n < d
        · exact .inr e
        · exact .inl (by omega)
      by_cases hdn : d ≤ n
      · rw [over_some (k := n - d) (by omega) (by rw [hat _ (by omega)]; omega) (fun j hj => by rw [hat j (by omega)]; omega)]
        rfl
      · by_cases hq0 : 0 < a.queue.length
        · rw [over_some (k := 0) hq0 (by rw [hat 0 hq0]; omega) (fun j hj => by omega)]
          show 0 = _
          omega
        · have e0 : a.queue = [] := List.eq_nil_of_length_eq_zero (by omega)
          rw [e0]
          show 0 = _
          omega
    · rw [over_none (fun j hj => by rw [hat j hj]; omega)]
      show a.queue.length = _
      omega
  unfold ackS
  rw [hk]
  by_cases hz : n ≤ d
  · rw [if_pos (by omega), if_neg (by omega), if_neg (by omega), Nat.max_eq_left hz]
    exact ⟨h, rfl, rfl, rfl⟩
  · rw [if_neg (by omega), if_pos (by omega), if_pos (by omega), Nat.max_eq_right (by omega)]
    refine ⟨⟨h.given, ?_, hn⟩, rfl, rfl, rfl⟩
    show a.queue.drop (n - d) = _
    rw [hq, List.drop_drop, show d + (n - d) = n by omega]
theorem Recv.of {P : List P4} {r lo : Nat} {b b2 : LS} {out : List (List Int)} (h : Recv P r lo b out) (h1 : b2.await = b.await) (h2 : b2.coming = b.coming) (h3 : b2.kept = b.kept) : Recv P r lo b2 out :=
  ⟨by rw [h1]; exact h.await, h.le, by rw [h2]; exact h.told, by rw [h3]; exact h.kept, by rw [h3]; exact h.nodup⟩
theorem Sendr.of {P : List P4} {d : Nat} {b b2 : LS} (h : Sendr P d b) (h1 : b2.given = b.given) (h2 : b2.queue = b.queue) : Sendr P d b2 := ⟨by rw [h1]; exact h.given, by rw [h2]; exact h.queue, h.le⟩
/-- A pack that the other side's line told: its acknowledgment n, and nothing, or a piece. -/
structure Fine (P : List P4) (n : Nat) (p : P4) : Prop where
  ack : p.f0 = (n : Int)
  body : (p.f1 = 0 ∧ p.f2 = false ∧ p.f3 = []) ∨ ∃ i, Like P i p
theorem Fine.may {P : List P4} (hP : Pieces P) {n : Nat} {p : P4} (h : Fine P n p) (hn : n ≤ 100) : mayB p.f0 p.f1 p.f2 p.f3 = true := by
  unfold mayB
  rw [h.ack]
  have h1 : (decide (0 ≤ (n : Int)) : Bool) = true := decide_eq_true (by omega)
  have h2 : (decide ((n : Int) ≤ 2147483647) : Bool) = true := decide_eq_true (by omega)
  rw [h1, h2]
  rcases h.body with ⟨e1, e2, e3⟩ | ⟨i, hl⟩
  · rw [e1, e2, e3]; rfl
  · have hlt := hl.lt
    have hc := hP.cnt
    obtain ⟨f1, f2, f3⟩ := hl.fit hP
    obtain ⟨q, _, e1, _, _⟩ := hl
    rw [decide_eq_true (show 0 ≤ p.f1 by omega), decide_eq_true (show p.f1 ≤ 2147483647 by omega), if_neg (show ¬ p.f1 = 0 by omega)]
    cases hp : p.f2 with
    | true =>
      rw [decide_eq_true f1, decide_eq_true f2]
      simp
    | false =>
      rw [decide_eq_true (f3 hp)]
      rfl
/-- A pack is heard. -/
theorem hear_ok {P P' : List P4} (hP : Pieces P) (hP' : Pieces P') {r d n : Nat} {b : LS} {out : List (List Int)} {p : P4} (hR : Recv P r (r + 1) b out) (hS : Sendr P' d b) (hf : Fine P n p) (hn : n ≤ P'.length) :
    ∃ r2 new, (hearS b p).2 = (new, none) ∧ Recv P r2 (r2 + 1) (hearS b p).1 (out ++ new) ∧ Sendr P' (max d n) (hearS b p).1 ∧ r ≤ r2 ∧ (p.f1 = (r : Int) + 1 → r < r2) ∧ (p.f1 = 0 → r2 = r) ∧
      (hearS b p).1.owes = (b.owes || decide (p.f1 ≠ 0)) ∧ (hearS b p).1.wait = (if d < n then 1 else b.wait) ∧ (hearS b p).1.left = (if d < n then 0 else b.left) := by
  obtain ⟨f0, f1, f2, f3⟩ := p
  have hm := hf.may hP (by have := hP'.cnt; omega)
  have he : f0 = (n : Int) := hf.ack
  subst he
  rw [hear_of]
  obtain ⟨hA, hAo, hAw, hAl⟩ := ack_ok hP' hS hn
  have hm' : ¬ mayB (n : Int) f1 f2 f3 = false := by rw [show mayB (n : Int) f1 f2 f3 = true from hm]; decide
  rw [if_neg hm', if_neg (by rw [hS.given]; omega)]
  have hR1 : Recv P r (r + 1) (ackS b (n : Int)) out := hR.of (ackS_await _ _) (ackS_coming _ _) (ackS_kept _ _)
  by_cases hz : f1 = 0
  · rw [if_pos hz]
    refine ⟨r, [], rfl, by rw [List.append_nil]; exact hR1, hA, Nat.le_refl _, fun e => ?_, fun _ => rfl, ?_, hAw, hAl⟩
    · have e' : f1 = (r : Int) + 1 := e
      omega
    · rw [hAo]
      show b.owes = (b.owes || decide (f1 ≠ 0))
      rw [decide_eq_false (by simpa using hz), Bool.or_false]
  · rw [if_neg hz]
    obtain ⟨i, hl⟩ : ∃ i, Like P i ⟨(n : Int), f1, f2, f3⟩ := by
      rcases hf.body with h | h
      · exact absurd h.1 hz
      · exact h
    have hfi : f1 = (i : Int) + 1 := by obtain ⟨_, _, h, _⟩ := hl; exact h
    obtain ⟨L2, hL2⟩ : ∃ L2 : LS, { ackS b (n : Int) with owes := true } = L2 := ⟨_, rfl⟩
    rw [hL2]
    have hR2 : Recv P r (r + 1) L2 out := by rw [← hL2]; exact hR1.of rfl rfl rfl
    have hq2 : L2.queue = (ackS b (n : Int)).queue := by rw [← hL2]
    have hg2 : L2.given = (ackS b (n : Int)).given := by rw [← hL2]
    have hw2 : L2.wait = (ackS b (n : Int)).wait := by rw [← hL2]
    have hl2 : L2.left = (ackS b (n : Int)).left := by rw [← hL2]
    have ho2 : L2.owes = true := by rw [← hL2]
    obtain ⟨L3, hL3⟩ : ∃ L3, keepS L2 ⟨(n : Int), f1, f2, f3⟩ = L3 := ⟨_, rfl⟩
    have hR3 : Recv P r r L3 out ∧ SameSend L2 L3 ∧ (i = r → ∃ p ∈ L3.kept, p.f1 = (r : Int) + 1) := by
      rw [← hL3]
      unfold keepS
      have hlow : ∀ p ∈ L2.kept, ∃ i, Like P i p ∧ r ≤ i ∧ i < r + 8 := fun p hp => by
        obtain ⟨k, h1, h2, h3⟩ := hR2.kept p hp
        exact ⟨k, h1, by omega, h3⟩
      split
      · rename_i hc
        obtain ⟨c1, c2, c3⟩ := hc
        have c2' : L2.await ≤ f1 := c2
        have c3' : f1 < L2.await + 8 := c3
        rw [hR2.await] at c2' c3'
        refine ⟨⟨hR2.await, hR2.le, hR2.told, fun p hp => ?_, ?_⟩, ⟨rfl, rfl, rfl, rfl, rfl⟩, fun e => ⟨_, List.mem_append_right _ (List.mem_singleton.2 rfl), by show f1 = _; rw [hfi, e]⟩⟩
        · rcases List.mem_append.1 hp with hp | hp
          · exact hlow p hp
          · obtain rfl := List.mem_singleton.1 hp
            exact ⟨i, hl, by omega, by omega⟩
        · show ((L2.kept ++ [(⟨(n : Int), f1, f2, f3⟩ : P4)]).map fun p => p.f1).Nodup
          rw [List.map_append, List.nodup_append]
          refine ⟨hR2.nodup, by simp, fun x hx y hy e => ?_⟩
          obtain ⟨p, hp, rfl⟩ := List.mem_map.1 hx
          have hy' : y = f1 := by simpa using hy
          exact fndS_none c1 p hp (by rw [e, hy'])
      · rename_i hc
        refine ⟨⟨hR2.await, hR2.le, hR2.told, hlow, hR2.nodup⟩, SameSend.refl _, fun e => ?_⟩
        exfalso
        refine hc ⟨?_, by show L2.await ≤ f1; rw [hR2.await]; omega, by show f1 < L2.await + 8; rw [hR2.await]; omega⟩
        cases hf2 : fndS (⟨(n : Int), f1, f2, f3⟩ : P4).f1 L2.kept with
        | none => rfl
        | some j =>
          exfalso
          obtain ⟨p, hp, hpn⟩ := fndS_some hf2
          obtain ⟨k, ⟨_, _, h1, _⟩, h2, _⟩ := hR2.kept p (List.mem_of_getElem? hp)
          have hpn' : p.f1 = f1 := hpn
          omega
    obtain ⟨hR3, hSS, hex⟩ := hR3
    rw [hL3]
    unfold drainS
    obtain ⟨r2, b2, new, e1, e2, e3, e4, e5⟩ := drain_ok hP L3.kept.length r L3 out [] hR3 (Nat.le_refl _)
    rw [e1]
    have e6 := hSS.trans e4
    refine ⟨r2, new, rfl, e2, hA.of (by show b2.given = _; rw [e6.given, hg2]) (by show b2.queue = _; rw [e6.queue, hq2]), e3, fun e => e5 (hex ?_), fun e => absurd e hz, ?_, ?_, ?_⟩
    · have e' : f1 = (r : Int) + 1 := e
      omega
    · show b2.owes = (b.owes || decide (f1 ≠ 0))
      rw [e6.owes, ho2, decide_eq_true hz, Bool.or_true]
    · show b2.wait = _
      rw [e6.wait, hw2, hAw]
    · show b2.left = _
      rw [e6.left, hl2, hAl]
end Go.Proofs.YtafjegfmmnjpfaaDoor.LineT

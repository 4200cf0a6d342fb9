/- Proved: rounds of two lines where all packs come, in plain Lean: each brings both nearer to the end; conditions: the theorems' own premises. -/
import Derived.Test.YtafjegfmmnjpfaaDoorLLive
namespace Go.Proofs.YtafjegfmmnjpfaaDoor.LineT
open Go.RowKit Go.Proofs.YtafjegfmmnjpfaaDoor.YLine Go.Proofs.YtafjegfmmnjpfaaDoorW.PrintWords Go.Proofs.YtafjegfmmnjpfaaDoorW.PrintLast Go.Proofs.YtafjegfmmnjpfaaDoorW.PrintMore
set_option linter.unusedVariables false
set_option linter.unusedSimpArgs false
def stepS (s : LS × List (List Int)) (p : P4) : LS × List (List Int) := ((hearS s.1 p).1, s.2 ++ (hearS s.1 p).2.1)
/-- Packs are heard, one by one. -/
def hearsS (s : LS × List (List Int)) (ps : List P4) : LS × List (List Int) := ps.foldl stepS s
theorem hearsS_succ (s : LS × List (List Int)) (ps : List P4) (k : Nat) (p : P4) (h : ps[k]? = some p) : hearsS s (ps.take (k + 1)) = stepS (hearsS s (ps.take k)) p := by
  have hk := (List.getElem?_eq_some_iff.1 h).1
  unfold hearsS
  rw [List.take_succ_eq_append_getElem hk, (List.getElem?_eq_some_iff.1 h).2, List.foldl_append]
  rfl
structure HearsOk (P P' : List P4) (r d n : Nat) (b : LS) (ps : List P4) (s : LS × List (List Int)) (r2 : Nat) : Prop where
  recv : Recv P r2 (r2 + 1) s.1 s.2
  send : Sendr P' (if ps = [] then d else max d n) s.1
  le : r ≤ r2
  tm : Tm s.1
  owes : s.1.owes = (b.owes || ps.any fun p => decide (p.f1 ≠ 0))
  idle : (∀ p ∈ ps, p.f1 = 0) → r2 = r
  wait : s.1.wait = if ps = [] ∨ n ≤ d then b.wait else 1
  left : s.1.left = if ps = [] ∨ n ≤ d then b.left else 0
  far : ∀ e : Nat, e ≤ r → (∀ (j : Nat) (p : P4), ps[j]? = some p → p.f1 = ((e + j : Nat) : Int) + 1) → e + ps.length ≤ r2
theorem hears_ok {P P' : List P4} (hP : Pieces P) (hP' : Pieces P') {n : Nat} (hn : n ≤ P'.length) : ∀ (ps : List P4) (r d : Nat) (b : LS) (out : List (List Int)), Recv P r (r + 1) b out → Sendr P' d b → (∀ p ∈ ps, Fine P n p) → Tm b →
    ∃ r2, HearsOk P P' r d n b ps (hearsS (b, out) ps) r2 := by
  intro ps
  induction ps with
  | nil =>
    intro r d b out hR hS hf ht
    exact ⟨r, hR, by rw [if_pos rfl]; exact hS, Nat.le_refl _, ht, by simp [hearsS], fun _ => rfl, by rw [if_pos (.inl rfl)]; rfl, by rw [if_pos (.inl rfl)]; rfl, fun e he _ => by simpa using he⟩
  | cons p ps ih =>
    intro r d b out hR hS hf ht
    obtain ⟨r1, new, e1, hR1, hS1, l1, a1, i1, o1, w1, lf1⟩ := hear_ok hP hP' hR hS (hf p (List.mem_cons_self)) hn
    obtain ⟨b1, hb1⟩ : ∃ b1, (hearS b p).1 = b1 := ⟨_, rfl⟩
    have hst : hearsS (b, out) (p :: ps) = hearsS (b1, out ++ new) ps := by
      show hearsS (stepS (b, out) p) ps = _
      unfold stepS
      rw [show (hearS (b, out).1 p).1 = b1 from hb1, show (hearS (b, out).1 p).2.1 = new from by rw [show (hearS (b, out).1 p).2 = (new, none) from e1]]
    rw [hb1] at hR1 hS1 o1 w1 lf1
    have ht1 : Tm b1 := by
      obtain ⟨h1, h2, h3, h4⟩ := ht
      refine ⟨?_, ?_, ?_, ?_⟩
      · rw [w1]; split <;> omega
      · rw [w1]; split <;> omega
      · rw [lf1]; split <;> omega
      · rw [lf1]; split <;> omega
    obtain ⟨r2, h⟩ := ih r1 (max d n) b1 (out ++ new) hR1 hS1 (fun q hq => hf q (List.mem_cons_of_mem _ hq)) ht1
    rw [hst]
    refine ⟨r2, h.recv, ?_, Nat.le_trans l1 h.le, h.tm, ?_, fun hz => ?_, ?_, ?_, fun e he hj => ?_⟩
    · have h1 := h.send
      rw [if_neg (by simp)]
      split at h1
      · exact h1
      · rwa [show max (max d n) n = max d n by omega] at h1
    · rw [h.owes, o1, List.any_cons, Bool.or_assoc]
    · rw [h.idle (fun q hq => hz q (List.mem_cons_of_mem _ hq)), i1 (hz p (List.mem_cons_self))]
    · rw [h.wait, if_pos (.inr (by omega)), w1]
      by_cases hdn : d < n
      · rw [if_pos hdn, if_neg (by rintro (h | h); · simp at h
                                   · omega)]
      · rw [if_neg hdn, if_pos (.inr (by omega))]
    · rw [h.left, if_pos (.inr (by omega)), lf1]
      by_cases hdn : d < n
      · rw [if_pos hdn, if_neg (by rintro (h | h); · simp at h
                                   · omega)]
      · rw [if_neg hdn, if_pos (.inr (by omega))]
    · have h0 := hj 0 p rfl
      have he1 : e + 1 ≤ r1 := by
        by_cases e2 : e = r
        · have := a1 (by rw [h0, e2]; omega)
          omega
        · omega
      have h3 := h.far (e + 1) he1 (fun j q hq => by
        have := hj (j + 1) q (by simpa using hq)
        rw [this]
        omega)
      rw [List.length_cons]
      omega
/-- Each pack of a tick may be heard. -/
theorem hears_run {P P' : List P4} (hP : Pieces P) (hP' : Pieces P') {n r d : Nat} (hn : n ≤ P'.length) {ps : List P4} {b : LS} {out : List (List Int)} (hR : Recv P r (r + 1) b out) (hS : Sendr P' d b) (hf : ∀ p ∈ ps, Fine P n p) (ht : Tm b) (k : Nat) (p : P4) (hp : ps[k]? = some p) :
    (hearS (hearsS (b, out) (ps.take k)).1 p).2.2 = none ∧ (∃ r2 d2, Recv P r2 (r2 + 1) (hearsS (b, out) (ps.take k)).1 (hearsS (b, out) (ps.take k)).2 ∧ Sendr P' d2 (hearsS (b, out) (ps.take k)).1) := by
  obtain ⟨r2, h⟩ := hears_ok hP hP' hn (ps.take k) r d b out hR hS (fun q hq => hf q (List.mem_of_mem_take hq)) ht
  obtain ⟨_, _, e, _⟩ := hear_ok hP hP' h.recv h.send (hf p (List.mem_of_getElem? hp)) hn
  exact ⟨by rw [e], r2, _, h.recv, h.send⟩
theorem dec_few (ps : List P4) : ∀ s : List (List Int) × List Int, (ps.foldl decStep s).1.length ≤ s.1.length + ps.length := by
  induction ps with
  | nil => intro s; exact Nat.le_refl _
  | cons p ps ih =>
    intro s
    have h := ih (decStep s p)
    have h2 : (decStep s p).1.length ≤ s.1.length + 1 := by
      unfold decStep
      split
      · show (s.1 ++ [_]).length ≤ _
        rw [List.length_append]
        exact Nat.le_refl _
      · show s.1.length ≤ _
        omega
    rw [List.foldl_cons, List.length_cons]
    omega
theorem Recv.texts {P : List P4} (hP : Pieces P) {r lo : Nat} {b : LS} {out : List (List Int)} (h : Recv P r lo b out) : out.length ≤ 100 := by
  have h1 := dec_few (P.take r) ([], [])
  have h2 : (dec (P.take r)).1.length ≤ 0 + (P.take r).length := h1
  rw [h.told, List.length_take] at h2
  have h3 : out.length ≤ 0 + min r P.length := h2
  have := hP.cnt
  omega
theorem hears_few {P P' : List P4} (hP : Pieces P) (hP' : Pieces P') {n r d : Nat} (hn : n ≤ P'.length) {ps : List P4} {b : LS} {out : List (List Int)} (hR : Recv P r (r + 1) b out) (hS : Sendr P' d b) (hf : ∀ p ∈ ps, Fine P n p) (ht : Tm b) (k : Nat) :
    (hearsS (b, out) (ps.take k)).2.length ≤ 100 := by
  obtain ⟨r2, h⟩ := hears_ok hP hP' hn (ps.take k) r d b out hR hS (fun q hq => hf q (List.mem_of_mem_take hq)) ht
  exact h.recv.texts hP
/-- How far a side is from its end. -/
def phi (len d r : Nat) (left : Int) : Nat := if d = len then 0 else if d < r then 2 * (len - r) + 1 else 2 * (len - r) + max left.toNat 1 - 1
/-- Two lines, behind a round. -/
structure St (P P' : List P4) (a b : LS) (here there : List (List Int)) (d r d' r' : Nat) : Prop where
  sa : Sendr P d a
  ra : Recv P' r' (r' + 1) a here
  sb : Sendr P' d' b
  rb : Recv P r (r + 1) b there
  dr : d ≤ r
  dr' : d' ≤ r'
  ta : Tm a
  tb : Tm b
  j : d = r ∨ b.owes = true
  j' : d' = r' ∨ a.owes = true
theorem out_nil {L : LS} (h : tickOutS L = []) : L.owes = false := by
  cases ho : L.owes with
  | false => rfl
  | true =>
    unfold tickOutS outS at h
    have hw : (afterS (left1S L)).owes = true := by
      unfold afterS left1S
      split <;> split <;> exact ho
    split at h
    · cases h
    · rename_i hn
      exact absurd ⟨h, hw⟩ hn
theorem out_sends {L : LS} (h : 0 < L.queue.length) (hl : L.left ≤ 1) (h0 : 0 ≤ L.left) : tickOutS L = (L.queue.take 8).map (tellS (left1S L)) ∧ (tickS L).left = L.wait := by
  have h1 : left1S L = { L with left := 0 } := by
    unfold left1S
    rw [if_pos h, show max 0 (L.left - 1) = 0 by omega]
  have h2 : sendsS (left1S L) = true := by
    unfold sendsS
    rw [h1]
    simp [h]
  refine ⟨?_, ?_⟩
  · unfold tickOutS outS firstS
    rw [h2, if_pos rfl, if_neg]
    · rw [h1]
    · rintro ⟨hn, _⟩
      have := congrArg List.length hn
      rw [List.length_map, List.length_take] at this
      rw [h1] at this
      have h' : min 8 L.queue.length = 0 := this
      omega
  · unfold tickS afterS
    rw [if_pos h2, h1]
theorem out_waits {L : LS} (h : L.queue.length = 0 ∨ 1 < L.left) : (∀ p ∈ tickOutS L, p.f1 = 0) ∧ (tickS L).left = if 0 < L.queue.length then L.left - 1 else L.left := by
  have h2 : sendsS (left1S L) = false := by
    unfold sendsS left1S
    by_cases hq : 0 < L.queue.length
    · rw [if_pos hq]
      have hl : ¬ max 0 (L.left - 1) = 0 := by rcases h with h | h <;> omega
      simp only [decide_eq_false hl, Bool.and_false]
    · rw [if_neg hq, decide_eq_false hq]
      rfl
  have hF : firstS (left1S L) = [] := by
    unfold firstS
    rw [h2]
    exact if_neg (by decide)
  refine ⟨fun p hp => ?_, ?_⟩
  · unfold tickOutS outS at hp
    rw [hF] at hp
    split at hp
    · obtain rfl := List.mem_singleton.1 hp
      rfl
    · cases hp
  · unfold tickS afterS
    rw [if_neg (by rw [h2]; decide)]
    unfold left1S
    by_cases hq : 0 < L.queue.length
    · rw [if_pos hq, if_pos hq]
      rcases h with h | h
      · omega
      · show max 0 (L.left - 1) = _
        omega
    · rw [if_neg hq, if_neg hq]
/-- One way of a round: a's packs come to b, and b's to a. -/
theorem way_ok {P P' : List P4} (hP : Pieces P) (hP' : Pieces P') {a b : LS} {here there : List (List Int)} {d r d' r' : Nat} (h : St P P' a b here there d r d' r') :
    ∃ r2, HearsOk P P' r d' r' (tickS b) (tickOutS a) (hearsS (tickS b, there) (tickOutS a)) r2 ∧ r ≤ r2 ∧
      ∀ left2 : Int, (left2 = if tickOutS b = [] ∨ r ≤ d then (tickS a).left else 0) → phi P.length r r2 left2 + 1 ≤ phi P.length d r a.left ∨ phi P.length r r2 left2 = 0 := by
  obtain ⟨⟨hb1, hb2, hb3⟩, hb4, hb5, hb6⟩ := tick_same b
  obtain ⟨r2, hH⟩ := hears_ok hP hP' (n := r') h.ra.le (tickOutS a) r d' (tickS b) there (h.rb.of hb1 hb2 hb3) (h.sb.of hb5 hb4) (tick_fine hP h.sa h.ra) (tick_tm h.tb)
  refine ⟨r2, hH, hH.le, fun left2 hl2 => ?_⟩
  have hdl := h.sa.le
  have hrl := h.rb.le
  have hr2 := hH.recv.le
  have hle := hH.le
  have hdr := h.dr
  have hql : a.queue.length = P.length - d := by rw [h.sa.queue, List.length_drop]
  obtain ⟨_, _, l0, l1⟩ := h.ta
  unfold phi
  by_cases hfin : r = P.length
  · rw [if_pos hfin]
    exact .inr rfl
  · rw [if_neg hfin]
    left
    rw [if_neg (show ¬ d = P.length by omega)]
    by_cases hdr2 : d < r
    · have ho : b.owes = true := by rcases h.j with h | h; · omega
                                    · exact h
      have hne : tickOutS b ≠ [] := fun e => by rw [out_nil e] at ho; cases ho
      rw [if_neg (by rintro (h | h); · exact hne h
                     · omega)] at hl2
      rw [if_pos hdr2]
      by_cases hrr : r < r2
      · rw [if_pos hrr]; omega
      · rw [if_neg hrr, hl2]
        show 2 * (P.length - r2) + max 0 1 - 1 + 1 ≤ _
        omega
    · rw [if_neg hdr2]
      by_cases hsl : a.left ≤ 1
      · obtain ⟨ho, _⟩ := out_sends (L := a) (by omega) hsl l0
        have hfar := hH.far d hdr (fun j p hj => by
          rw [ho, List.getElem?_map, List.getElem?_take] at hj
          by_cases hj8 : j < 8
          · rw [if_pos hj8, h.sa.queue, List.getElem?_drop] at hj
            obtain ⟨q, hq, rfl⟩ := Option.map_eq_some_iff.1 hj
            have hn := hP.num _ _ hq
            exact hn
          · rw [if_neg hj8] at hj
            cases hj)
        have hlen : (tickOutS a).length = min 8 a.queue.length := by rw [ho, List.length_map, List.length_take]
        rw [if_pos (show r < r2 by omega)]
        omega
      · obtain ⟨hid, hlf⟩ := out_waits (L := a) (.inr (by omega))
        have hrr := hH.idle hid
        rw [if_neg (show ¬ r < r2 by omega)]
        rw [if_pos (.inr (by omega)), hlf, if_pos (by omega)] at hl2
        rw [hl2, hrr]
        omega
def roundA (a b : LS) (here : List (List Int)) : LS × List (List Int) := hearsS (tickS a, here) (tickOutS b)
theorem St.swap {P P' : List P4} {a b : LS} {here there : List (List Int)} {d r d' r' : Nat} (h : St P P' a b here there d r d' r') : St P' P b a there here d' r' d r := ⟨h.sb, h.rb, h.sa, h.ra, h.dr', h.dr, h.tb, h.ta, h.j', h.j⟩
/-- A round. -/
theorem round_ok {P P' : List P4} (hP : Pieces P) (hP' : Pieces P') {a b : LS} {here there : List (List Int)} {d r d' r' : Nat} (h : St P P' a b here there d r d' r') :
    ∃ r2 r2', St P P' (roundA a b here).1 (roundA b a there).1 (roundA a b here).2 (roundA b a there).2 r r2 r' r2' ∧
      (phi P.length r r2 (roundA a b here).1.left + 1 ≤ phi P.length d r a.left ∨ phi P.length r r2 (roundA a b here).1.left = 0) ∧
      (phi P'.length r' r2' (roundA b a there).1.left + 1 ≤ phi P'.length d' r' b.left ∨ phi P'.length r' r2' (roundA b a there).1.left = 0) := by
  obtain ⟨r2, h1, l1, p1⟩ := way_ok hP hP' h
  obtain ⟨r2', h2, l2, p2⟩ := way_ok hP' hP h.swap
  have key : ∀ {P P' : List P4} {a b : LS} {here there : List (List Int)} {d r d' r' : Nat}, St P P' a b here there d r d' r' → (if tickOutS b = [] then d else max d r) = r := fun {P P' a b here there d r d' r'} h => by
    split
    · rename_i e
      rcases h.j with h | h
      · exact h
      · rw [out_nil e] at h; cases h
    · have := h.dr; omega
  have s1 := h1.send
  rw [key h.swap] at s1
  have s2 := h2.send
  rw [key h] at s2
  have jj : ∀ {P P' : List P4} {r d n r2 : Nat} {b : LS} {ps : List P4} {s : LS × List (List Int)}, HearsOk P P' r d n (tickS b) ps s r2 → r = r2 ∨ s.1.owes = true := fun {P P' r d n r2 b ps s} h => by
    by_cases hz : ∀ p ∈ ps, p.f1 = 0
    · exact .inl (h.idle hz).symm
    · right
      rw [h.owes]
      have : (ps.any fun p => decide (p.f1 ≠ 0)) = true := by
        rw [List.any_eq_true]
        refine Classical.byContradiction fun hc => hz fun p hp => Classical.byContradiction fun hn => hc ⟨p, hp, by simpa using hn⟩
      rw [this, Bool.or_true]
  exact ⟨r2, r2', ⟨s2, h2.recv, s1, h1.recv, l1, l2, h2.tm, h1.tm, jj h1, jj h2⟩, p1 _ h2.left, p2 _ h1.left⟩
/-- At the end all came, and nothing waits. -/
theorem end_ok {P P' : List P4} {a b : LS} {here there first : List (List Int)} {d r d' r' : Nat} (h : St P P' a b here there d r d' r') (hw : dec P = (first, [])) (hz : phi P.length d r a.left = 0) : there = first ∧ a.queue = [] ∧ b.kept = [] := by
  have hdl := h.sa.le
  have hrl := h.rb.le
  have hdr := h.dr
  have hd : d = P.length := by
    unfold phi at hz
    split at hz
    · assumption
    · split at hz <;> omega
  have hr : r = P.length := by omega
  have ht := h.rb.told
  rw [hr, List.take_of_length_le (Nat.le_refl _), hw] at ht
  refine ⟨(congrArg Prod.fst ht).symm, by rw [h.sa.queue, hd, List.drop_length], ?_⟩
  refine List.eq_nil_iff_forall_not_mem.2 fun p hp => ?_
  obtain ⟨i, hl, h1, _⟩ := h.rb.kept p hp
  have := hl.lt
  omega
end Go.Proofs.YtafjegfmmnjpfaaDoor.LineT

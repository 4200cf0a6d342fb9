/- Proved: two lines, what came over them and what is late, whatever is lost, doubled or turned; conditions: the theorems' own premises. -/
import Derived.Test.YtafjegfmmnjpfaaDoorLLive
import Derived.Test.YtafjegfmmnjpfaaDoorLMem
import Derived.Test.YtafjegfmmnjpfaaDoorLAwake
namespace Go.Proofs.YtafjegfmmnjpfaaDoor.LineT
open Go.RowKit Go.Proofs.YtafjegfmmnjpfaaDoor.YLine Go.Proofs.YtafjegfmmnjpfaaDoorW.PrintWords Go.Proofs.YtafjegfmmnjpfaaDoorW.PrintLast Go.Proofs.YtafjegfmmnjpfaaDoorW.PrintMore
set_option linter.unusedVariables false
set_option linter.unusedSimpArgs false
/-- Two lines, whatever became of their packs. -/
structure Safe (P P' : List P4) (a b : LS) (here there : List (List Int)) (r r' : Nat) : Prop where
  hp : Pieces P
  hp' : Pieces P'
  sa : ∃ d, Sendr P d a
  ra : Recv P' r' (r' + 1) a here
  sb : ∃ d, Sendr P' d b
  rb : Recv P r (r + 1) b there
  ta : Tm a
  tb : Tm b
theorem Safe.swap {P P' : List P4} {a b : LS} {here there : List (List Int)} {r r' : Nat} (h : Safe P P' a b here there r r') : Safe P' P b a there here r' r := ⟨h.hp', h.hp, h.sb, h.rb, h.sa, h.ra, h.tb, h.ta⟩
theorem send_start : Pieces [] ∧ Sendr [] 0 ls0 ∧ Recv [] 0 1 ls0 [] ∧ Tm ls0 :=
  ⟨⟨fun i q h => by simp at h, fun i q h => by simp at h, fun i => by rw [List.take_nil]; show 0 ≤ 700; omega, by show 0 ≤ 100; omega⟩, ⟨rfl, rfl, Nat.le_refl _⟩, ⟨rfl, Nat.le_refl _, rfl, fun p hp => (by cases hp), List.nodup_nil⟩, ⟨by decide, by decide, by decide, by decide⟩⟩
theorem Safe.zero : Safe [] [] ls0 ls0 [] [] 0 0 := by
  have h := send_start
  exact ⟨h.1, h.1, ⟨0, h.2.1⟩, h.2.2.1, ⟨0, h.2.1⟩, h.2.2.1, h.2.2.2, h.2.2.2⟩
theorem Safe.ticka {P P' : List P4} {a b : LS} {here there : List (List Int)} {r r' : Nat} (h : Safe P P' a b here there r r') : Safe P P' (tickS a) b here there r r' := by
  obtain ⟨⟨a1, a2, a3⟩, a4, a5, _⟩ := tick_same a
  obtain ⟨d, hd⟩ := h.sa
  exact ⟨h.hp, h.hp', ⟨d, hd.of a5 a4⟩, h.ra.of a1 a2 a3, h.sb, h.rb, tick_tm h.ta, h.tb⟩
theorem Safe.hearb {P P' : List P4} {a b : LS} {here there : List (List Int)} {r r' n : Nat} {p : P4} (h : Safe P P' a b here there r r') (hf : Fine P n p) (hn : n ≤ r') :
    (hearS b p).2.2 = none ∧ ∃ r2, r ≤ r2 ∧ Safe P P' a (hearS b p).1 here (there ++ (hearS b p).2.1) r2 r' := by
  obtain ⟨d, hd⟩ := h.sb
  obtain ⟨r2, new, e1, hR, hS, l1, _, _, _, w1, lf1⟩ := hear_ok h.hp h.hp' h.rb hd hf (Nat.le_trans hn h.ra.le)
  refine ⟨by rw [e1], r2, l1, h.hp, h.hp', h.sa, h.ra, ⟨_, hS⟩, by rw [e1]; exact hR, h.ta, ?_⟩
  obtain ⟨h1, h2, h3, h4⟩ := h.tb
  refine ⟨?_, ?_, ?_, ?_⟩
  · rw [w1]; split <;> omega
  · rw [w1]; split <;> omega
  · rw [lf1]; split <;> omega
  · rw [lf1]; split <;> omega
theorem Safe.boundb {P P' : List P4} {a b : LS} {here there : List (List Int)} {r r' : Nat} (h : Safe P P' a b here there r r') : (b.coming.length ≤ 1000000 ∧ (∀ p ∈ b.kept, p.f3.length ≤ 1000000) ∧ 0 ≤ b.await ∧ b.kept.length ≤ 90000 ∧ b.await ≤ 2305843009213693952) ∧ b.queue.length ≤ 200 := by
  obtain ⟨d, hd⟩ := h.sb
  exact ⟨hear_bounds h.hp h.rb, by rw [hd.queue, List.length_drop]; have := h.hp'.cnt; omega⟩
theorem Safe.loka {P P' : List P4} {a b : LS} {here there : List (List Int)} {r r' : Nat} (h : Safe P P' a b here there r r') : LOk a ∧ ∀ p ∈ tickOutS a, Fine P r' p := by
  obtain ⟨d, hd⟩ := h.sa
  exact ⟨tick_lok h.hp hd h.ra h.hp' h.ta, tick_fine h.hp hd h.ra⟩
theorem Fine.short {P : List P4} (hP : Pieces P) {n : Nat} {p : P4} (h : Fine P n p) : p.f3.length ≤ 64 := by
  rcases h.body with ⟨_, _, h3⟩ | ⟨i, hl⟩
  · rw [h3]; exact Nat.zero_le _
  · exact (hl.fit hP).2.1
/-- What a line's pieces tell. -/
def Sent (P : List P4) (l : List (List Int)) (i : Nat) : Prop := dec P = (l.take i, []) ∧ P.length ≤ 10 * (l.take i).length
theorem Safe.senda {P P' : List P4} {a b : LS} {here there : List (List Int)} {r r' i : Nat} {l : List (List Int)} {msg : List Int} (h : Safe P P' a b here there r r') (hs : Sent P l i) (hm : l[i]? = some msg) (h1 : 1 ≤ msg.length ∧ msg.length ≤ 600) (hl : l.length ≤ 10) :
    sendE a msg = none ∧ ∃ Q, Safe (P ++ Q) P' (sendS a msg) b here there r r' ∧ Sent (P ++ Q) l (i + 1) := by
  obtain ⟨d, hd⟩ := h.sa
  have hlt := (List.getElem?_eq_some_iff.1 hm).1
  have hti : (l.take i).length = i := by rw [List.length_take]; omega
  have hfew := hs.2
  rw [hti] at hfew
  obtain ⟨e, P2, p1, p2, p3, p4, ⟨Q, rfl⟩, p6, p7, _⟩ := send_ok h.hp hd hs.1 h1.1 h1.2 (by omega) h.ta
  refine ⟨e, Q, ⟨p1, h.hp', ⟨d, p2⟩, h.ra.of p6.1 p6.2 p6.3, h.sb, h.rb.more, p7, h.tb⟩, ?_, ?_⟩
  · rw [p3, List.take_succ_eq_append_getElem hlt, (List.getElem?_eq_some_iff.1 hm).2]
  · rw [List.length_take]
    omega
theorem Sent.idle {P : List P4} {l : List (List Int)} {i : Nat} (h : Sent P l i) (hi : l.length ≤ i) : Sent P l (i + 1) := by
  unfold Sent at h ⊢
  rw [List.take_of_length_le hi] at h
  rw [List.take_of_length_le (by omega)]
  exact h
theorem dec_mono (ys : List P4) : ∀ s : List (List Int) × List Int, ∃ rest, (ys.foldl decStep s).1 = s.1 ++ rest := by
  induction ys with
  | nil => intro s; exact ⟨[], by rw [List.append_nil]; rfl⟩
  | cons y ys ih =>
    intro s
    obtain ⟨rest, h⟩ := ih (decStep s y)
    rw [List.foldl_cons, h]
    unfold decStep
    split
    · exact ⟨[s.2 ++ y.f3] ++ rest, by rw [List.append_assoc]⟩
    · exact ⟨rest, rfl⟩
/-- What came is a beginning of what was sent. -/
theorem Recv.begins {P : List P4} {r lo i : Nat} {b : LS} {out : List (List Int)} {l : List (List Int)} (h : Recv P r lo b out) (hs : Sent P l i) : out = l.take out.length ∧ out.length ≤ l.length := by
  obtain ⟨rest, hr⟩ := dec_mono (P.drop r) (dec (P.take r))
  have e : (P.drop r).foldl decStep (dec (P.take r)) = dec P := by
    unfold dec
    rw [← List.foldl_append, List.take_append_drop]
  rw [e, hs.1, h.told] at hr
  have hr' : l.take i = out ++ rest := hr
  have h1 : out.length ≤ (l.take i).length := by rw [hr', List.length_append]; omega
  have h2 : out.length ≤ i ∧ out.length ≤ l.length := by rw [List.length_take] at h1; omega
  refine ⟨?_, h2.2⟩
  have h3 : (l.take i).take out.length = out := by rw [hr', List.take_left']; rfl
  rw [List.take_take, Nat.min_eq_left h2.1] at h3
  exact h3.symm
/-- A struct in a block of its own, apart from both lines. -/
structure Box (w : World) (Da Db : Nat → Prop) (q : Nat) (cs : Array Value) (ty : TypeId) : Prop where
  blk : w.heap[q]? = some (.cells cs ty (0, 0))
  na : ¬ Da q
  nb : ¬ Db q
theorem Box.swap {w : World} {Da Db : Nat → Prop} {q : Nat} {cs : Array Value} {ty : TypeId} (h : Box w Da Db q cs ty) : Box w Db Da q cs ty := ⟨h.blk, h.nb, h.na⟩
theorem Box.keep {w w1 : World} {Da Db S : Nat → Prop} {q : Nat} {cs : Array Value} {ty : TypeId} (h : Box w Da Db q cs ty) (hf : Frame w w1 S) (hS : ¬ S q) : Box w1 Da Db q cs ty := ⟨hf.blk h.blk hS, h.na, h.nb⟩
theorem Box.turn {w w1 : World} {Da Db Db' : Nat → Prop} {q : Nat} {cs : Array Value} {ty : TypeId} (h : Box w Da Db q cs ty) (hf : Frame w w1 Db) (hD : ∀ k, Db' k → Db k ∨ w.heap.size ≤ k) : Box w1 Da Db' q cs ty :=
  ⟨hf.blk h.blk h.nb, h.na, fun h1 => (hD q h1).elim h.nb (fun h2 => by have := blk_lt h.blk; omega)⟩
theorem Box.below {w w1 : World} {Da Db : Nat → Prop} {q : Nat} {cs : Array Value} {ty : TypeId} (h : Box w Da Db q cs ty) (hb : Below w.heap.size w w1) : Box w1 Da Db q cs ty := h.keep (Frame.of_below hb) (fun h => h)
theorem Pks.below {w w1 : World} {B : Nat} {Da Db : Nat → Prop} {v : Value} {ps : List Pk} (h : Pks w B Da Db v ps) (hb : Below w.heap.size w w1) : Pks w1 B Da Db v ps := h.keep (Frame.of_below hb) ⟨fun _ _ h => h, fun _ _ _ _ h => h⟩
theorem Txt.below {w w1 : World} {base : Nat} {Da Db : Nat → Prop} {v : Value} {ms : List Pk} {out : List (List Int)} (h : Txt w base Da Db v ms out) (hb : Below w.heap.size w w1) : Txt w1 base Da Db v ms out := h.keep (Frame.of_below hb) ⟨fun _ _ h => h, fun _ _ _ _ h => h⟩
/-- All that lies in memory between two acts. -/
structure Mem (w : World) (base ga gb : Nat) (Da Db : Nat → Prop) (P P' : List P4) (a b : LS) (here there : List (List Int)) (r r' : Nat) (vh vt vl : Value) (mh mt pl : List Pk) : Prop where
  two : Two w base ga gb Da Db a b
  safe : Safe P P' a b here there r r'
  th : Txt w base Da Db vh mh here
  tt : Txt w base Da Db vt mt there
  apart : ∀ k, vh.ownBlock = some k → some k ≠ vt.ownBlock
  late : Pks w base Da Db vl pl
  lok : ∀ p ∈ pl, ∃ n, n ≤ r' ∧ Fine P n p.say
section
variable {w w1 : World} {base ga gb : Nat} {Da Db : Nat → Prop} {P P' : List P4} {a b : LS} {here there : List (List Int)} {r r' : Nat} {vh vt vl : Value} {mh mt pl : List Pk}
theorem Mem.below (h : Mem w base ga gb Da Db P P' a b here there r r' vh vt vl mh mt pl) (hb : Below w.heap.size w w1) : Mem w1 base ga gb Da Db P P' a b here there r r' vh vt vl mh mt pl :=
  ⟨h.two.keep (Frame.of_below hb) (fun _ _ h => h) (fun _ _ h => h), h.safe, h.th.below hb, h.tt.below hb, h.apart, h.late.below hb, h.lok⟩
theorem Mem.ticka (h : Mem w base ga gb Da Db P P' a b here there r r' vh vt vl mh mt pl) (hl : LineAt w1 base ga Da (tickS a)) (hf : Frame w w1 (fun k => k = ga)) : Mem w1 base ga gb Da Db P P' (tickS a) b here there r r' vh vt vl mh mt pl :=
  ⟨h.two.ticka hl hf, h.safe.ticka, h.th.keep hf (h.th.offa.one h.two.la.has), h.tt.keep hf (h.tt.offa.one h.two.la.has), h.apart, h.late.keep hf (h.late.offa.one h.two.la.has), h.lok⟩
theorem Mem.tickb (h : Mem w base ga gb Da Db P P' a b here there r r' vh vt vl mh mt pl) (hl : LineAt w1 base gb Db (tickS b)) (hf : Frame w w1 (fun k => k = gb)) : Mem w1 base ga gb Da Db P P' a (tickS b) here there r r' vh vt vl mh mt pl :=
  ⟨(h.two.swap.ticka hl hf).swap, h.safe.swap.ticka.swap, h.th.keep hf (h.th.offb.one h.two.lb.has), h.tt.keep hf (h.tt.offb.one h.two.lb.has), h.apart, h.late.keep hf (h.late.offb.one h.two.lb.has), h.lok⟩
theorem Mem.senda {Q : List P4} {Da' : Nat → Prop} {a' : LS} (h : Mem w base ga gb Da Db P P' a b here there r r' vh vt vl mh mt pl) (hs : Safe (P ++ Q) P' a' b here there r r') (hl : LineAt w1 base ga Da' a') (hD : ∀ k, Da' k → Da k ∨ w.heap.size ≤ k) (hf : Frame w w1 Da) :
    Mem w1 base ga gb Da' Db (P ++ Q) P' a' b here there r r' vh vt vl mh mt pl :=
  ⟨(h.two.swap.turn hl hD hf).swap, hs, (h.th.swap.turn hf hD).swap, (h.tt.swap.turn hf hD).swap, h.apart, (h.late.swap.turn hf hD).swap, fun p hp => by
    obtain ⟨n, h1, h2⟩ := h.lok p hp
    exact ⟨n, h1, h2.more⟩⟩
theorem Mem.sendb {Q : List P4} {Db' : Nat → Prop} {b' : LS} (h : Mem w base ga gb Da Db P P' a b here there r r' vh vt vl mh mt pl) (hs : Safe P (P' ++ Q) a b' here there r r') (hl : LineAt w1 base gb Db' b') (hD : ∀ k, Db' k → Db k ∨ w.heap.size ≤ k) (hf : Frame w w1 Db) :
    Mem w1 base ga gb Da Db' P (P' ++ Q) a b' here there r r' vh vt vl mh mt pl :=
  ⟨h.two.turn hl hD hf, hs, h.th.turn hf hD, h.tt.turn hf hD, h.apart, h.late.turn hf hD, h.lok⟩
variable {w2 : World} {D' : Nat → Prop} {v v7 : Value} {ms : List Pk} {p : P4} {n : Nat}
/-- The second line heard a pack, and what it answered was laid behind what came. -/
theorem Mem.hearb (h : Mem w base ga gb Da Db P P' a b here there r r' vh vt vl mh mt pl) (hf : Fine P n p) (hn : n ≤ r') (hL : LineAt w1 base gb D' (hearS b p).1) (hD : ∀ k, D' k → Db k ∨ w.heap.size ≤ k) (hF : Frame w w1 Db) (hM : Msgs w1 base v ms) (hmb : ms.map Pk.b = (hearS b p).2.1) (hO : Off D' v ms) (hOn : On w Db v ms)
    (hq : QRow w2 base 32 1 v7 (mt ++ ms).length ((mt ++ ms).map Pk.val)) (hg : w1.grownBy w2 vt.ownBlock) (hat : v7.ownBlock = vt.ownBlock ∨ ∃ b, v7.ownBlock = some b ∧ w1.heap.size ≤ b) :
    ∃ r2, Mem w2 base ga gb Da D' P P' a (hearS b p).1 here (there ++ ms.map Pk.b) r2 r' vh v7 vl mh (mt ++ ms) pl := by
  obtain ⟨_, r2, _, hs⟩ := h.safe.hearb hf hn
  have tw := h.two.turn hL hD hF
  have th := h.th.turn hF hD
  have tt := h.tt.turn hF hD
  have la := h.late.turn hF hD
  rw [← hmb] at hs
  exact ⟨r2, tw.app tt hg, hs, th.keep (Frame.of_grown hg) (th.msgs.off_row tt.msgs h.apart), Txt.app tw tt hM (Off.on hOn h.two.dis h.two.lta) hO hq hg hat, own_apart h.apart th.msgs.inn.1 hat, la.keep (Frame.of_grown hg) (la.packs.off_row tt.msgs), h.lok⟩
/-- The first line heard a pack. -/
theorem Mem.heara (h : Mem w base ga gb Da Db P P' a b here there r r' vh vt vl mh mt pl) (hf : Fine P' n p) (hn : n ≤ r) (hL : LineAt w1 base ga D' (hearS a p).1) (hD : ∀ k, D' k → Da k ∨ w.heap.size ≤ k) (hF : Frame w w1 Da) (hM : Msgs w1 base v ms) (hmb : ms.map Pk.b = (hearS a p).2.1) (hO : Off D' v ms) (hOn : On w Da v ms)
    (hq : QRow w2 base 32 1 v7 (mh ++ ms).length ((mh ++ ms).map Pk.val)) (hg : w1.grownBy w2 vh.ownBlock) (hat : v7.ownBlock = vh.ownBlock ∨ ∃ b, v7.ownBlock = some b ∧ w1.heap.size ≤ b) :
    ∃ r2, r' ≤ r2 ∧ Mem w2 base ga gb D' Db P P' (hearS a p).1 b (here ++ ms.map Pk.b) there r r2 v7 vt vl (mh ++ ms) mt pl := by
  obtain ⟨_, r2, l2, hs⟩ := h.safe.swap.hearb hf hn
  have tw := h.two.swap.turn hL hD hF
  have th := h.th.swap.turn hF hD
  have tt := h.tt.swap.turn hF hD
  have la := h.late.swap.turn hF hD
  rw [← hmb] at hs
  have ap := own_swap h.apart
  exact ⟨r2, l2, (tw.app th hg).swap, hs.swap, (Txt.app tw th hM (Off.on hOn h.two.swap.dis h.two.ltb) hO hq hg hat).swap, (tt.keep (Frame.of_grown hg) (tt.msgs.off_row th.msgs ap)).swap, own_swap (own_apart ap tt.msgs.inn.1 hat), (la.keep (Frame.of_grown hg) (la.packs.off_row th.msgs)).swap, fun p hp => by
    obtain ⟨m, h1, h2⟩ := h.lok p hp
    exact ⟨m, by omega, h2⟩⟩
theorem Pks.step {B : Nat} {vx u : Value} {px ns : List Pk} {Bu : Nat} (h : Pks w B Da Db vx px) (hF : Frame w w1 Db) (hD : ∀ k, D' k → Db k ∨ w.heap.size ≤ k) (hu : Msgs w1 Bu u ns) (hg : w1.grownBy w2 u.ownBlock) : Pks w2 B Da D' vx px :=
  (h.turn hF hD).keep (Frame.of_grown hg) ((h.turn hF hD).packs.off_row hu)
theorem Box.step {q : Nat} {cs : Array Value} {ty : TypeId} {u : Value} {ns : List Pk} {Bu : Nat} (h : Box w Da Db q cs ty) (hF : Frame w w1 Db) (hD : ∀ k, D' k → Db k ∨ w.heap.size ≤ k) (hu : Msgs w1 Bu u ns) (hg : w1.grownBy w2 u.ownBlock) (hty : ty ≠ 32) : Box w2 Da D' q cs ty := by
  have h1 := h.turn hF hD
  refine h1.keep (Frame.of_grown hg) (fun e => ?_)
  obtain ⟨_, c2, e2⟩ := q_typed hu.row q e.symm
  have e3 := h1.blk.symm.trans e2
  simp at e3
  exact hty e3.2
/-- A row of packs is no row of texts. -/
theorem Msgs.off_pk {B B2 : Nat} {u u2 : Value} {ns : List Pk} {ps : List Pk} (h : Msgs w B u ns) (h2 : Packs w B2 u2 ps) : Off (fun k => some k = u2.ownBlock) u ns :=
  ⟨fun k hk e => by
    obtain ⟨_, c1, e1⟩ := q_typed h.row k hk
    obtain ⟨_, c2, e2⟩ := q_typed h2.row k e.symm
    have := e1.symm.trans e2
    simp at this, fun p hp ad ea e => by
    obtain ⟨_, c1, e1⟩ := (h.els p hp).own ad ea
    obtain ⟨_, c2, e2⟩ := q_typed h2.row ad.block e.symm
    have := e1.symm.trans e2
    simp at this⟩
theorem Packs.off_pk {B B2 : Nat} {u u2 : Value} {ns : List Pk} {ps : List Pk} (h : Packs w B u ns) (h2 : Packs w B2 u2 ps) (hd : ∀ k, u.ownBlock = some k → some k ≠ u2.ownBlock) : Off (fun k => some k = u2.ownBlock) u ns :=
  ⟨fun k hk e => hd k hk e, fun p hp ad ea e => by
    obtain ⟨_, c1, e1⟩ := (h.els p hp).own ad ea
    obtain ⟨_, c2, e2⟩ := q_typed h2.row ad.block e.symm
    have := e1.symm.trans e2
    simp at this⟩
/-- A pack is laid behind the late ones. -/
theorem Mem.later {x : Pk} {v1 : Value} (h : Mem w base ga gb Da Db P P' a b here there r r' vh vt vl mh mt pl) (hf : Fine P n x.say) (hn : n ≤ r') (hx : PkOk w base x) (ha : ∀ ad, x.A = some ad → ¬ Da ad.block) (hb : ∀ ad, x.A = some ad → ¬ Db ad.block)
    (hq : QRow w1 base 37 4 v1 (pl ++ [x]).length (pkCells (pl ++ [x]))) (hg : w.grownBy w1 vl.ownBlock) (hat : v1.ownBlock = vl.ownBlock ∨ ∃ b, v1.ownBlock = some b ∧ w.heap.size ≤ b) :
    Mem w1 base ga gb Da Db P P' a b here there r r' vh vt v1 mh mt (pl ++ [x]) := by
  have hfr := Frame.of_grown hg
  refine ⟨h.two.keep hfr (fun k hk e => h.late.offa.1 k e.symm hk) (fun k hk e => h.late.offb.1 k e.symm hk), h.safe, h.th.keep hfr (h.th.msgs.off_pk h.late.packs), h.tt.keep hfr (h.tt.msgs.off_pk h.late.packs), h.apart, ⟨h.late.packs.grown hx hq hg, h.late.offa.grown (v2 := .slice none 0 0) ⟨fun k hk => (by cases hk), fun p hp ad e => by obtain rfl := List.mem_singleton.1 hp; exact ha ad e⟩ h.two.lta hat, h.late.offb.grown (v2 := .slice none 0 0) ⟨fun k hk => (by cases hk), fun p hp ad e => by obtain rfl := List.mem_singleton.1 hp; exact hb ad e⟩ h.two.ltb hat⟩, fun p hp => ?_⟩
  rcases List.mem_append.1 hp with hp | hp
  · exact h.lok p hp
  · obtain rfl := List.mem_singleton.1 hp
    exact ⟨n, hn, hf⟩
theorem Mem.below0 {w0 : World} (h : Mem w base ga gb Da Db P P' a b here there r r' vh vt vl mh mt pl) (hb : Below w0.heap.size w0 w) (hB : w0.heap.size ≤ base) {S : Nat → Prop} (hf : Frame w w1 S) (hS : ∀ k, S k → base ≤ k) : Below w0.heap.size w0 w1 :=
  below_frame hb hf hb.size (fun k hk => Nat.le_trans hB (hS k hk))
end
end Go.Proofs.YtafjegfmmnjpfaaDoor.LineT

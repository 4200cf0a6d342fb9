/- Proved: two lines, packs and texts side by side in memory; conditions: the theorems' own premises. -/
import Derived.Test.YtafjegfmmnjpfaaDoorLSame
namespace Go.Proofs.YtafjegfmmnjpfaaDoor.LineT
open Go.RowKit Go.Proofs.YtafjegfmmnjpfaaDoor.YLine Go.Proofs.YtafjegfmmnjpfaaDoorW.PrintWords Go.Proofs.YtafjegfmmnjpfaaDoorW.PrintLast Go.Proofs.YtafjegfmmnjpfaaDoorW.PrintMore
set_option linter.unusedVariables false
set_option linter.unusedSimpArgs false
theorem IsLine.lower {w : World} {base B g : Nat} {vq : Value} {mb : Nat} {cv : Value} {qs ks : List Pk} {L : LS} (h : IsLine w base g vq mb cv qs ks L) (hB : B ≤ base) : IsLine w B g vq mb cv qs ks L :=
  ⟨h.blk, q_lower h.row hB, h.map, q_lower h.com hB, fun p hp => (h.els p hp).lower hB, h.apart, h.queue, h.kept, Nat.le_trans hB h.bg, Nat.le_trans hB h.bm⟩
theorem LineAt.lower {w : World} {base B g : Nat} {D : Nat → Prop} {L : LS} (h : LineAt w base g D L) (hB : B ≤ base) : LineAt w B g D L := by
  obtain ⟨vq, mb, cv, qs, ks, h1, h2⟩ := h
  exact ⟨vq, mb, cv, qs, ks, h1.lower hB, h2⟩
theorem LineAt.has {w : World} {base g : Nat} {D : Nat → Prop} {L : LS} (h : LineAt w base g D L) : D g := by
  obtain ⟨_, _, _, _, _, _, h2⟩ := h
  exact (h2 g).2 (.inl rfl)
/-- Two lines that share nothing. -/
structure Two (w : World) (base ga gb : Nat) (Da Db : Nat → Prop) (La Lb : LS) : Prop where
  la : LineAt w base ga Da La
  lb : LineAt w base gb Db Lb
  dis : ∀ k, Da k → ¬ Db k
theorem Two.swap {w : World} {base ga gb : Nat} {Da Db : Nat → Prop} {La Lb : LS} (h : Two w base ga gb Da Db La Lb) : Two w base gb ga Db Da Lb La := ⟨h.lb, h.la, fun k h1 h2 => h.dis k h2 h1⟩
theorem Two.keep {w w1 : World} {base ga gb : Nat} {Da Db S : Nat → Prop} {La Lb : LS} (h : Two w base ga gb Da Db La Lb) (hf : Frame w w1 S) (ha : ∀ k, Da k → ¬ S k) (hb : ∀ k, Db k → ¬ S k) : Two w1 base ga gb Da Db La Lb := ⟨h.la.keep hf ha, h.lb.keep hf hb, h.dis⟩
/-- The second line is changed. -/
theorem Two.turn {w w1 : World} {base ga gb : Nat} {Da Db Db' : Nat → Prop} {La Lb Lb' : LS} (h : Two w base ga gb Da Db La Lb) (hb : LineAt w1 base gb Db' Lb') (hD : ∀ k, Db' k → Db k ∨ w.heap.size ≤ k) (hf : Frame w w1 Db) : Two w1 base ga gb Da Db' La Lb' :=
  ⟨h.la.keep hf h.dis, hb, fun k h1 h2 => (hD k h2).elim (h.dis k h1) (fun h3 => by have := (h.la.ge k h1).2; omega)⟩
/-- The blocks of a row, and of what its elements name. -/
def RowIn (w : World) (v : Value) (ms : List Pk) : Prop := (∀ k, v.ownBlock = some k → k < w.heap.size) ∧ ∀ p ∈ ms, ∀ ad, p.A = some ad → ad.block < w.heap.size
theorem Msgs.inn {w : World} {B : Nat} {v : Value} {ms : List Pk} (h : Msgs w B v ms) : RowIn w v ms := ⟨fun k hk => q_lt h.row k hk, fun p hp ad e => by
  obtain ⟨_, cc, h2⟩ := (h.els p hp).own ad e
  exact blk_lt h2⟩
theorem Packs.inn {w : World} {B : Nat} {v : Value} {ms : List Pk} (h : Packs w B v ms) : RowIn w v ms := ⟨fun k hk => q_lt h.row k hk, fun p hp ad e => by
  obtain ⟨_, cc, h2⟩ := (h.els p hp).own ad e
  exact blk_lt h2⟩
theorem Off.turn {w : World} {D D' : Nat → Prop} {v : Value} {ms : List Pk} (h : Off D v ms) (hD : ∀ k, D' k → D k ∨ w.heap.size ≤ k) (hi : RowIn w v ms) : Off D' v ms :=
  ⟨fun k hk h1 => (hD k h1).elim (h.1 k hk) (fun h2 => by have := hi.1 k hk; omega), fun p hp ad e h1 => (hD _ h1).elim (h.2 p hp ad e) (fun h2 => by have := hi.2 p hp ad e; omega)⟩
/-- What lies in what a line had, or is new, is no other line's. -/
theorem Off.on {w : World} {D E : Nat → Prop} {v : Value} {ms : List Pk} (h : On w D v ms) (hd : ∀ k, E k → ¬ D k) (hE : ∀ k, E k → k < w.heap.size) : Off E v ms :=
  ⟨fun k hk h1 => by have h2 := h.1 k hk; have h3 := hE k h1; omega, fun p hp ad e h1 => (h.2 p hp ad e).elim (hd _ h1) (fun h2 => by have h3 := hE _ h1; omega)⟩
theorem Packs.off {w : World} {B : Nat} {D : Nat → Prop} {v : Value} {ps : List Pk} (h : Packs w B v ps) (hD : ∀ k, D k → k < B) : Off D v ps :=
  ⟨fun k hk h1 => by have h2 := (q_typed h.row k hk).1; have := hD k h1; omega, fun p hp ad e h1 => by have h2 := ((h.els p hp).own ad e).1; have := hD _ h1; omega⟩
theorem Packs.keep2 {w w1 : World} {B : Nat} {v : Value} {ps : List Pk} {S : Nat → Prop} (h : Packs w B v ps) (hf : Frame w w1 S) (ho : Off S v ps) : Packs w1 B v ps :=
  ⟨qi_keep h.row hf ho.1, fun p hp => (h.els p hp).keep hf (ho.2 p hp)⟩
theorem Msgs.keep2 {w w1 : World} {B : Nat} {v : Value} {ms : List Pk} {S : Nat → Prop} (h : Msgs w B v ms) (hf : Frame w w1 S) (ho : Off S v ms) : Msgs w1 B v ms := h.keep hf ho.1 ho.2
/-- A row of texts grows: what is no such row stays. -/
theorem Packs.off_row {w : World} {B B2 : Nat} {v v2 : Value} {ps ms : List Pk} (h : Packs w B v ps) (h2 : Msgs w B2 v2 ms) : Off (fun k => some k = v2.ownBlock) v ps :=
  ⟨fun k hk e => by
    obtain ⟨_, c1, e1⟩ := q_typed h.row k hk
    obtain ⟨_, c2, e2⟩ := q_typed h2.row k e.symm
    have := e1.symm.trans e2
    simp at this, fun p hp ad ea e => by
    obtain ⟨_, c1, e1⟩ := (h.els p hp).own ad ea
    obtain ⟨_, c2, e2⟩ := q_typed h2.row ad.block e.symm
    have := e1.symm.trans e2
    simp at this⟩
theorem Msgs.off_row {w : World} {B B2 : Nat} {v v2 : Value} {ms ns : List Pk} (h : Msgs w B v ms) (h2 : Msgs w B2 v2 ns) (hd : ∀ k, v.ownBlock = some k → some k ≠ v2.ownBlock) : Off (fun k => some k = v2.ownBlock) v ms :=
  ⟨fun k hk e => hd k hk e, fun p hp ad ea e => by
    obtain ⟨_, c1, e1⟩ := (h.els p hp).own ad ea
    obtain ⟨_, c2, e2⟩ := q_typed h2.row ad.block e.symm
    have := e1.symm.trans e2
    simp at this⟩
/-- Texts are laid behind texts. -/
theorem Msgs.grown {w w1 : World} {B B2 : Nat} {v v1 v2 : Value} {ms ns : List Pk} (h : Msgs w B v ms) (h2 : Msgs w B2 v2 ns) (hB : B ≤ B2) (hq : QRow w1 B 32 1 v1 (ms ++ ns).length ((ms ++ ns).map Pk.val)) (hg : w.grownBy w1 v.ownBlock) : Msgs w1 B v1 (ms ++ ns) := by
  have key : ∀ (C : Nat) (p : Pk), PkOk w C p → PkOk w1 C p := fun C p hp => hp.keep (Frame.of_grown hg) (fun ad ea e => by
    obtain ⟨_, c1, e1⟩ := hp.own ad ea
    obtain ⟨_, c2, e2⟩ := q_typed h.row ad.block e.symm
    have := e1.symm.trans e2
    simp at this)
  refine ⟨hq, fun p hp => ?_⟩
  rcases List.mem_append.1 hp with hp | hp
  · exact key B p (h.els p hp)
  · exact (key B2 p (h2.els p hp)).lower hB
theorem Off.grown {w : World} {D : Nat → Prop} {v v1 v2 : Value} {ms ns : List Pk} (h : Off D v ms) (h2 : Off D v2 ns) (hD : ∀ k, D k → k < w.heap.size) (hat : v1.ownBlock = v.ownBlock ∨ ∃ b, v1.ownBlock = some b ∧ w.heap.size ≤ b) : Off D v1 (ms ++ ns) :=
  ⟨fun k hk h1 => by
    rcases hat with e | ⟨b, e, hb⟩
    · exact h.1 k (e.symm.trans hk) h1
    · rw [hk] at e
      have := Option.some.inj e
      have := hD k h1
      omega, fun p hp ad e => by
    rcases List.mem_append.1 hp with hp | hp
    · exact h.2 p hp ad e
    · exact h2.2 p hp ad e⟩
theorem own_apart {w : World} {v v1 u : Value} (hd : ∀ k, u.ownBlock = some k → some k ≠ v.ownBlock) (hu : ∀ k, u.ownBlock = some k → k < w.heap.size) (hat : v1.ownBlock = v.ownBlock ∨ ∃ b, v1.ownBlock = some b ∧ w.heap.size ≤ b) : ∀ k, u.ownBlock = some k → some k ≠ v1.ownBlock := by
  intro k hk e
  rcases hat with h | ⟨b, h, hb⟩
  · exact hd k hk (e.trans h)
  · rw [h] at e
    have := Option.some.inj e
    have := hu k hk
    omega
theorem own_swap {u v : Value} (hd : ∀ k, u.ownBlock = some k → some k ≠ v.ownBlock) : ∀ k, v.ownBlock = some k → some k ≠ u.ownBlock := fun k hk e => hd k e.symm hk.symm
theorem no_msgs2 (w : World) (base : Nat) : Msgs w base (.slice none 0 0) [] := no_msgs w base
/-- A pack of a row. -/
theorem Packs.at_ {w : World} {B gr off c : Nat} {ps : List Pk} (h : Packs w B (.slice (some ⟨gr, off, none⟩) ps.length c) ps) (i : Nat) (hi : i < ps.length) : w.rangeAt gr (off + i * 4) (Pk.cells (ps[i])) := pk_range h.row i hi
theorem Off.mono {D S : Nat → Prop} {v : Value} {ms : List Pk} (h : Off D v ms) (hS : ∀ k, S k → D k) : Off S v ms := ⟨fun k hk e => h.1 k hk (hS k e), fun p hp ad e h1 => h.2 p hp ad e (hS _ h1)⟩
/-- Texts that came, apart from both lines. -/
structure Txt (w : World) (base : Nat) (Da Db : Nat → Prop) (v : Value) (ms : List Pk) (out : List (List Int)) : Prop where
  msgs : Msgs w base v ms
  map : ms.map Pk.b = out
  offa : Off Da v ms
  offb : Off Db v ms
theorem Txt.nil (w : World) (base : Nat) (Da Db : Nat → Prop) : Txt w base Da Db (.slice none 0 0) [] [] := ⟨no_msgs w base, rfl, no_off _, no_off _⟩
theorem Txt.swap {w : World} {base : Nat} {Da Db : Nat → Prop} {v : Value} {ms : List Pk} {out : List (List Int)} (h : Txt w base Da Db v ms out) : Txt w base Db Da v ms out := ⟨h.msgs, h.map, h.offb, h.offa⟩
theorem Txt.keep {w w1 : World} {base : Nat} {Da Db S : Nat → Prop} {v : Value} {ms : List Pk} {out : List (List Int)} (h : Txt w base Da Db v ms out) (hf : Frame w w1 S) (hS : Off S v ms) : Txt w1 base Da Db v ms out := ⟨h.msgs.keep2 hf hS, h.map, h.offa, h.offb⟩
theorem Txt.turn {w w1 : World} {base : Nat} {Da Db Db' : Nat → Prop} {v : Value} {ms : List Pk} {out : List (List Int)} (h : Txt w base Da Db v ms out) (hf : Frame w w1 Db) (hD : ∀ k, Db' k → Db k ∨ w.heap.size ≤ k) : Txt w1 base Da Db' v ms out :=
  ⟨h.msgs.keep2 hf h.offb, h.map, h.offa, h.offb.turn hD h.msgs.inn⟩
/-- Packs that a tick answered, apart from both lines. -/
structure Pks (w : World) (B : Nat) (Da Db : Nat → Prop) (v : Value) (ps : List Pk) : Prop where
  packs : Packs w B v ps
  offa : Off Da v ps
  offb : Off Db v ps
theorem Pks.swap {w : World} {B : Nat} {Da Db : Nat → Prop} {v : Value} {ps : List Pk} (h : Pks w B Da Db v ps) : Pks w B Db Da v ps := ⟨h.packs, h.offb, h.offa⟩
theorem Pks.keep {w w1 : World} {B : Nat} {Da Db S : Nat → Prop} {v : Value} {ps : List Pk} (h : Pks w B Da Db v ps) (hf : Frame w w1 S) (hS : Off S v ps) : Pks w1 B Da Db v ps := ⟨h.packs.keep2 hf hS, h.offa, h.offb⟩
theorem Pks.turn {w w1 : World} {B : Nat} {Da Db Db' : Nat → Prop} {v : Value} {ps : List Pk} (h : Pks w B Da Db v ps) (hf : Frame w w1 Db) (hD : ∀ k, Db' k → Db k ∨ w.heap.size ≤ k) : Pks w1 B Da Db' v ps :=
  ⟨h.packs.keep2 hf h.offb, h.offa, h.offb.turn hD h.packs.inn⟩
theorem Two.lta {w : World} {base ga gb : Nat} {Da Db : Nat → Prop} {La Lb : LS} (h : Two w base ga gb Da Db La Lb) : ∀ k, Da k → k < w.heap.size := fun k hk => (h.la.ge k hk).2
theorem Two.ltb {w : World} {base ga gb : Nat} {Da Db : Nat → Prop} {La Lb : LS} (h : Two w base ga gb Da Db La Lb) : ∀ k, Db k → k < w.heap.size := fun k hk => (h.lb.ge k hk).2
/-- The first line ticks. -/
theorem Two.ticka {w w1 : World} {base ga gb : Nat} {Da Db : Nat → Prop} {La Lb La' : LS} (h : Two w base ga gb Da Db La Lb) (hl : LineAt w1 base ga Da La') (hf : Frame w w1 (fun k => k = ga)) : Two w1 base ga gb Da Db La' Lb :=
  (h.swap.turn hl (fun k h => .inl h) (hf.mono (fun k e => by rw [e]; exact h.la.has))).swap
theorem Off.one {D : Nat → Prop} {g : Nat} {v : Value} {ms : List Pk} (h : Off D v ms) (hg : D g) : Off (fun k => k = g) v ms := h.mono (fun k e => by rw [e]; exact hg)
/-- New packs are apart from both lines. -/
theorem Pks.new {w w1 : World} {base ga gb : Nat} {Da Db : Nat → Prop} {La Lb : LS} {v : Value} {ps : List Pk} (h : Two w base ga gb Da Db La Lb) (hp : Packs w1 w.heap.size v ps) : Pks w1 w.heap.size Da Db v ps := ⟨hp, hp.off h.lta, hp.off h.ltb⟩
theorem Txt.app {W w1 : World} {base ga gb : Nat} {Da Db : Nat → Prop} {La Lb : LS} {v v1 v2 : Value} {ms ns : List Pk} {out : List (List Int)} (tw : Two W base ga gb Da Db La Lb) (h : Txt W base Da Db v ms out) (h2 : Msgs W base v2 ns) (ha : Off Da v2 ns) (hb : Off Db v2 ns)
    (hq : QRow w1 base 32 1 v1 (ms ++ ns).length ((ms ++ ns).map Pk.val)) (hg : W.grownBy w1 v.ownBlock) (hat : v1.ownBlock = v.ownBlock ∨ ∃ b, v1.ownBlock = some b ∧ W.heap.size ≤ b) : Txt w1 base Da Db v1 (ms ++ ns) (out ++ ns.map Pk.b) :=
  ⟨h.msgs.grown h2 (Nat.le_refl _) hq hg, by rw [List.map_append, h.map], h.offa.grown ha tw.lta hat, h.offb.grown hb tw.ltb hat⟩
theorem Two.app {W w1 : World} {base ga gb : Nat} {Da Db : Nat → Prop} {La Lb : LS} {v : Value} {ms : List Pk} {out : List (List Int)} (tw : Two W base ga gb Da Db La Lb) (h : Txt W base Da Db v ms out) (hg : W.grownBy w1 v.ownBlock) : Two w1 base ga gb Da Db La Lb :=
  tw.keep (Frame.of_grown hg) (fun k hk e => h.offa.1 k e.symm hk) (fun k hk e => h.offb.1 k e.symm hk)
end Go.Proofs.YtafjegfmmnjpfaaDoor.LineT

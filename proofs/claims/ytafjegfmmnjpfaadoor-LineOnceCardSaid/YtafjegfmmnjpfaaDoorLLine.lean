/- Proved: a line in memory; New, Waits, Kept, room, Room, now; conditions: the theorems' own premises. -/
import Derived.Test.YtafjegfmmnjpfaaDoorLMap
namespace Go.Proofs.YtafjegfmmnjpfaaDoor.LineT
open Go.RowKit Go.Proofs.YtafjegfmmnjpfaaDoor.YLine Go.Proofs.YtafjegfmmnjpfaaDoorW.PrintWords Go.Proofs.YtafjegfmmnjpfaaDoorW.PrintLast Go.Proofs.YtafjegfmmnjpfaaDoorW.PrintMore
set_option linter.unusedVariables false
set_option linter.unusedSimpArgs false
abbrev P4 := S37
def Pk.say (p : Pk) : P4 := ⟨p.ack, p.num, p.last, p.b⟩
/-- A line, in plain Lean. -/
structure LS where
  queue : List P4
  given : Int
  await : Int
  kept : List P4
  coming : List Int
  wait : Int
  left : Int
  owes : Bool
def ls0 : LS := ⟨[], 0, 1, [], [], 1, 0, false⟩
def pkCells (qs : List Pk) : List Value := qs.flatMap Pk.cells
theorem pkCells_length (fs : List Pk) : (pkCells fs).length = fs.length * 4 := by
  unfold pkCells
  induction fs with
  | nil => rfl
  | cons f fs ih => rw [List.flatMap_cons, List.length_append, ih, List.length_cons]; simp [Pk.cells]; omega
theorem pkCells_append (xs ys : List Pk) : pkCells (xs ++ ys) = pkCells xs ++ pkCells ys := List.flatMap_append
theorem pkCells_at (fs : List Pk) (i : Nat) (hi : i < fs.length) (j : Nat) (hj : j < 4) : (pkCells fs)[i * 4 + j]? = (Pk.cells (fs[i]))[j]? := by
  induction fs generalizing i with
  | nil => simp at hi
  | cons f fs ih =>
    have e : pkCells (f :: fs) = Pk.cells f ++ pkCells fs := rfl
    have hl : (Pk.cells f).length = 4 := rfl
    rw [e]
    cases i with
    | zero => rw [List.getElem?_append_left (by rw [hl]; omega), Nat.zero_mul, Nat.zero_add]; rfl
    | succ i =>
      rw [List.getElem?_append_right (by rw [hl, Nat.add_mul]; omega), hl, show (i + 1) * 4 + j - 4 = i * 4 + j by rw [Nat.add_mul]; omega, ih i (by simpa using hi)]
      rfl
theorem pk_one (f : Pk) : ∀ u ∈ Pk.cells f, u.oneCell' = true := by
  intro u hu
  simp only [Pk.cells, List.mem_cons, List.not_mem_nil, or_false] at hu
  rcases hu with rfl | rfl | rfl | rfl <;> rfl
theorem pk_all (f : Pk) : (⟨Pk.cells f⟩ : Array Value).all (·.oneCell') = true := by
  rw [List.all_toArray, List.all_eq_true]
  exact pk_one f
/-- A pack's bytes lie in a row of bytes. -/
structure PkOk (w : World) (base : Nat) (p : Pk) : Prop where
  bytes : Bytes w p.A p.b
  cap : p.b.length ≤ p.c
  own : ∀ ad, p.A = some ad → base ≤ ad.block ∧ ∃ cells, w.heap[ad.block]? = some (.cells cells 5 (0, 0))
theorem PkOk.keep {w w1 : World} {base : Nat} {p : Pk} {S : Nat → Prop} (h : PkOk w base p) (hf : Frame w w1 S) (hS : ∀ ad, p.A = some ad → ¬ S ad.block) : PkOk w1 base p :=
  ⟨h.bytes.frame hf (fun _ ad e => hS ad e), h.cap, fun ad e => by
    obtain ⟨h1, cells, h2⟩ := h.own ad e
    exact ⟨h1, cells, hf.blk h2 (hS ad e)⟩⟩
theorem PkOk.below {w w1 : World} {base : Nat} {p : Pk} (h : PkOk w base p) (hb : Below w.heap.size w w1) : PkOk w1 base p := h.keep (Frame.of_below hb) (fun _ _ h => h)
def lineCells (vq : Value) (mb : Nat) (cv : Value) (L : LS) : List Value := [vq, .int .i64 L.given, .int .i64 L.await, .map (some mb), cv, .int .i64 L.wait, .int .i64 L.left, .bool L.owes]
/-- A line at block g: its queue's row, its map, the row of what comes. -/
structure IsLine (w : World) (base g : Nat) (vq : Value) (mb : Nat) (cv : Value) (qs ks : List Pk) (L : LS) : Prop where
  blk : w.heap[g]? = some (.cells ⟨lineCells vq mb cv L⟩ 64 (0, 0))
  row : QRow w base 37 4 vq qs.length (pkCells qs)
  map : MapIs w mb ks
  com : QRow w base 5 1 cv L.coming.length (nums .u8 L.coming)
  els : ∀ p ∈ qs ++ ks, PkOk w base p
  apart : ∀ p ∈ qs ++ ks, ∀ ad, p.A = some ad → some ad.block ≠ cv.ownBlock
  queue : qs.map Pk.say = L.queue
  kept : ks.map Pk.say = L.kept
  bg : base ≤ g
  bm : base ≤ mb
/-- The blocks of a line. -/
def dom (g mb : Nat) (vq cv : Value) (ps : List Pk) (k : Nat) : Prop := k = g ∨ k = mb ∨ some k = vq.ownBlock ∨ some k = cv.ownBlock ∨ ∃ p ∈ ps, ∃ ad, p.A = some ad ∧ k = ad.block
theorem IsLine.ge {w : World} {base g : Nat} {vq : Value} {mb : Nat} {cv : Value} {qs ks : List Pk} {L : LS} (h : IsLine w base g vq mb cv qs ks L) : ∀ k, dom g mb vq cv (qs ++ ks) k → base ≤ k ∧ k < w.heap.size := by
  intro k hk
  rcases hk with rfl | rfl | hk | hk | ⟨p, hp, ad, e, rfl⟩
  · exact ⟨h.bg, blk_lt h.blk⟩
  · exact ⟨h.bm, h.map.lt⟩
  · exact ⟨(q_typed h.row k hk.symm).1, q_lt h.row k hk.symm⟩
  · exact ⟨(q_typed h.com k hk.symm).1, q_lt h.com k hk.symm⟩
  · obtain ⟨h1, cells, h2⟩ := (h.els p hp).own ad e
    exact ⟨h1, blk_lt h2⟩
theorem IsLine.keep {w w1 : World} {base g : Nat} {vq : Value} {mb : Nat} {cv : Value} {qs ks : List Pk} {L : LS} {S : Nat → Prop} (h : IsLine w base g vq mb cv qs ks L) (hf : Frame w w1 S) (hS : ∀ k, dom g mb vq cv (qs ++ ks) k → ¬ S k) : IsLine w1 base g vq mb cv qs ks L :=
  ⟨hf.blk h.blk (hS g (.inl rfl)), qi_keep h.row hf (fun k hk => hS k (.inr (.inr (.inl hk.symm)))), h.map.keep hf (hS mb (.inr (.inl rfl))), qi_keep h.com hf (fun k hk => hS k (.inr (.inr (.inr (.inl hk.symm))))), fun p hp => (h.els p hp).keep hf (fun ad e => hS _ (.inr (.inr (.inr (.inr ⟨p, hp, ad, e, rfl⟩))))), h.apart, h.queue, h.kept, h.bg, h.bm⟩
theorem IsLine.below {w w1 : World} {base g : Nat} {vq : Value} {mb : Nat} {cv : Value} {qs ks : List Pk} {L : LS} (h : IsLine w base g vq mb cv qs ks L) (hb : Below w.heap.size w w1) : IsLine w1 base g vq mb cv qs ks L := h.keep (Frame.of_below hb) (fun _ _ h => h)
/-- What the line's own parts are not. -/
theorem IsLine.ne {w : World} {base g : Nat} {vq : Value} {mb : Nat} {cv : Value} {qs ks : List Pk} {L : LS} (h : IsLine w base g vq mb cv qs ks L) : g ≠ mb ∧ some g ≠ vq.ownBlock ∧ some g ≠ cv.ownBlock ∧ some mb ≠ vq.ownBlock ∧ some mb ≠ cv.ownBlock ∧ (∀ k, vq.ownBlock = some k → some k ≠ cv.ownBlock) ∧ ∀ p ∈ qs ++ ks, ∀ ad, p.A = some ad → ad.block ≠ g ∧ ad.block ≠ mb ∧ some ad.block ≠ vq.ownBlock := by
  refine ⟨h.map.typed h.blk, fun e => ?_, fun e => ?_, fun e => ?_, fun e => ?_, fun k hk e => ?_, fun p hp ad e => ⟨fun e' => ?_, ?_, fun e' => ?_⟩⟩
  · obtain ⟨_, cc, hc⟩ := q_typed h.row g e.symm
    have := h.blk.symm.trans hc
    simp at this
  · obtain ⟨_, cc, hc⟩ := q_typed h.com g e.symm
    have := h.blk.symm.trans hc
    simp at this
  · obtain ⟨_, cc, hc⟩ := q_typed h.row mb e.symm
    exact h.map.typed hc rfl
  · obtain ⟨_, cc, hc⟩ := q_typed h.com mb e.symm
    exact h.map.typed hc rfl
  · obtain ⟨_, cc, hc⟩ := q_typed h.row k hk
    obtain ⟨_, cc', hc'⟩ := q_typed h.com k e.symm
    have := hc.symm.trans hc'
    simp at this
  · obtain ⟨_, cells, hc⟩ := (h.els p hp).own ad e
    rw [e'] at hc
    have := h.blk.symm.trans hc
    simp at this
  · obtain ⟨_, cells, hc⟩ := (h.els p hp).own ad e
    exact h.map.typed hc
  · obtain ⟨_, cells, hc⟩ := (h.els p hp).own ad e
    obtain ⟨_, cc, hc'⟩ := q_typed h.row ad.block e'.symm
    have := hc.symm.trans hc'
    simp at this
/-- Numbers of the line are stored. -/
theorem IsLine.upd {w w1 : World} {base g : Nat} {vq : Value} {mb : Nat} {cv : Value} {qs ks : List Pk} {L L' : LS} (h : IsLine w base g vq mb cv qs ks L) (hf : Frame w w1 (fun k => k = g)) (hb : w1.heap[g]? = some (.cells ⟨lineCells vq mb cv L'⟩ 64 (0, 0))) (hq : L'.queue = L.queue) (hk : L'.kept = L.kept) (hc : L'.coming = L.coming) : IsLine w1 base g vq mb cv qs ks L' := by
  obtain ⟨n1, n2, n3, n4, n5, n6, n7⟩ := h.ne
  refine ⟨hb, qi_keep h.row hf (fun k hk e => n2 (by rw [← e]; exact hk.symm)), h.map.keep hf (fun e => n1 e.symm), ?_, fun p hp => (h.els p hp).keep hf (fun ad e => (n7 p hp ad e).1), h.apart, by rw [hq]; exact h.queue, by rw [hk]; exact h.kept, h.bg, h.bm⟩
  rw [hc]
  exact qi_keep h.com hf (fun k hk e => n3 (by rw [← e]; exact hk.symm))
/-- A line, told by what it is; D: its blocks. -/
def LineAt (w : World) (base g : Nat) (D : Nat → Prop) (L : LS) : Prop := ∃ vq mb cv qs ks, IsLine w base g vq mb cv qs ks L ∧ ∀ k, D k ↔ dom g mb vq cv (qs ++ ks) k
theorem LineAt.ge {w : World} {base g : Nat} {D : Nat → Prop} {L : LS} (h : LineAt w base g D L) : ∀ k, D k → base ≤ k ∧ k < w.heap.size := by
  obtain ⟨vq, mb, cv, qs, ks, h1, h2⟩ := h
  exact fun k hk => h1.ge k ((h2 k).1 hk)
theorem LineAt.keep {w w1 : World} {base g : Nat} {D S : Nat → Prop} {L : LS} (h : LineAt w base g D L) (hf : Frame w w1 S) (hS : ∀ k, D k → ¬ S k) : LineAt w1 base g D L := by
  obtain ⟨vq, mb, cv, qs, ks, h1, h2⟩ := h
  exact ⟨vq, mb, cv, qs, ks, h1.keep hf (fun k hk => hS k ((h2 k).2 hk)), h2⟩
theorem LineAt.below {w w1 : World} {base g : Nat} {D : Nat → Prop} {L : LS} (h : LineAt w base g D L) (hb : Below w.heap.size w w1) : LineAt w1 base g D L := h.keep (Frame.of_below hb) (fun _ _ h => h)
set_option maxHeartbeats 4000000 in
set_option maxRecDepth 100000 in
theorem newl_calls (w : World) : Calls Tryd.prog 10 #[] w fun e w' => ∃ g D, e = .returned (.pointer (some ⟨g, 0, none⟩)) ∧ LineAt w' w.heap.size g D ls0 ∧ Below w.heap.size w w' := by
  have HB := Aside0.mk (Below.refl w.heap.size w)
  go_enter Tryd.func10, Tryd.ntmps10
  go_wp2_with ((with_reducible refine gate_dst (N := 1) rfl ?_); refine stop_here ?_)
  refine ⟨?_⟩
  refine Kd.event_run (v := .map (some w.heap.size)) (w1 := w.alloc (.map #[] 0)) rfl ?hr1 ?_
  case hr1 => first | (go_simp; done) | (go_simp; rfl)
  have M1 : Aside0 (MapIs (w.alloc (.map #[] 0)) w.heap.size []) := ⟨⟨#[], 0, blk_new w _, rfl⟩⟩
  have B1 := Aside0.mk (below_alloc HB.out (.map #[] 0))
  obtain ⟨w1, hw1⟩ : ∃ w1, w.alloc (.map #[] 0) = w1 := ⟨_, rfl⟩
  rw [hw1] at M1 B1
  rw [hw1]
  clear hw1 HB
  go_wp2_with ((with_reducible refine gate_dst (N := 3) rfl ?_); refine stop_here ?_)
  refine ⟨?_⟩
  refine box_event rfl (N := 3) rfl (cs := ⟨lineCells (.slice none 0 0) w.heap.size (.slice none 0 0) ls0⟩) (t := 64) ?hr3 ?_
  case hr3 => first | (go_simp; done) | (go_simp; rfl)
  intro g hg w2 hbox hb
  have M2 := Aside0.mk (M1.out.below hb)
  have B2 := Aside0.mk (below_step B1.out hb)
  have X2 := Aside0.mk hbox
  have G2 := Aside0.mk (show w.heap.size ≤ g by rw [hg]; exact B1.out.size)
  clear hg hbox hb M1 B1
  go_wp2
  go_ret
  refine ⟨g, _, rfl, ⟨.slice none 0 0, w.heap.size, .slice none 0 0, [], [], ⟨X2.out, ⟨rfl, .inl ⟨rfl, none, rfl, fun a ha => by cases ha⟩⟩, M2.out, ⟨rfl, .inl ⟨rfl, none, rfl, fun a ha => by cases ha⟩⟩, fun p hp => by simp at hp, fun p hp => by simp at hp, rfl, rfl, G2.out, Nat.le_refl _⟩, fun k => Iff.rfl⟩, B2.out⟩
theorem waits_calls (w : World) (base g : Nat) (D : Nat → Prop) (L : LS) (h : LineAt w base g D L) : Calls Tryd.prog 16 #[.pointer (some ⟨g, 0, none⟩)] w fun e w' => e = .returned (.int .i64 (L.queue.length : Int)) ∧ w' = w := by
  obtain ⟨vq, mb, cv, qs, ks, h1, _⟩ := h
  obtain ⟨Av, cq, hv, hle⟩ := q_slice h1.row
  subst hv
  have hq : L.queue.length = qs.length := by rw [← h1.queue, List.length_map]
  rw [hq]
  have c0 := (blk_cell h1.blk 0).trans (show (⟨lineCells (.slice Av qs.length cq) mb cv L⟩ : Array Value)[0]? = some (.slice Av qs.length cq) from rfl)
  clear h1 hq
  go_enter Tryd.func16, Tryd.ntmps16
  go_wp2
  go_ret
  exact ⟨rfl, rfl⟩
theorem maplen_event {ops : Array Oper} {rest' : List Oper} {o : Oper} {a : Act} {Q' : Exit → Act → World → Prop} {W : World} {b : Nat} {ks : List Pk} (hgd : o.guard = none) (x : Operand)
    (ho : o.op = .call { callee := .builtin .len, args := #[x], argTypes := #[62] }) (hx : a.eval x = .map (some b)) (hm : MapIs W b ks)
    (h : wpList Tryd.prog ops Q' rest' (a.put o.dst (.int .i64 (ks.length : Int))) W) : wpList Tryd.prog ops Q' (o :: rest') a W := by
  have hr := run_maplen hm o.type
  refine wpList_plain hgd fun K hK => ?_
  unfold Oper.wp execOp
  simp only [ho, resolve, invoke, builtin, Sem.run_bind, Sem.run_pure, Result.andThen_ok, List.map_toArray, List.map_cons, List.map_nil, hx]
  erw [hr]
  exact hK _ _ h
set_option maxHeartbeats 4000000 in
set_option maxRecDepth 100000 in
theorem kept_calls (w : World) (base g : Nat) (D : Nat → Prop) (L : LS) (h : LineAt w base g D L) : Calls Tryd.prog 24 #[.pointer (some ⟨g, 0, none⟩)] w fun e w' => e = .returned (.int .i64 (L.kept.length : Int)) ∧ w' = w := by
  obtain ⟨vq, mb, cv, qs, ks, h1, _⟩ := h
  have hq : L.kept.length = ks.length := by rw [← h1.kept, List.length_map]
  rw [hq]
  have c3 := (blk_cell h1.blk 3).trans (show (⟨lineCells vq mb cv L⟩ : Array Value)[3]? = some (.map (some mb)) from rfl)
  have HM := Aside0.mk h1.map
  clear h1 hq
  go_enter Tryd.func24, Tryd.ntmps24
  go_wp2_with ((with_reducible refine gate_dst (N := 7) rfl ?_); refine stop_here ?_)
  refine ⟨?_⟩
  refine maplen_event rfl (.tmp 6) rfl rfl HM.out ?_
  go_wp2
  go_ret
  exact ⟨rfl, rfl⟩
set_option maxHeartbeats 4000000 in
set_option maxRecDepth 100000 in
theorem room_calls (w : World) (base g : Nat) (D : Nat → Prop) (L : LS) (n : Int) (h : LineAt w base g D L) (hl : L.queue.length ≤ 1000000) : Calls Tryd.prog 26 #[.pointer (some ⟨g, 0, none⟩), .int .i64 n] w fun e w' => e = .returned (.bool (decide (n ≤ 200 - (L.queue.length : Int)))) ∧ w' = w := by
  obtain ⟨vq, mb, cv, qs, ks, h1, _⟩ := h
  obtain ⟨Av, cq, hv, hle⟩ := q_slice h1.row
  subst hv
  have hq : L.queue.length = qs.length := by rw [← h1.queue, List.length_map]
  rw [hq] at hl ⊢
  have c0 := (blk_cell h1.blk 0).trans (show (⟨lineCells (.slice Av qs.length cq) mb cv L⟩ : Array Value)[0]? = some (.slice Av qs.length cq) from rfl)
  have l1 : (qs.length : Int) ≤ 1000000 := by omega
  clear h1 hq
  go_enter Tryd.func26, Tryd.ntmps26
  go_wp2
  go_ret
  exact ⟨rfl, rfl⟩
/-- Would a message of so many bytes go? -/
def roomS (L : LS) (n : Int) : Bool := decide (1 ≤ n) && (decide (n ≤ 8192) && decide ((n + 64 - 1) / 64 ≤ 200 - (L.queue.length : Int)))
set_option maxHeartbeats 4000000 in
set_option maxRecDepth 100000 in
theorem Room_calls (w : World) (base g : Nat) (D : Nat → Prop) (L : LS) (n : Int) (h : LineAt w base g D L) (hl : L.queue.length ≤ 1000000) : Calls Tryd.prog 15 #[.pointer (some ⟨g, 0, none⟩), .int .i64 n] w fun e w' => e = .returned (.bool (roomS L n)) ∧ w' = w := by
  have H := Aside0.mk h
  clear h
  unfold roomS
  by_cases h1 : 1 ≤ n
  · have b1 : decide (1 ≤ n) = true := decide_eq_true h1
    rw [b1]
    by_cases h2 : n ≤ 8192
    · have b2 : decide (n ≤ 8192) = true := decide_eq_true h2
      rw [b2]
      clear b1 b2
      go_enter Tryd.func15, Tryd.ntmps15
      go_wp2_with (go_at_call 26; refine stop_here ?_)
      refine ⟨?_⟩
      with_reducible refine (room_calls w base g D L ((n + 64 - 1) / 64) H.out hl).mono ?_
      rintro e w' ⟨rfl, rfl⟩
      go_wp2
      go_ret
      exact ⟨rfl, rfl⟩
    · have b2 : decide (n ≤ 8192) = false := decide_eq_false h2
      rw [b2]
      clear b1 b2
      go_enter Tryd.func15, Tryd.ntmps15
      go_wp2
      go_ret
      exact ⟨rfl, rfl⟩
  · have b1 : decide (1 ≤ n) = false := decide_eq_false h1
    rw [b1]
    clear b1
    go_enter Tryd.func15, Tryd.ntmps15
    go_wp2
    go_ret
    exact ⟨rfl, rfl⟩
set_option maxHeartbeats 4000000 in
set_option maxRecDepth 100000 in
theorem now_calls (w : World) (base g : Nat) (D : Nat → Prop) (L : LS) (h : LineAt w base g D L) : Calls Tryd.prog 27 #[.pointer (some ⟨g, 0, none⟩)] w fun e w' => e = .returned (.tuple #[]) ∧ LineAt w' base g D { L with wait := 1, left := 0 } ∧ Frame w w' (fun k => k = g) := by
  obtain ⟨vq, mb, cv, qs, ks, h1, h2⟩ := h
  have H1 := Aside0.mk h1
  have H2 := Aside0.mk h2
  have c5 := (blk_cell h1.blk 5).trans (show (⟨lineCells vq mb cv L⟩ : Array Value)[5]? = some (.int .i64 L.wait) from rfl)
  have c6 := (blk_cell h1.blk 6).trans (show (⟨lineCells vq mb cv L⟩ : Array Value)[6]? = some (.int .i64 L.left) from rfl)
  have f5 := blk_frozen h1.blk 5
  have f6 := blk_frozen h1.blk 6
  clear h1 h2
  go_enter Tryd.func27, Tryd.ntmps27
  go_wp2
  go_end0
  have hF : Frame w ((w.setCell ⟨g, 5, none⟩ (.int .i64 1)).setCell ⟨g, 6, none⟩ (.int .i64 0)) (fun k => k = g) := (Frame.of_set w g 5 _).trans (Frame.of_set _ g 6 _) (fun k e => .inl e)
  exact ⟨rfl, ⟨vq, mb, cv, qs, ks, H1.out.upd hF ((blk_set (blk_set H1.out.blk 5 _) 6 _).trans rfl) rfl rfl rfl, H2.out⟩, hF⟩
end Go.Proofs.YtafjegfmmnjpfaaDoor.LineT

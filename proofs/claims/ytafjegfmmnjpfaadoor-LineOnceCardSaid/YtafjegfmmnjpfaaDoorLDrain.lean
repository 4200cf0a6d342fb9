/- Proved: (*line.Line).drain; conditions: the theorems' own premises. -/
import Derived.Test.YtafjegfmmnjpfaaDoorLApp
namespace Go.Proofs.YtafjegfmmnjpfaaDoor.LineT
open Go.RowKit Go.Proofs.YtafjegfmmnjpfaaDoor.YLine Go.Proofs.YtafjegfmmnjpfaaDoorW.PrintWords Go.Proofs.YtafjegfmmnjpfaaDoorW.PrintLast Go.Proofs.YtafjegfmmnjpfaaDoorW.PrintMore
set_option linter.unusedVariables false
set_option linter.unusedSimpArgs false
def fndS (n : Int) : List P4 → Option Nat
  | [] => none
  | p :: ps => if p.f1 = n then some 0 else (fndS n ps).map (· + 1)
theorem fnd_say (n : Int) (ks : List Pk) : fndS n (ks.map Pk.say) = fnd n ks := by
  induction ks with
  | nil => rfl
  | cons k ks ih => rw [List.map_cons, fnd_cons, fndS, ih]; rfl
def p40 : P4 := ⟨0, 0, false, []⟩
/-- What is awaited is taken, as long as it is kept. -/
def drainF : Nat → LS → List (List Int) → LS × List (List Int) × Option Int
  | 0, L, ms => (L, ms, none)
  | n + 1, L, ms => match fndS L.await L.kept with
    | none => (L, ms, none)
    | some j =>
      if 8192 < L.coming.length + (L.kept.getD j p40).f3.length then ({ L with kept := L.kept.eraseIdx j }, ms, some 6)
      else if (L.kept.getD j p40).f2 then drainF n { L with kept := L.kept.eraseIdx j, await := L.await + 1, coming := [] } (ms ++ [L.coming ++ (L.kept.getD j p40).f3])
      else drainF n { L with kept := L.kept.eraseIdx j, await := L.await + 1, coming := L.coming ++ (L.kept.getD j p40).f3 } ms
def drainS (L : LS) : LS × List (List Int) × Option Int := drainF L.kept.length L []
theorem drainF_step {n j : Nat} {L : LS} {ms : List (List Int)} {p : P4} (h1 : fndS L.await L.kept = some j) (h2 : L.kept[j]? = some p) : drainF (n + 1) L ms =
    if 8192 < L.coming.length + p.f3.length then ({ L with kept := L.kept.eraseIdx j }, ms, some 6)
      else if p.f2 then drainF n { L with kept := L.kept.eraseIdx j, await := L.await + 1, coming := [] } (ms ++ [L.coming ++ p.f3])
      else drainF n { L with kept := L.kept.eraseIdx j, await := L.await + 1, coming := L.coming ++ p.f3 } ms := by
  have e : L.kept.getD j p40 = p := by rw [List.getD_eq_getElem?_getD, h2]; rfl
  have e' : drainF (n + 1) L ms = match fndS L.await L.kept with
    | none => (L, ms, none)
    | some j =>
      if 8192 < L.coming.length + (L.kept.getD j p40).f3.length then ({ L with kept := L.kept.eraseIdx j }, ms, some 6)
      else if (L.kept.getD j p40).f2 then drainF n { L with kept := L.kept.eraseIdx j, await := L.await + 1, coming := [] } (ms ++ [L.coming ++ (L.kept.getD j p40).f3])
      else drainF n { L with kept := L.kept.eraseIdx j, await := L.await + 1, coming := L.coming ++ (L.kept.getD j p40).f3 } ms := rfl
  rw [e', h1]
  simp only [e]
/-- Texts, in a row. -/
structure Msgs (w : World) (B : Nat) (v : Value) (ms : List Pk) : Prop where
  row : QRow w B 32 1 v ms.length (ms.map Pk.val)
  els : ∀ p ∈ ms, PkOk w B p
theorem Msgs.keep {w w1 : World} {B : Nat} {v : Value} {ms : List Pk} {S : Nat → Prop} (h : Msgs w B v ms) (hf : Frame w w1 S) (h1 : ∀ k, v.ownBlock = some k → ¬ S k) (h2 : ∀ p ∈ ms, ∀ ad, p.A = some ad → ¬ S ad.block) : Msgs w1 B v ms :=
  ⟨qi_keep h.row hf h1, fun p hp => (h.els p hp).keep hf (h2 p hp)⟩
theorem Msgs.below {w w1 : World} {B : Nat} {v : Value} {ms : List Pk} (h : Msgs w B v ms) (hb : Below w.heap.size w w1) : Msgs w1 B v ms := h.keep (Frame.of_below hb) (fun _ _ h => h) (fun _ _ _ _ h => h)
/-- Texts that no line will write. -/
def Off (D : Nat → Prop) (v : Value) (ms : List Pk) : Prop := (∀ k, v.ownBlock = some k → ¬ D k) ∧ ∀ p ∈ ms, ∀ ad, p.A = some ad → ¬ D ad.block
/-- Texts that lie in what the line had, or in new memory; their row is new. -/
def On (w : World) (D : Nat → Prop) (v : Value) (ms : List Pk) : Prop := (∀ k, v.ownBlock = some k → w.heap.size ≤ k) ∧ ∀ p ∈ ms, ∀ ad, p.A = some ad → D ad.block ∨ w.heap.size ≤ ad.block
def DrainIs (w w' : World) (base g : Nat) (D : Nat → Prop) (e : Ending) (r : LS × List (List Int) × Option Int) : Prop :=
  ∃ v ms D', e = .returned (.tuple #[v, errW r.2.2]) ∧ LineAt w' base g D' r.1 ∧ (∀ k, D' k → D k ∨ w.heap.size ≤ k) ∧ Msgs w' base v ms ∧ ms.map Pk.b = r.2.1 ∧ Off D' v ms ∧ On w D v ms
theorem mid_step {ops : Array Oper} {o : Oper} {a : Act} {Q' : Exit → Act → World → Prop} {Kc : Act → World → Prop} {W : World} (hw : Region.wanted o (yielded ops a.tmps) = true) (hd : o.dst = none) (ty : TypeId) (x y : Operand) (ho : o.op = .store ty x y)
    (b off : Nat) (cells : Array Value) (hx : a.eval x = .pointer (some ⟨b, off, none⟩)) (hy : a.eval y = .agg cells)
    (ht : W.there b off cells.size) (hi : (Tryd.prog.info? ty).map (·.size) = some cells.size) (h1 : cells.all (·.oneCell') = true)
    (h : Kc a (W.setCells b off cells.toList)) : if Region.wanted o (yielded ops a.tmps) = true then Oper.wp Tryd.prog o a W Kc Q' else Kc (a.put o.dst undef) W := by
  rw [if_pos hw]
  refine wp_store_mid ty x y ho b off cells hx hy ht hi h1 ?_
  rw [hd]
  exact h
theorem del_step {ops : Array Oper} {o : Oper} {a : Act} {Q' : Exit → Act → World → Prop} {Kc : Act → World → Prop} {W : World} {mb j : Nat} {n : Int} {ks : List Pk} (hw : Region.wanted o (yielded ops a.tmps) = true) (hd : o.dst = none) (x y : Operand)
    (ho : o.op = .call { callee := .builtin .delete, args := #[x, y], argTypes := #[62, 3] }) (hx : a.eval x = .map (some mb)) (hy : a.eval y = .int .i64 n) (hm : MapIs W mb ks) (hj : fnd n ks = some j)
    (h : ∀ w1, MapIs w1 mb (ks.eraseIdx j) → Frame W w1 (fun k => k = mb) → Kc a w1) : if Region.wanted o (yielded ops a.tmps) = true then Oper.wp Tryd.prog o a W Kc Q' else Kc (a.put o.dst undef) W := by
  obtain ⟨w1, hr, h1, h2⟩ := run_mapdel hm n hj o.type
  refine event_step hw (v := .tuple #[]) (w1 := w1) ?_ (by rw [hd]; exact h w1 h1 h2)
  unfold execOp
  simp only [ho, resolve, invoke, builtin, Sem.run_bind, Sem.run_pure, Result.andThen_ok, List.map_toArray, List.map_cons, List.map_nil, hx, hy]
  erw [hr]
  rfl
/-- A kept pack is taken out. -/
theorem IsLine.erase {W w1 : World} {base g : Nat} {vq : Value} {mb : Nat} {cv : Value} {qs ks : List Pk} {L : LS} {j : Nat} (h : IsLine W base g vq mb cv qs ks L) (hm : MapIs w1 mb (ks.eraseIdx j)) (hf : Frame W w1 (fun k => k = mb)) :
    IsLine w1 base g vq mb cv qs (ks.eraseIdx j) { L with kept := L.kept.eraseIdx j } := by
  obtain ⟨n1, n2, n3, n4, n5, n6, n7⟩ := h.ne
  have hin : ∀ p ∈ qs ++ ks.eraseIdx j, p ∈ qs ++ ks := fun p hp => by
    rcases List.mem_append.1 hp with hp | hp
    · exact List.mem_append_left _ hp
    · exact List.mem_append_right _ (List.mem_of_mem_eraseIdx hp)
  exact ⟨(hf.blk h.blk n1).trans rfl, qi_keep h.row hf (fun k hk e => n4 (by rw [← e]; exact hk.symm)), hm, qi_keep h.com hf (fun k hk e => n5 (by rw [← e]; exact hk.symm)), fun p hp => (h.els p (hin p hp)).keep hf (fun ad e => (n7 p (hin p hp) ad e).2.1), fun p hp => h.apart p (hin p hp), h.queue, by rw [map_eraseIdx', h.kept], h.bg, h.bm⟩
/-- What comes grows. -/
theorem IsLine.comes {W w1 : World} {base g : Nat} {vq v1 : Value} {mb : Nat} {cv : Value} {qs ks : List Pk} {L : LS} {c2 : List Int} (h : IsLine W base g vq mb cv qs ks L) (hq : QRow w1 base 5 1 v1 c2.length (nums .u8 c2)) (hg : W.grownBy w1 cv.ownBlock)
    (hat : v1.ownBlock = cv.ownBlock ∨ ∃ b, v1.ownBlock = some b ∧ W.heap.size ≤ b) :
    IsLine (w1.setCell ⟨g, 4, none⟩ v1) base g vq mb v1 qs ks { L with coming := c2 } ∧ Frame W (w1.setCell ⟨g, 4, none⟩ v1) (fun k => k = g ∨ some k = cv.ownBlock) := by
  obtain ⟨n1, n2, n3, n4, n5, n6, n7⟩ := h.ne
  have hF : Frame W (w1.setCell ⟨g, 4, none⟩ v1) (fun k => k = g ∨ some k = cv.ownBlock) := ((Frame.of_grown hg).mono (S' := fun k => k = g ∨ some k = cv.ownBlock) (fun _ h => .inr h)).trans (Frame.of_set w1 g 4 v1) (fun k e => .inl (.inl e))
  have hb1 := blk_grown h.blk hg n3
  have hne : ∀ k, v1.ownBlock = some k → ¬ k = g := fun k hk e => by
    obtain ⟨_, cc, hc⟩ := q_typed hq k hk
    rw [e] at hc
    have := hc.symm.trans hb1
    simp at this
  refine ⟨⟨(blk_set hb1 4 v1).trans rfl, qi_keep h.row hF (fun k hk e => e.elim (fun e => n2 (by rw [← e]; exact hk.symm)) (fun e => n6 k hk e)), h.map.keep hF (fun e => e.elim (fun e => n1 e.symm) (fun e => n5 e)), qi_keep hq (Frame.of_set w1 g 4 v1) (fun k hk e => hne k hk e), fun p hp => (h.els p hp).keep hF (fun ad e h' => h'.elim (n7 p hp ad e).1 (h.apart p hp ad e)), fun p hp ad e e' => ?_, h.queue, h.kept, h.bg, h.bm⟩, hF⟩
  rcases hat with e1 | ⟨b, e1, hb⟩
  · exact h.apart p hp ad e (e'.trans e1)
  · rw [e1] at e'
    obtain ⟨_, cc, hc⟩ := (h.els p hp).own ad e
    have h2 := blk_lt hc
    have h3 := Option.some.inj e'
    omega
/-- What comes is handed out. -/
theorem IsLine.hand {W : World} {base g : Nat} {vq : Value} {mb : Nat} {cv : Value} {qs ks : List Pk} {L : LS} (h : IsLine W base g vq mb cv qs ks L) :
    IsLine (W.setCell ⟨g, 4, none⟩ (.slice none 0 0)) base g vq mb (.slice none 0 0) qs ks { L with coming := [] } := by
  obtain ⟨n1, n2, n3, n4, n5, n6, n7⟩ := h.ne
  have hF := Frame.of_set W g 4 (.slice none 0 0)
  exact ⟨(blk_set h.blk 4 _).trans rfl, qi_keep h.row hF (fun k hk e => n2 (by rw [← e]; exact hk.symm)), h.map.keep hF (fun e => n1 e.symm), ⟨rfl, .inl ⟨rfl, none, rfl, fun a ha => by cases ha⟩⟩, fun p hp => (h.els p hp).keep hF (fun ad e => (n7 p hp ad e).1), fun p hp ad e e' => (by cases e'), h.queue, h.kept, h.bg, h.bm⟩
theorem dom_erase {g mb : Nat} {vq cv : Value} {qs ks : List Pk} {j k : Nat} (h : dom g mb vq cv (qs ++ ks.eraseIdx j) k) : dom g mb vq cv (qs ++ ks) k := by
  rcases h with h | h | h | h | ⟨p, hp, ad, e, h⟩
  · exact .inl h
  · exact .inr (.inl h)
  · exact .inr (.inr (.inl h))
  · exact .inr (.inr (.inr (.inl h)))
  · refine .inr (.inr (.inr (.inr ⟨p, ?_, ad, e, h⟩)))
    rcases List.mem_append.1 hp with hp | hp
    · exact List.mem_append_left _ hp
    · exact List.mem_append_right _ (List.mem_of_mem_eraseIdx hp)
set_option maxHeartbeats 4000000 in
set_option maxRecDepth 100000 in
theorem drain_calls (w : World) (base g : Nat) (D : Nat → Prop) (L : LS) (h : LineAt w base g D L) (hc : L.coming.length ≤ 1000000) (hk : ∀ p ∈ L.kept, p.f3.length ≤ 1000000) (ha : 0 ≤ L.await) (hk2 : L.kept.length ≤ 100000) (ha2 : L.await + L.kept.length ≤ 4611686018427387904) :
    Calls Tryd.prog 32 #[.pointer (some ⟨g, 0, none⟩)] w fun e w' => DrainIs w w' base g D e (drainS L) ∧ Frame w w' D := by
  obtain ⟨r, hr⟩ : ∃ r, drainS L = r := ⟨_, rfl⟩
  have HR := Aside0.mk (show drainF L.kept.length L [] = r from hr)
  obtain ⟨vq, mb, cv, qs, ks, hI, hD⟩ := h
  have I0 := Aside0.mk hI
  have HD := Aside0.mk hD
  have HDOM := Aside0.mk (show ∀ k, D k → k < w.heap.size from fun k hk => (hI.ge k ((hD k).1 hk)).2)
  have HA := Aside0.mk ha
  have HA2 := Aside0.mk ha2
  have HK2 := Aside0.mk hk2
  have HC := Aside0.mk hc
  have HKD := Aside0.mk hk
  rw [hr]
  have F0 := Aside0.mk (Frame.refl w D)
  have M0 : Aside0 (Msgs w base (.slice none 0 0) []) := ⟨⟨⟨rfl, .inl ⟨rfl, none, rfl, fun a ha => by cases ha⟩⟩, fun p hp => by simp at hp⟩⟩
  have OF0 : Aside0 (Off (dom g mb vq cv (qs ++ ks)) (.slice none 0 0) []) := ⟨⟨fun k hk => (by cases hk), fun p hp => by simp at hp⟩⟩
  clear hI hD ha ha2 hc hk hk2 hr
  go_enter Tryd.func32, Tryd.ntmps32
  go_wp2
  go_loopg [4] L.kept.length (fun kq v4 w' => ∃ (ms : List Pk) (L1 : LS) (cv1 : Value) (ks1 : List Pk), Aside0 (kq = L1.kept.length ∧ ms.length + L1.kept.length ≤ 100000) ∧ Aside0 (drainF L1.kept.length L1 (ms.map Pk.b) = r) ∧ Aside0 (IsLine w' base g vq mb cv1 qs ks1 L1) ∧ Aside0 (∀ k, dom g mb vq cv1 (qs ++ ks1) k → D k ∨ w.heap.size ≤ k) ∧ Aside0 (Msgs w' base v4 ms) ∧ Aside0 (Off (dom g mb vq cv1 (qs ++ ks1)) v4 ms) ∧ Aside0 (0 ≤ L1.await ∧ L1.await + L1.kept.length ≤ 4611686018427387904 ∧ L1.coming.length ≤ 1000000 ∧ ∀ p ∈ L1.kept, p.f3.length ≤ 1000000) ∧ Aside0 (On w D v4 ms) ∧ Aside0 (Frame w w' D))
  case atStart => exact ⟨[], L, cv, ks, ⟨rfl, by show 0 + _ ≤ _; have := HK2.out; omega⟩, HR, I0, ⟨fun k hk => .inl ((HD.out k).2 hk)⟩, M0, OF0, ⟨HA.out, HA2.out, HC.out, HKD.out⟩, ⟨⟨fun k hk => (by cases hk), fun p hp => (by simp at hp)⟩⟩, F0⟩
  case round =>
    clear I0 M0 OF0 F0 HA HA2 HC HKD HR
    obtain ⟨ms, L1, cv1, ks1, HK, HR, I1, D1, M1, O1, B1, V1, F1⟩ := hrel
    obtain ⟨aw, haw⟩ : ∃ aw, L1.await = aw := ⟨_, rfl⟩
    have HAW := Aside0.mk haw
    have aw0 : 0 ≤ aw := by rw [← haw]; exact B1.out.1
    have aw1 : aw ≤ 4611686018427387904 := by have := B1.out.2.1; omega
    have c2 := (blk_cell I1.out.blk 2).trans (show (⟨lineCells vq mb cv1 L1⟩ : Array Value)[2]? = some (.int .i64 aw) from by rw [← haw]; rfl)
    have c3 := (blk_cell I1.out.blk 3).trans (show (⟨lineCells vq mb cv1 L1⟩ : Array Value)[3]? = some (.map (some mb)) from rfl)
    have cm := I1.out.map
    have f2 := blk_frozen I1.out.blk 2
    have f3 := blk_frozen I1.out.blk 3
    have hlk : ∃ pk : Pk, (∀ W : World, MapIs W mb ks1 → (Instr.lookup 62 (.map (some mb)) (.int .i64 aw) true).run Tryd.prog W = .ok (.tuple #[.agg ⟨pk.cells⟩, .bool (fnd aw ks1).isSome]) W) ∧ ∀ j, fnd aw ks1 = some j → ks1.getD j pk0 = pk := ⟨_, fun W hW => run_lookup hW aw, fun j h => by rw [h]⟩
    obtain ⟨pk, lk, hpk⟩ := hlk
    obtain ⟨ok, hok⟩ : ∃ ok : Bool, (fnd aw ks1).isSome = ok := ⟨_, rfl⟩
    rw [hok] at lk
    have HPK := Aside0.mk hpk
    have HOK := Aside0.mk hok
    clear haw hpk hok
    go_upto_region 2 with (fail)
    have I2 := Aside0.mk (I1.out.below (below_drew1 (Below.refl wr.heap.size wr)))
    have M2 := Aside0.mk (M1.out.below (below_drew1 (Below.refl wr.heap.size wr)))
    have F2 := Aside0.mk (F1.out.trans (Frame.of_drewN wr 1 D) (fun k e => .inl e))
    have DB := Aside0.mk (show ∀ k, dom g mb vq cv1 (qs ++ ks1) k → k < wr.heap.size from fun k hk => (I1.out.ge k hk).2)
    have MB := Aside0.mk (show ∀ k, u4.ownBlock = some k → k < wr.heap.size from fun k hk => q_lt M1.out.row k hk)
    have MB2 := Aside0.mk (show ∀ p ∈ ms, ∀ ad, p.A = some ad → ad.block < wr.heap.size from fun p hp ad e => by
      obtain ⟨_, cc, h2⟩ := (M1.out.els p hp).own ad e
      exact blk_lt h2)
    have WS := Aside0.mk F1.out.size
    clear I1 M1 F1
    refine start_ (n := 15) (S := fun w' => w'.cell? ⟨g, 2, none⟩ = some (.int .i64 aw) ∧ w'.cell? ⟨g, 3, none⟩ = some (.map (some mb)) ∧ MapIs w' mb ks1) (ds := []) #[false, false, false, false, false, false, false, false, false, false, false, false, false, false, false] (by kernel_rfl) rfl rfl ⟨c2, c3, cm.below (below_drew1 (Below.refl wr.heap.size wr))⟩ (fun hHeld => ?_)
    refine pure_ (i := 0) (N := some 8) (v := ?_) (a' := ?_) #[true, false, false, false, false, false, false, false, false, false, false, false, false, false, false] rfl rfl (by kernel_rfl) (fun _ _ _ h => h) (Or.inl ⟨by rfl, ?_⟩) ?_ ?_
    rotate_left
    · intro w'
      go_simp
      with_reducible rfl
    rotate_left
    · simp only [Act.put, List.setIfInBounds_toArray, List.set_cons_zero, List.set_cons_succ, i64_w, i32_w]
      rfl
    refine pure_ (i := 1) (N := some 9) (v := ?_) (a' := ?_) #[true, true, false, false, false, false, false, false, false, false, false, false, false, false, false] rfl rfl (by kernel_rfl) (fun _ _ _ h => h) (Or.inl ⟨by rfl, ?_⟩) ?_ ?_
    rotate_left
    · intro w'
      go_simp
      with_reducible rfl
    rotate_left
    · simp only [Act.put, List.setIfInBounds_toArray, List.set_cons_zero, List.set_cons_succ, i64_w, i32_w]
      rfl
    refine pure_ (i := 2) (N := some 10) (v := ?_) (a' := ?_) #[true, true, true, false, false, false, false, false, false, false, false, false, false, false, false] rfl rfl (by kernel_rfl) (fun _ _ _ h => h) (Or.inl ⟨by rfl, ?_⟩) ?_ ?_
    rotate_left
    · intro w'
      go_simp
      with_reducible rfl
    rotate_left
    · simp only [Act.put, List.setIfInBounds_toArray, List.set_cons_zero, List.set_cons_succ, i64_w, i32_w]
      rfl
    refine pure_ (i := 4) (N := some 12) (v := ?_) (a' := ?_) #[true, true, true, false, true, false, false, false, false, false, false, false, false, false, false] rfl rfl (by kernel_rfl) (fun _ _ _ h => h) (Or.inl ⟨by rfl, ?_⟩) ?_ ?_
    rotate_left
    · intro w'
      go_simp
      with_reducible rfl
    rotate_left
    · simp only [Act.put, List.setIfInBounds_toArray, List.set_cons_zero, List.set_cons_succ, i64_w, i32_w]
      rfl
    refine pure_ (i := 5) (N := some 13) (v := ?_) (a' := ?_) #[true, true, true, false, true, true, false, false, false, false, false, false, false, false, false] rfl rfl (by kernel_rfl) (fun _ _ _ h => h) (Or.inl ⟨by rfl, ?_⟩) ?_ ?_
    rotate_left
    · intro w'
      go_simp
      with_reducible rfl
    rotate_left
    · simp only [Act.put, List.setIfInBounds_toArray, List.set_cons_zero, List.set_cons_succ, i64_w, i32_w]
      rfl
    refine pure_ (i := 6) (N := some 14) (v := ?_) (a' := ?_) #[true, true, true, false, true, true, true, false, false, false, false, false, false, false, false] rfl rfl (by kernel_rfl) (fun _ _ _ h => h) (Or.inl ⟨by rfl, ?_⟩) ?_ ?_
    rotate_left
    · intro w'
      go_simp
      with_reducible rfl
    rotate_left
    · simp only [Act.put, List.setIfInBounds_toArray, List.set_cons_zero, List.set_cons_succ, i64_w, i32_w]
      rfl
    refine take_ (i := 3) (N := some 11) (v := ?_) (a' := ?_) #[true, true, true, true, true, true, true, false, false, false, false, false, false, false, false] rfl rfl (by kernel_rfl) (fun _ _ _ h => h) (Or.inl ⟨by rfl, ?_⟩) hHeld ?_ ?_
    rotate_left
    · rintro w' ⟨s0, s1, s2⟩
      go_simp
      with_reducible rfl
    rotate_left
    · simp only [Act.put, List.setIfInBounds_toArray, List.set_cons_zero, List.set_cons_succ, i64_w, i32_w]
      rfl
    refine take_ (i := 7) (N := some 15) (v := ?_) (a' := ?_) #[true, true, true, true, true, true, true, true, false, false, false, false, false, false, false] rfl rfl (by kernel_rfl) (fun _ _ _ h => h) (Or.inl ⟨by rfl, ?_⟩) hHeld ?_ ?_
    rotate_left
    · rintro w' ⟨s0, s1, s2⟩
      go_simp
      with_reducible rfl
    rotate_left
    · simp only [Act.put, List.setIfInBounds_toArray, List.set_cons_zero, List.set_cons_succ, i64_w, i32_w]
      rfl
    refine take_ (i := 8) (N := some 16) (v := ?_) (a' := ?_) #[true, true, true, true, true, true, true, true, true, false, false, false, false, false, false] rfl rfl (by kernel_rfl) (fun _ _ _ h => h) (Or.inl ⟨by rfl, ?_⟩) hHeld ?_ ?_
    rotate_left
    · rintro w' ⟨s0, s1, s2⟩
      go_simp
      with_reducible rfl
    rotate_left
    · simp only [Act.put, List.setIfInBounds_toArray, List.set_cons_zero, List.set_cons_succ, i64_w, i32_w]
      rfl
    refine pure_ (i := 9) (N := some 7) (v := ?_) (a' := ?_) #[true, true, true, true, true, true, true, true, true, true, false, false, false, false, false] rfl rfl (by kernel_rfl) (fun _ _ _ h => h) (Or.inl ⟨by rfl, ?_⟩) ?_ ?_
    rotate_left
    · intro w'
      go_simp
      with_reducible rfl
    rotate_left
    · simp only [Act.put, List.setIfInBounds_toArray, List.set_cons_zero, List.set_cons_succ, i64_w, i32_w]
      rfl
    refine pure_ (i := 10) (N := some 17) (v := ?_) (a' := ?_) #[true, true, true, true, true, true, true, true, true, true, true, false, false, false, false] rfl rfl (by kernel_rfl) (fun _ _ _ h => h) (Or.inl ⟨by rfl, ?_⟩) ?_ ?_
    rotate_left
    · intro w'
      go_simp
      with_reducible rfl
    rotate_left
    · simp only [Act.put, List.setIfInBounds_toArray, List.set_cons_zero, List.set_cons_succ, i64_w, i32_w]
      rfl
    refine pure_ (i := 11) (N := some 18) (v := ?_) (a' := ?_) #[true, true, true, true, true, true, true, true, true, true, true, true, false, false, false] rfl rfl (by kernel_rfl) (fun _ _ _ h => h) (Or.inl ⟨by rfl, ?_⟩) ?_ ?_
    rotate_left
    · intro w'
      go_simp
      with_reducible rfl
    rotate_left
    · simp only [Act.put, List.setIfInBounds_toArray, List.set_cons_zero, List.set_cons_succ, i64_w, i32_w]
      rfl
    refine one_ (i := 12) (N := some 5) #[true, true, true, true, true, true, true, true, true, true, true, true, true, false, false] rfl rfl (by kernel_rfl) (by decide) (fun K hK => ?_)
    refine box_step (by rfl) (N := 5) rfl (cs := ⟨pk0.cells⟩) (t := 37) ?hr12 ?_
    case hr12 => first | (go_simp; done) | (go_simp; rfl)
    intro q hq w3 hbox hb
    have X3 := Aside0.mk hbox
    have NQ := Aside0.mk (show wr.heap.size ≤ q by rw [hq]; exact Nat.le_refl _)
    have I3 := Aside0.mk (I2.out.below hb)
    have M3 := Aside0.mk (M2.out.below hb)
    have F3 := Aside0.mk (F2.out.trans (Frame.of_below hb) (fun _ h => h.elim))
    clear hq hbox hb
    refine hK.out _ _ ⟨(blk_cell I3.out.blk 2).trans (by rw [← HAW.out]; rfl), (blk_cell I3.out.blk 3).trans rfl, I3.out.map⟩ (fun hHeld => ?_)
    clear hK K
    refine norm_ (a' := ?_) ?_ ?_
    rotate_left
    · show Act.put _ (some 5) _ = _
      simp only [Act.put, List.setIfInBounds_toArray, List.set_cons_zero, List.set_cons_succ, i64_w, i32_w]
      rfl
    refine one_ (i := 13) (N := none) #[true, true, true, true, true, true, true, true, true, true, true, true, true, true, false] rfl rfl (by kernel_rfl) (by decide) (fun K hK => ?_)
    refine mid_step (by rfl) rfl 37 (.tmp 5) (.tmp 17) rfl q 0 ⟨pk.cells⟩ rfl rfl (by have h := box_there X3.out; exact h) rfl (pk_all _) ?_
    have FS := Aside0.mk (Frame.of_setCells w3 q 0 pk.cells)
    have X4 := Aside0.mk (box_put pk.cells X3.out rfl)
    have I4 := Aside0.mk (I3.out.keep FS.out (fun k hk e => by have h1 := DB.out k hk; have h2 := NQ.out; have e' : k = q := e; omega))
    have M4 := Aside0.mk (M3.out.keep FS.out (fun k hk e => by have h1 := MB.out k hk; have h2 := NQ.out; have e' : k = q := e; omega) (fun p hp ad e h => by have h1 := MB2.out p hp ad e; have h2 := NQ.out; have e' : ad.block = q := h; omega))
    have F4 := Aside0.mk (F3.out.trans FS.out (fun k e => .inr (by have h2 := NQ.out; have h3 := WS.out; have e' : k = q := e; omega)))
    refine hK.out _ _ ⟨(blk_cell I4.out.blk 2).trans (by rw [← HAW.out]; rfl), (blk_cell I4.out.blk 3).trans rfl, I4.out.map⟩ (fun hHeld => ?_)
    clear hK K
    refine pure_ (i := 14) (N := some 6) (v := ?_) (a' := ?_) #[true, true, true, true, true, true, true, true, true, true, true, true, true, true, true] rfl rfl (by kernel_rfl) (fun _ _ _ h => h) (Or.inl ⟨by rfl, ?_⟩) ?_ ?_
    rotate_left
    · intro w'
      go_simp
      with_reducible rfl
    rotate_left
    · simp only [Act.put, List.setIfInBounds_toArray, List.set_cons_zero, List.set_cons_succ, i64_w, i32_w]
      rfl
    refine done_ (by kernel_rfl) ?_
    obtain ⟨w4, hw4⟩ : ∃ w4, w3.setCells q 0 pk.cells = w4 := ⟨_, rfl⟩
    have e4 : w3.setCells q 0 (⟨pk.cells⟩ : Array Value).toList = w4 := hw4
    try rw [e4]
    try rw [hw4]
    rw [hw4] at X4 I4 M4 F4
    clear hw4 e4 FS X3 I3 M3 F3 I2 M2 F2 lk c2 c3 f2 f3 cm
    cases hf : fnd aw ks1 with
    | none =>
      have e0 : ok = false := by rw [← HOK.out, hf]; rfl
      subst e0
      have E : Aside0 (drainF L1.kept.length L1 (ms.map Pk.b) = (L1, ms.map Pk.b, none)) := ⟨by
        cases hn : L1.kept.length with
        | zero => rfl
        | succ n =>
          unfold drainF
          rw [HAW.out, ← I4.out.kept, fnd_say, hf]⟩
      clear hf
      go_wp2
      go_ret2
      refine ⟨⟨u4, ms, _, ?_, ⟨vq, mb, cv1, qs, ks1, ?_, fun k => Iff.rfl⟩, D1.out, M4.out, ?_, O1.out, V1.out⟩, F4.out⟩
      · rw [← HR.out, E.out]; rfl
      · rw [← HR.out, E.out]; exact I4.out
      · rw [← HR.out, E.out]
    | some j =>
      have e0 : ok = true := by rw [← HOK.out, hf]; rfl
      subst e0
      obtain ⟨hj, hjn⟩ := fnd_lt hf
      have HJ := Aside0.mk hf
      have ep : ks1[j] = pk := by rw [← HPK.out j hf, List.getD_eq_getElem?_getD, List.getElem?_eq_getElem hj]; rfl
      have EP := Aside0.mk (show ks1[j]? = some pk by rw [List.getElem?_eq_getElem hj, ep])
      have HJL := Aside0.mk (show j < ks1.length from hj)
      have PI := Aside0.mk (show pk ∈ qs ++ ks1 from List.mem_append_right _ (by rw [← ep]; exact List.getElem_mem hj))
      have OP := Aside0.mk (I4.out.els pk PI.out)
      have AP := Aside0.mk (I4.out.apart pk PI.out)
      have KE := Aside0.mk (show ks1.map Pk.say = L1.kept from I4.out.kept)
      clear ep hf hj hjn
      have c2 := (blk_cell I4.out.blk 2).trans (show (⟨lineCells vq mb cv1 L1⟩ : Array Value)[2]? = some (.int .i64 aw) from by rw [← HAW.out]; rfl)
      have c3 := (blk_cell I4.out.blk 3).trans (show (⟨lineCells vq mb cv1 L1⟩ : Array Value)[3]? = some (.map (some mb)) from rfl)
      go_upto_region 5 with (fail)
      have I5 := Aside0.mk (I4.out.below (below_drew1 (Below.refl w4.heap.size w4)))
      have M5 := Aside0.mk (M4.out.below (below_drew1 (Below.refl w4.heap.size w4)))
      have OP5 := Aside0.mk (OP.out.below (below_drew1 (Below.refl w4.heap.size w4)))
      have X5 := Aside0.mk (blk_drew X4.out)
      have F5 := Aside0.mk (F4.out.trans (Frame.of_drewN w4 1 D) (fun k e => .inl e))
      clear I4 M4 F4 OP X4
      refine start_ (n := 9) (S := fun w' => w'.cell? ⟨g, 2, none⟩ = some (.int .i64 aw) ∧ w'.cell? ⟨g, 3, none⟩ = some (.map (some mb))) (ds := []) #[false, false, false, false, false, false, false, false, false] (by kernel_rfl) rfl rfl ⟨c2, c3⟩ (fun hHeld => ?_)
      refine pure_ (i := 0) (N := some 22) (v := ?_) (a' := ?_) #[true, false, false, false, false, false, false, false, false] rfl rfl (by kernel_rfl) (fun _ _ _ h => h) (Or.inl ⟨by rfl, ?_⟩) ?_ ?_
      rotate_left
      · intro w'
        go_simp
        with_reducible rfl
      rotate_left
      · simp only [Act.put, List.setIfInBounds_toArray, List.set_cons_zero, List.set_cons_succ, i64_w, i32_w]
        rfl
      refine pure_ (i := 1) (N := some 23) (v := ?_) (a' := ?_) #[true, true, false, false, false, false, false, false, false] rfl rfl (by kernel_rfl) (fun _ _ _ h => h) (Or.inl ⟨by rfl, ?_⟩) ?_ ?_
      rotate_left
      · intro w'
        go_simp
        with_reducible rfl
      rotate_left
      · simp only [Act.put, List.setIfInBounds_toArray, List.set_cons_zero, List.set_cons_succ, i64_w, i32_w]
        rfl
      refine pure_ (i := 2) (N := some 24) (v := ?_) (a' := ?_) #[true, true, true, false, false, false, false, false, false] rfl rfl (by kernel_rfl) (fun _ _ _ h => h) (Or.inl ⟨by rfl, ?_⟩) ?_ ?_
      rotate_left
      · intro w'
        go_simp
        with_reducible rfl
      rotate_left
      · simp only [Act.put, List.setIfInBounds_toArray, List.set_cons_zero, List.set_cons_succ, i64_w, i32_w]
        rfl
      refine pure_ (i := 4) (N := some 26) (v := ?_) (a' := ?_) #[true, true, true, false, true, false, false, false, false] rfl rfl (by kernel_rfl) (fun _ _ _ h => h) (Or.inl ⟨by rfl, ?_⟩) ?_ ?_
      rotate_left
      · intro w'
        go_simp
        with_reducible rfl
      rotate_left
      · simp only [Act.put, List.setIfInBounds_toArray, List.set_cons_zero, List.set_cons_succ, i64_w, i32_w]
        rfl
      refine pure_ (i := 5) (N := some 27) (v := ?_) (a' := ?_) #[true, true, true, false, true, true, false, false, false] rfl rfl (by kernel_rfl) (fun _ _ _ h => h) (Or.inl ⟨by rfl, ?_⟩) ?_ ?_
      rotate_left
      · intro w'
        go_simp
        with_reducible rfl
      rotate_left
      · simp only [Act.put, List.setIfInBounds_toArray, List.set_cons_zero, List.set_cons_succ, i64_w, i32_w]
        rfl
      refine pure_ (i := 6) (N := some 28) (v := ?_) (a' := ?_) #[true, true, true, false, true, true, true, false, false] rfl rfl (by kernel_rfl) (fun _ _ _ h => h) (Or.inl ⟨by rfl, ?_⟩) ?_ ?_
      rotate_left
      · intro w'
        go_simp
        with_reducible rfl
      rotate_left
      · simp only [Act.put, List.setIfInBounds_toArray, List.set_cons_zero, List.set_cons_succ, i64_w, i32_w]
        rfl
      refine take_ (i := 3) (N := some 25) (v := ?_) (a' := ?_) #[true, true, true, true, true, true, true, false, false] rfl rfl (by kernel_rfl) (fun _ _ _ h => h) (Or.inl ⟨by rfl, ?_⟩) hHeld ?_ ?_
      rotate_left
      · rintro w' ⟨s0, s1⟩
        go_simp
        with_reducible rfl
      rotate_left
      · simp only [Act.put, List.setIfInBounds_toArray, List.set_cons_zero, List.set_cons_succ, i64_w, i32_w]
        rfl
      refine take_ (i := 7) (N := some 29) (v := ?_) (a' := ?_) #[true, true, true, true, true, true, true, true, false] rfl rfl (by kernel_rfl) (fun _ _ _ h => h) (Or.inl ⟨by rfl, ?_⟩) hHeld ?_ ?_
      rotate_left
      · rintro w' ⟨s0, s1⟩
        go_simp
        with_reducible rfl
      rotate_left
      · simp only [Act.put, List.setIfInBounds_toArray, List.set_cons_zero, List.set_cons_succ, i64_w, i32_w]
        rfl
      refine one_ (i := 8) (N := none) #[true, true, true, true, true, true, true, true, true] rfl rfl (by kernel_rfl) (by decide) (fun K hK => ?_)
      refine del_step (by rfl) rfl (.tmp 25) (.tmp 29) (by rfl) (by rfl) (by rfl) I5.out.map HJ.out ?_
      intro w6 hm hf
      have I6 := Aside0.mk (I5.out.erase hm hf)
      have M6 := Aside0.mk (M5.out.keep hf (fun k hk e => O1.out.1 k hk (.inr (.inl e))) (fun p hp ad ea e => O1.out.2 p hp ad ea (.inr (.inl e))))
      have OP6 := Aside0.mk (OP5.out.keep hf (fun ad ea e => (I5.out.ne.2.2.2.2.2.2 pk PI.out ad ea).2.1 e))
      have X6 := Aside0.mk (hf.blk X5.out (fun e => by have h1 := DB.out mb (.inr (.inl rfl)); have h2 := NQ.out; have e' : q = mb := e; omega))
      have F6 := Aside0.mk (F5.out.trans hf (fun k e => by have e' : k = mb := e; exact D1.out k (.inr (.inl e'))))
      clear hm hf I5 M5 OP5 X5 F5
      refine hK.out _ _ ⟨(blk_cell I6.out.blk 2).trans (by rw [← HAW.out]; rfl), (blk_cell I6.out.blk 3).trans rfl⟩ (fun hHeld => ?_)
      clear hK K
      refine done_ (by kernel_rfl) ?_
      clear c2 c3
      have D2 := Aside0.mk (show ∀ k, dom g mb vq cv1 (qs ++ ks1.eraseIdx j) k → D k ∨ w.heap.size ≤ k from fun k hk => D1.out k (dom_erase hk))
      have O2 := Aside0.mk (show Off (dom g mb vq cv1 (qs ++ ks1.eraseIdx j)) u4 ms from ⟨fun k hk e => O1.out.1 k hk (dom_erase e), fun p hp ad ea e => O1.out.2 p hp ad ea (dom_erase e)⟩)
      have HG := Aside0.mk (show L1.kept[j]? = some pk.say by rw [← KE.out, List.getElem?_map, EP.out]; rfl)
      have HPL := Aside0.mk (show pk.say ∈ L1.kept from List.mem_of_getElem? HG.out)
      have HL := Aside0.mk (show L1.kept.length = (L1.kept.eraseIdx j).length + 1 by
        rw [List.length_eraseIdx, if_pos (by rw [← KE.out, List.length_map]; exact HJL.out)]
        have h1 := HJL.out
        have h2 := congrArg List.length KE.out
        rw [List.length_map] at h2
        omega)
      obtain ⟨L2, hL2⟩ : ∃ L2 : LS, ({ L1 with kept := L1.kept.eraseIdx j } : LS) = L2 := ⟨_, rfl⟩
      have HL2 := Aside0.mk hL2
      rw [hL2] at I6
      clear hL2
      obtain ⟨Ac, cc, hcv, hcc⟩ := q_slice I6.out.com
      subst hcv
      obtain ⟨ack, num, last, Ap, cp, bp⟩ := pk
      have HBP := Aside0.mk (show bp.length ≤ 1000000 from B1.out.2.2.2 _ HPL.out)
      have bc : L2.coming.length ≤ 1000000 := by rw [← HL2.out]; exact B1.out.2.2.1
      have bb := HBP.out
      have c4 := (blk_cell I6.out.blk 4).trans (show (⟨lineCells vq mb (.slice Ac L2.coming.length cc) L2⟩ : Array Value)[4]? = some (.slice Ac L2.coming.length cc) from rfl)
      have x3 := (blk_cell X6.out 3).trans (show (⟨Pk.cells ⟨ack, num, last, Ap, cp, bp⟩⟩ : Array Value)[3]? = some (.slice Ap bp.length cp) from rfl)
      go_upto_region 6 with (fail)
      have w2' : wrap64 ((L2.coming.length : Int) + (bp.length : Int)) = (L2.coming.length : Int) + (bp.length : Int) := by unfold wrap64; omega
      refine start_ (n := 10) (S := fun w' => w'.cell? ⟨g, 4, none⟩ = some (.slice Ac L2.coming.length cc) ∧ w'.cell? ⟨q, 3, none⟩ = some (.slice Ap bp.length cp)) (ds := []) #[false, false, false, false, false, false, false, false, false, false] (by kernel_rfl) rfl rfl ⟨c4, x3⟩ (fun hHeld => ?_)
      refine pure_ (i := 0) (N := some 30) (v := ?_) (a' := ?_) #[true, false, false, false, false, false, false, false, false, false] rfl rfl (by kernel_rfl) (fun _ _ _ h => h) (Or.inl ⟨by rfl, ?_⟩) ?_ ?_
      rotate_left
      · intro w'
        go_simp
        with_reducible rfl
      rotate_left
      · simp only [Act.put, List.setIfInBounds_toArray, List.set_cons_zero, List.set_cons_succ, i64_w, i32_w]
        rfl
      refine pure_ (i := 1) (N := some 31) (v := ?_) (a' := ?_) #[true, true, false, false, false, false, false, false, false, false] rfl rfl (by kernel_rfl) (fun _ _ _ h => h) (Or.inl ⟨by rfl, ?_⟩) ?_ ?_
      rotate_left
      · intro w'
        go_simp
        with_reducible rfl
      rotate_left
      · simp only [Act.put, List.setIfInBounds_toArray, List.set_cons_zero, List.set_cons_succ, i64_w, i32_w]
        rfl
      refine pure_ (i := 2) (N := some 32) (v := ?_) (a' := ?_) #[true, true, true, false, false, false, false, false, false, false] rfl rfl (by kernel_rfl) (fun _ _ _ h => h) (Or.inl ⟨by rfl, ?_⟩) ?_ ?_
      rotate_left
      · intro w'
        go_simp
        with_reducible rfl
      rotate_left
      · simp only [Act.put, List.setIfInBounds_toArray, List.set_cons_zero, List.set_cons_succ, i64_w, i32_w]
        rfl
      refine pure_ (i := 5) (N := some 35) (v := ?_) (a' := ?_) #[true, true, true, false, false, true, false, false, false, false] rfl rfl (by kernel_rfl) (fun _ _ _ h => h) (Or.inl ⟨by rfl, ?_⟩) ?_ ?_
      rotate_left
      · intro w'
        go_simp
        with_reducible rfl
      rotate_left
      · simp only [Act.put, List.setIfInBounds_toArray, List.set_cons_zero, List.set_cons_succ, i64_w, i32_w]
        rfl
      refine take_ (i := 3) (N := some 33) (v := ?_) (a' := ?_) #[true, true, true, true, false, true, false, false, false, false] rfl rfl (by kernel_rfl) (fun _ _ _ h => h) (Or.inl ⟨by rfl, ?_⟩) hHeld ?_ ?_
      rotate_left
      · rintro w' ⟨s0, s1⟩
        go_simp
        with_reducible rfl
      rotate_left
      · simp only [Act.put, List.setIfInBounds_toArray, List.set_cons_zero, List.set_cons_succ, i64_w, i32_w]
        rfl
      refine pure_ (i := 4) (N := some 34) (v := ?_) (a' := ?_) #[true, true, true, true, true, true, false, false, false, false] rfl rfl (by kernel_rfl) (fun _ _ _ h => h) (Or.inl ⟨by rfl, ?_⟩) ?_ ?_
      rotate_left
      · intro w'
        go_simp
        with_reducible rfl
      rotate_left
      · simp only [Act.put, List.setIfInBounds_toArray, List.set_cons_zero, List.set_cons_succ, i64_w, i32_w]
        rfl
      refine take_ (i := 6) (N := some 36) (v := ?_) (a' := ?_) #[true, true, true, true, true, true, true, false, false, false] rfl rfl (by kernel_rfl) (fun _ _ _ h => h) (Or.inl ⟨by rfl, ?_⟩) hHeld ?_ ?_
      rotate_left
      · rintro w' ⟨s0, s1⟩
        go_simp
        with_reducible rfl
      rotate_left
      · simp only [Act.put, List.setIfInBounds_toArray, List.set_cons_zero, List.set_cons_succ, i64_w, i32_w]
        rfl
      refine pure_ (i := 7) (N := some 37) (v := ?_) (a' := ?_) #[true, true, true, true, true, true, true, true, false, false] rfl rfl (by kernel_rfl) (fun _ _ _ h => h) (Or.inl ⟨by rfl, ?_⟩) ?_ ?_
      rotate_left
      · intro w'
        go_simp
        with_reducible rfl
      rotate_left
      · simp only [Act.put, List.setIfInBounds_toArray, List.set_cons_zero, List.set_cons_succ, i64_w, i32_w]
        rfl
      refine pure_ (i := 8) (N := some 38) (v := ?_) (a' := ?_) #[true, true, true, true, true, true, true, true, true, false] rfl rfl (by kernel_rfl) (fun _ _ _ h => h) (Or.inl ⟨by rfl, ?_⟩) ?_ ?_
      rotate_left
      · intro w'
        go_simp
        with_reducible rfl
      rotate_left
      · simp only [Act.put, List.setIfInBounds_toArray, List.set_cons_zero, List.set_cons_succ, i64_w, i32_w]
        rfl
      refine pure_ (i := 9) (N := some 39) (v := ?_) (a' := ?_) #[true, true, true, true, true, true, true, true, true, true] rfl rfl (by kernel_rfl) (fun _ _ _ h => h) (Or.inl ⟨by rfl, ?_⟩) ?_ ?_
      rotate_left
      · intro w'
        go_simp
        with_reducible rfl
      rotate_left
      · simp only [Act.put, List.setIfInBounds_toArray, List.set_cons_zero, List.set_cons_succ, i64_w, i32_w]
        rfl
      refine done_ (by kernel_rfl) ?_
      clear w2' c4 x3
      have I7 := Aside0.mk (I6.out.below (below_drew1 (Below.refl w6.heap.size w6)))
      have M7 := Aside0.mk (M6.out.below (below_drew1 (Below.refl w6.heap.size w6)))
      have P7 := Aside0.mk (OP6.out.below (below_drew1 (Below.refl w6.heap.size w6)))
      have X7 := Aside0.mk (blk_drew X6.out)
      have F7 := Aside0.mk (show Frame w w6.drew D from F6.out.trans (Frame.of_drewN w6 1 D) (fun k e => .inl e))
      clear I6 M6 OP6 X6 F6
      obtain ⟨w7, hw7⟩ : ∃ w7, w6.drew = w7 := ⟨_, rfl⟩
      rw [hw7] at I7 M7 P7 X7 F7
      rw [hw7]
      clear hw7
      have es := drainF_step (n := (L1.kept.eraseIdx j).length) (ms := ms.map Pk.b) (L := L1) (j := j) (by rw [HAW.out, ← KE.out, fnd_say]; exact HJ.out) HG.out
      rw [← HL.out, HR.out] at es
      have ES := Aside0.mk es
      clear es
      have HCC := Aside0.mk (show L2.coming = L1.coming from by rw [← HL2.out])
      by_cases hlong : 8192 < (L2.coming.length : Int) + (bp.length : Int)
      · have ER : Aside0 (r = (L2, ms.map Pk.b, some 6)) := ⟨by rw [ES.out, if_pos (by rw [← HCC.out]; show 8192 < _ + bp.length; omega), HL2.out]⟩
        go_wp2
        go_ret2
        refine ⟨⟨u4, ms, _, ?_, ⟨vq, mb, _, qs, _, ?_, fun k => Iff.rfl⟩, D2.out, M7.out, ?_, O2.out, V1.out⟩, F7.out⟩
        · rw [ER.out]; rfl
        · rw [ER.out]; exact I7.out
        · rw [ER.out]
      · have EN : Aside0 (¬ 8192 < L1.coming.length + (Pk.say ⟨ack, num, last, Ap, cp, bp⟩).f3.length) := ⟨by rw [← HCC.out]; show ¬ 8192 < _ + bp.length; omega⟩
        have c2 := (blk_cell I7.out.blk 2).trans (show (⟨lineCells vq mb (.slice Ac L2.coming.length cc) L2⟩ : Array Value)[2]? = some (.int .i64 aw) from by rw [← HL2.out, ← HAW.out]; rfl)
        have f2 := blk_frozen I7.out.blk 2
        have w1' : wrap64 (aw + 1) = aw + 1 := by unfold wrap64; omega
        go_upto_region 9 with (fail)
        clear w1' c2
        have FS := Aside0.mk (Frame.of_set w7 g 2 (.int .i64 (aw + 1)))
        have I8 := Aside0.mk (I7.out.upd (L' := { L2 with await := aw + 1 }) FS.out ((blk_set I7.out.blk 2 _).trans rfl) rfl rfl rfl)
        have M8 := Aside0.mk (M7.out.keep FS.out (fun k hk e => O2.out.1 k hk (.inl e)) (fun p hp ad ea e => O2.out.2 p hp ad ea (.inl e)))
        have P8 := Aside0.mk (P7.out.keep FS.out (fun ad ea e => by
          obtain ⟨_, cc', h2⟩ := P7.out.own ad ea
          have e' : ad.block = g := e
          rw [e'] at h2
          have := h2.symm.trans I7.out.blk
          simp at this))
        have X8 := Aside0.mk (FS.out.blk X7.out (fun e => by have h1 := DB.out g (.inl rfl); have h2 := NQ.out; have e' : q = g := e; omega))
        have F8 := Aside0.mk (F7.out.trans FS.out (fun k e => by have e' : k = g := e; exact D1.out k (.inl e')))
        obtain ⟨w8, hw8⟩ : ∃ w8, w7.setCell ⟨g, 2, none⟩ (.int .i64 (aw + 1)) = w8 := ⟨_, rfl⟩
        rw [hw8] at I8 M8 P8 X8 F8
        rw [hw8]
        clear hw8 FS I7 M7 P7 X7 F7 f2
        have c4 := (blk_cell I8.out.blk 4).trans (show (⟨lineCells vq mb (.slice Ac L2.coming.length cc) { L2 with await := aw + 1 }⟩ : Array Value)[4]? = some (.slice Ac L2.coming.length cc) from rfl)
        have x3 := (blk_cell X8.out 3).trans (show (⟨Pk.cells ⟨ack, num, last, Ap, cp, bp⟩⟩ : Array Value)[3]? = some (.slice Ap bp.length cp) from rfl)
        have I9 := Aside0.mk (I8.out.below (below_drew1 (Below.refl w8.heap.size w8)))
        have M9 := Aside0.mk (M8.out.below (below_drew1 (Below.refl w8.heap.size w8)))
        have P9 := Aside0.mk (P8.out.below (below_drew1 (Below.refl w8.heap.size w8)))
        have X9 := Aside0.mk (blk_drew X8.out)
        have F9 := Aside0.mk (show Frame w w8.drew D from F8.out.trans (Frame.of_drewN w8 1 D) (fun k e => .inl e))
        clear I8 M8 P8 X8 F8
        have WR := Aside0.mk (show ∀ k, dom g mb vq (.slice Ac L2.coming.length cc) (qs ++ ks1.eraseIdx j) k → base ≤ k ∧ k < w8.drew.heap.size from fun k hk => I9.out.ge k hk)
        refine start_ (n := 11) (S := fun w' => w'.cell? ⟨g, 4, none⟩ = some (.slice Ac L2.coming.length cc) ∧ w'.cell? ⟨q, 3, none⟩ = some (.slice Ap bp.length cp)) (ds := [10]) #[false, false, false, false, false, false, false, false, false, false, false] (by kernel_rfl) rfl rfl ⟨c4, x3⟩ (fun hHeld => ?_)
        refine pure_ (i := 0) (N := some 49) (v := ?_) (a' := ?_) #[true, false, false, false, false, false, false, false, false, false, false] rfl rfl (by kernel_rfl) (fun _ _ _ h => h) (Or.inl ⟨by rfl, ?_⟩) ?_ ?_
        rotate_left
        · intro w'
          go_simp
          with_reducible rfl
        rotate_left
        · simp only [Act.put, List.setIfInBounds_toArray, List.set_cons_zero, List.set_cons_succ, i64_w, i32_w]
          rfl
        refine pure_ (i := 1) (N := some 50) (v := ?_) (a' := ?_) #[true, true, false, false, false, false, false, false, false, false, false] rfl rfl (by kernel_rfl) (fun _ _ _ h => h) (Or.inl ⟨by rfl, ?_⟩) ?_ ?_
        rotate_left
        · intro w'
          go_simp
          with_reducible rfl
        rotate_left
        · simp only [Act.put, List.setIfInBounds_toArray, List.set_cons_zero, List.set_cons_succ, i64_w, i32_w]
          rfl
        refine pure_ (i := 2) (N := some 51) (v := ?_) (a' := ?_) #[true, true, true, false, false, false, false, false, false, false, false] rfl rfl (by kernel_rfl) (fun _ _ _ h => h) (Or.inl ⟨by rfl, ?_⟩) ?_ ?_
        rotate_left
        · intro w'
          go_simp
          with_reducible rfl
        rotate_left
        · simp only [Act.put, List.setIfInBounds_toArray, List.set_cons_zero, List.set_cons_succ, i64_w, i32_w]
          rfl
        refine pure_ (i := 3) (N := some 52) (v := ?_) (a' := ?_) #[true, true, true, true, false, false, false, false, false, false, false] rfl rfl (by kernel_rfl) (fun _ _ _ h => h) (Or.inl ⟨by rfl, ?_⟩) ?_ ?_
        rotate_left
        · intro w'
          go_simp
          with_reducible rfl
        rotate_left
        · simp only [Act.put, List.setIfInBounds_toArray, List.set_cons_zero, List.set_cons_succ, i64_w, i32_w]
          rfl
        refine pure_ (i := 5) (N := some 54) (v := ?_) (a' := ?_) #[true, true, true, true, false, true, false, false, false, false, false] rfl rfl (by kernel_rfl) (fun _ _ _ h => h) (Or.inl ⟨by rfl, ?_⟩) ?_ ?_
        rotate_left
        · intro w'
          go_simp
          with_reducible rfl
        rotate_left
        · simp only [Act.put, List.setIfInBounds_toArray, List.set_cons_zero, List.set_cons_succ, i64_w, i32_w]
          rfl
        refine take_ (i := 4) (N := some 53) (v := ?_) (a' := ?_) #[true, true, true, true, true, true, false, false, false, false, false] rfl rfl (by kernel_rfl) (fun _ _ _ h => h) (Or.inl ⟨by rfl, ?_⟩) hHeld ?_ ?_
        rotate_left
        · rintro w' ⟨s0, s1⟩
          go_simp
          with_reducible rfl
        rotate_left
        · simp only [Act.put, List.setIfInBounds_toArray, List.set_cons_zero, List.set_cons_succ, i64_w, i32_w]
          rfl
        refine take_ (i := 6) (N := some 55) (v := ?_) (a' := ?_) #[true, true, true, true, true, true, true, false, false, false, false] rfl rfl (by kernel_rfl) (fun _ _ _ h => h) (Or.inl ⟨by rfl, ?_⟩) hHeld ?_ ?_
        rotate_left
        · rintro w' ⟨s0, s1⟩
          go_simp
          with_reducible rfl
        rotate_left
        · simp only [Act.put, List.setIfInBounds_toArray, List.set_cons_zero, List.set_cons_succ, i64_w, i32_w]
          rfl
        refine one_ (i := 7) (N := some 56) #[true, true, true, true, true, true, true, true, false, false, false] rfl rfl (by kernel_rfl) (by decide) (fun K hK => ?_)
        refine append_step (base := base) (v := .slice Ac L2.coming.length cc) (rest := L2.coming) (p := bp) (A := Ap) (c := cp) (by rfl) (.tmp 53) (.tmp 55) (by rfl) (by rfl) (by rfl) I9.out.com P9.out.bytes (by omega) ?hbs ?_
        case hbs => have h1 := WR.out g (.inl rfl); omega
        intro v10 w10 hq hg hat
        obtain ⟨A10, k10, hv10, hle10⟩ := q_slice hq
        subst hv10
        obtain ⟨n10, hn10⟩ : ∃ n10, (L2.coming ++ bp).length = n10 := ⟨_, rfl⟩
        have K10 := Aside0.mk (blk_grown I9.out.blk hg I9.out.ne.2.2.1)
        have G10 := Aside0.mk hg
        have N10 := Aside0.mk (I9.out.comes hq hg hat)
        have T10 := Aside0.mk hat
        have X10 := Aside0.mk (blk_grown X9.out hg (fun e => by have h1 := DB.out q (.inr (.inr (.inr (.inl e)))); have h2 := NQ.out; omega))
        clear hq hg hat
        rw [hn10] at N10 T10 ⊢
        have HN10 := Aside0.mk hn10
        clear hn10 hle10
        refine hK.out _ _ ⟨(blk_cell K10.out 4).trans rfl, (blk_cell X10.out 3).trans rfl⟩ (fun hHeld => ?_)
        clear hK K
        refine norm_ (a' := ?_) ?_ ?_
        rotate_left
        · show Act.put _ (some 56) _ = _
          simp only [Act.put, List.setIfInBounds_toArray, List.set_cons_zero, List.set_cons_succ, i64_w, i32_w]
          rfl
        refine pure_ (i := 8) (N := some 57) (v := ?_) (a' := ?_) #[true, true, true, true, true, true, true, true, true, false, false] rfl rfl (by kernel_rfl) (fun _ _ _ h => h) (Or.inl ⟨by rfl, ?_⟩) ?_ ?_
        rotate_left
        · intro w'
          go_simp
          with_reducible rfl
        rotate_left
        · simp only [Act.put, List.setIfInBounds_toArray, List.set_cons_zero, List.set_cons_succ, i64_w, i32_w]
          rfl
        refine pure_ (i := 9) (N := some 58) (v := ?_) (a' := ?_) #[true, true, true, true, true, true, true, true, true, true, false] rfl rfl (by kernel_rfl) (fun _ _ _ h => h) (Or.inl ⟨by rfl, ?_⟩) ?_ ?_
        rotate_left
        · intro w'
          go_simp
          with_reducible rfl
        rotate_left
        · simp only [Act.put, List.setIfInBounds_toArray, List.set_cons_zero, List.set_cons_succ, i64_w, i32_w]
          rfl
        refine last_ (i := 10) (N := none) #[true, true, true, true, true, true, true, true, true, true, true] rfl rfl (by kernel_rfl) (by decide) (fun K hK => ?_)
        have f4 := blk_frozen K10.out 4
        refine skip_ (w1 := ?_) (by rfl) rfl ?_ ?_
        rotate_left
        · go_simp
          rfl
        refine hK.out _ _ ?_
        clear hK K
        refine done_ (by kernel_rfl) ?_
        have M11 := Aside0.mk (M9.out.keep N10.out.2 (fun k hk e => O2.out.1 k hk (e.elim (fun e => .inl e) (fun e => .inr (.inr (.inr (.inl e)))))) (fun p hp ad ea e => O2.out.2 p hp ad ea (e.elim (fun e => .inl e) (fun e => .inr (.inr (.inr (.inl e)))))))
        have F11 := Aside0.mk (F9.out.trans N10.out.2 (fun k e => D2.out k (e.elim (fun e => .inl e) (fun e => .inr (.inr (.inr (.inl e)))))))
        have I11 := Aside0.mk N10.out.1
        have X11 := Aside0.mk ((Frame.of_set w10 g 4 (.slice A10 n10 k10)).blk X10.out (fun e => by have h1 := DB.out g (.inl rfl); have h2 := NQ.out; have e' : q = g := e; omega))
        have S9 := Aside0.mk (show wr.heap.size ≤ w8.drew.heap.size by have h1 := NQ.out; have h2 := blk_lt X9.out; omega)
        have D11 := Aside0.mk (show ∀ k, dom g mb vq (.slice A10 n10 k10) (qs ++ ks1.eraseIdx j) k → dom g mb vq (.slice Ac L2.coming.length cc) (qs ++ ks1.eraseIdx j) k ∨ w8.drew.heap.size ≤ k from fun k hk => by
          rcases hk with h | h | h | h | h
          · exact .inl (.inl h)
          · exact .inl (.inr (.inl h))
          · exact .inl (.inr (.inr (.inl h)))
          · rcases T10.out with e1 | ⟨b, e1, hb⟩
            · exact .inl (.inr (.inr (.inr (.inl (h.trans e1)))))
            · rw [e1] at h
              have h3 := Option.some.inj h
              exact .inr (by omega)
          · exact .inl (.inr (.inr (.inr (.inr h)))))
        have O11 := Aside0.mk (show Off (dom g mb vq (.slice A10 n10 k10) (qs ++ ks1.eraseIdx j)) u4 ms from ⟨fun k hk e => (D11.out k e).elim (O2.out.1 k hk) (fun h => by have h1 := MB.out k hk; have h2 := S9.out; omega), fun p hp ad ea e => (D11.out _ e).elim (O2.out.2 p hp ad ea) (fun h => by have h1 := MB2.out p hp ad ea; have h2 := S9.out; omega)⟩)
        have DD11 := Aside0.mk (show ∀ k, dom g mb vq (.slice A10 n10 k10) (qs ++ ks1.eraseIdx j) k → D k ∨ w.heap.size ≤ k from fun k hk => (D11.out k hk).elim (D2.out k) (fun h => .inr (by have h1 := WS.out; have h2 := S9.out; omega)))
        have x2 := (blk_cell X11.out 2).trans (show (⟨Pk.cells ⟨ack, num, last, Ap, cp, bp⟩⟩ : Array Value)[2]? = some (.bool last) from rfl)
        obtain ⟨w11, hw11⟩ : ∃ w11, w10.setCell ⟨g, 4, none⟩ (.slice A10 n10 k10) = w11 := ⟨_, rfl⟩
        rw [hw11] at I11 M11 F11 X11 x2
        rw [hw11]
        have HW11 := Aside0.mk (show w11.heap.size = w10.heap.size by rw [← hw11]; simp [World.setCell])
        clear hw11 c4 x3 I9 M9 P9 X9 F9 K10 G10 N10 X10
        have B11 := Aside0.mk (show 0 ≤ aw + 1 ∧ aw + 1 + ((L1.kept.eraseIdx j).length : Int) ≤ 4611686018427387904 from ⟨by omega, by have h1 := B1.out.2.1; have h2 := HL.out; have h3 := HAW.out; omega⟩)
        have KL := Aside0.mk (show L2.kept = L1.kept.eraseIdx j from by rw [← HL2.out])
        have KM := Aside0.mk (show ∀ p ∈ L1.kept.eraseIdx j, p.f3.length ≤ 1000000 from fun p hp => B1.out.2.2.2 p (List.mem_of_mem_eraseIdx hp))
        cases last with
        | false =>
          have ER : Aside0 (drainF (L1.kept.eraseIdx j).length { L2 with await := aw + 1, coming := L2.coming ++ bp } (ms.map Pk.b) = r) := ⟨by
            rw [ES.out, if_neg EN.out, if_neg (by show ¬ (false = true); decide), ← HL2.out, ← HAW.out]
            rfl⟩
          go_wp2
          go_roundg (L1.kept.eraseIdx j).length
          case measure => have := HK.out.1; have := HL.out; omega
          case rel => exact ⟨ms, { L2 with await := aw + 1, coming := L2.coming ++ bp }, _, ks1.eraseIdx j, ⟨by rw [KL.out], by show _ + L2.kept.length ≤ _; rw [KL.out]; have := HK.out.2; have := HL.out; omega⟩, ⟨by rw [show ({ L2 with await := aw + 1, coming := L2.coming ++ bp } : LS).kept.length = (L1.kept.eraseIdx j).length by rw [← KL.out]]; exact ER.out⟩, I11, DD11, M11, O11, ⟨B11.out.1, by show aw + 1 + (L2.kept.length : Int) ≤ _; rw [KL.out]; exact B11.out.2, by show (L2.coming ++ bp).length ≤ _; rw [List.length_append]; omega, by show ∀ p ∈ L2.kept, _; rw [KL.out]; exact KM.out⟩, V1, F11⟩
        | true =>
          have ER : Aside0 (drainF (L1.kept.eraseIdx j).length { L2 with await := aw + 1, coming := [] } ((ms ++ [(⟨0, 0, false, A10, k10, L2.coming ++ bp⟩ : Pk)]).map Pk.b) = r) := ⟨by
            rw [ES.out, if_neg EN.out, if_pos (show (Pk.say ⟨ack, num, true, Ap, cp, bp⟩).f2 = true from rfl), ← HL2.out, ← HAW.out, List.map_append]
            rfl⟩
          have c4 := (blk_cell I11.out.blk 4).trans (show _ = some (.slice A10 n10 k10) from rfl)
          have f4 := blk_frozen I11.out.blk 4
          go_wp2_with ((with_reducible refine gate_dst (N := 67) rfl ?_); refine stop_here ?_)
          refine ⟨?_⟩
          refine made_event rfl #[.slice A10 n10 k10] 32 1 ?hr67 ?_
          case hr67 => first | (go_simp; done) | (go_simp; rfl)
          intro gl hgl w12 hbox hb
          have I12 := Aside0.mk (I11.out.below hb)
          have M12 := Aside0.mk (M11.out.below hb)
          have F12 := Aside0.mk (F11.out.trans (Frame.of_below hb) (fun _ h => h.elim))
          have E12 := Aside0.mk hbox
          have NG := Aside0.mk (show w11.heap.size ≤ gl by rw [hgl]; exact Nat.le_refl _)
          clear hgl hbox hb I11 M11 F11 X11 x2 c4 f4
          have f4 := blk_frozen I12.out.blk 4
          go_wp2_with (at_builtin; refine stop_here ?_)
          refine ⟨?_⟩
          refine text_event (base := base) (gl := gl) (ms := ms) (p := ⟨0, 0, false, A10, k10, L2.coming ++ bp⟩) rfl (.tmp 62) (.tmp 67) rfl rfl rfl M12.out.row (by rw [E12.out, ← HN10.out]; rfl) (by have := HK.out.2; omega) ?hbs ?_
          case hbs => have h1 := I12.out.bg; have h2 := blk_lt I12.out.blk; omega
          intro v13 w13 hq hg hat
          obtain ⟨A13, k13, hv13, hle13⟩ := q_slice hq
          obtain ⟨n13, hn13⟩ : ∃ n13, (ms ++ [(⟨0, 0, false, A10, k10, L2.coming ++ bp⟩ : Pk)]).length = n13 := ⟨_, rfl⟩
          rw [hn13] at hv13
          subst hv13
          have HN13 := Aside0.mk hn13
          clear hn13 hle13
          have R13 := Aside0.mk hq
          have T13 := Aside0.mk hat
          have FG := Aside0.mk (Frame.of_grown hg)
          have I13 := Aside0.mk (I12.out.keep FG.out (fun k hk e => O11.out.1 k e.symm hk))
          have F13 := Aside0.mk (F12.out.trans FG.out (fun k e => .inr (V1.out.1 k e.symm)))
          have EL13 := Aside0.mk (show ∀ p ∈ ms, PkOk w13 base p from fun p hp => (M12.out.els p hp).keep FG.out (fun ad ea e => by
            obtain ⟨_, cc1, h1⟩ := (M12.out.els p hp).own ad ea
            obtain ⟨_, cc2, h2⟩ := q_typed M12.out.row ad.block e.symm
            have := h1.symm.trans h2
            simp at this))
          have EN13 : Aside0 (PkOk w13 base ⟨0, 0, false, A10, k10, L2.coming ++ bp⟩) := ⟨⟨fun hp => (by
            have h := I13.out.com
            rw [← HN10.out] at h
            exact q_cells h hp), by have h := q_slice I13.out.com; obtain ⟨A', c', e1, e2⟩ := h; injection e1 with e1 e3 e4; rw [e4]; exact e2, fun ad ea => q_typed I13.out.com ad.block (by have ea' : A10 = some ad := ea; rw [ea']; rfl)⟩⟩
          have V13 := Aside0.mk (show ∀ k, (Value.slice A13 n13 k13).ownBlock = some k → w.heap.size ≤ k ∧ ¬ dom g mb vq (.slice A10 n10 k10) (qs ++ ks1.eraseIdx j) k from fun k hk => by
            rcases T13.out with e1 | ⟨b', e1, hb'⟩
            · exact ⟨V1.out.1 k (e1.symm.trans hk), O11.out.1 k (e1.symm.trans hk)⟩
            · rw [hk] at e1
              have h3 := Option.some.inj e1
              have h4 := F12.out.size
              exact ⟨by omega, fun h => by have h5 := (I12.out.ge k h).2; omega⟩)
          clear hq hg hat f4
          have f4 := blk_frozen I13.out.blk 4
          have c4 := (blk_cell I13.out.blk 4).trans (show _ = some (.slice A10 n10 k10) from rfl)
          go_wp2
          have FS := Aside0.mk (Frame.of_set w13 g 4 (.slice none 0 0))
          have I14 := Aside0.mk I13.out.hand
          have DN := Aside0.mk (show ∀ k, dom g mb vq (.slice none 0 0) (qs ++ ks1.eraseIdx j) k → dom g mb vq (.slice A10 n10 k10) (qs ++ ks1.eraseIdx j) k from fun k hk => by
            rcases hk with h | h | h | h | h
            · exact .inl h
            · exact .inr (.inl h)
            · exact .inr (.inr (.inl h))
            · cases h
            · exact .inr (.inr (.inr (.inr h))))
          have F14 := Aside0.mk (F13.out.trans FS.out (fun k e => by have e' : k = g := e; exact DD11.out k (.inl e')))
          have CN : Aside0 (∀ ad, A10 = some ad → ¬ dom g mb vq (.slice none 0 0) (qs ++ ks1.eraseIdx j) ad.block) := ⟨fun ad ea h => by
            subst ea
            obtain ⟨n1, n2, n3, n4, n5, n6, n7⟩ := I13.out.ne
            rcases h with h | h | h | h | ⟨p, hp, ad', e1, h⟩
            · exact n3 (by rw [← h]; rfl)
            · exact n5 (by rw [← h]; rfl)
            · exact n6 ad.block h.symm rfl
            · cases h
            · exact I13.out.apart p hp ad' e1 (by rw [← h]; rfl)⟩
          have M14 : Aside0 (Msgs (w13.setCell ⟨g, 4, none⟩ (.slice none 0 0)) base (.slice A13 n13 k13) (ms ++ [(⟨0, 0, false, A10, k10, L2.coming ++ bp⟩ : Pk)])) := ⟨⟨qi_keep R13.out FS.out (fun k hk e => (V13.out k hk).2 (.inl e)), fun p hp => by
            rcases List.mem_append.1 hp with hp | hp
            · exact (EL13.out p hp).keep FS.out (fun ad ea e => O11.out.2 p hp ad ea (.inl e))
            · obtain rfl := List.mem_singleton.1 hp
              exact EN13.out.keep FS.out (fun ad ea e => CN.out ad ea (.inl e))⟩⟩
          have O14 : Aside0 (Off (dom g mb vq (.slice none 0 0) (qs ++ ks1.eraseIdx j)) (.slice A13 n13 k13) (ms ++ [(⟨0, 0, false, A10, k10, L2.coming ++ bp⟩ : Pk)])) := ⟨⟨fun k hk e => (V13.out k hk).2 (DN.out k e), fun p hp ad ea e => by
            rcases List.mem_append.1 hp with hp | hp
            · exact O11.out.2 p hp ad ea (DN.out _ e)
            · obtain rfl := List.mem_singleton.1 hp
              exact CN.out ad ea e⟩⟩
          go_roundg (L1.kept.eraseIdx j).length
          case measure => have := HK.out.1; have := HL.out; omega
          case rel => exact ⟨_, { L2 with await := aw + 1, coming := [] }, _, ks1.eraseIdx j, ⟨by rw [KL.out], by show (ms ++ _).length + L2.kept.length ≤ _; rw [KL.out, List.length_append]; have := HK.out.2; have := HL.out; show ms.length + 1 + _ ≤ _; omega⟩, ⟨by rw [show ({ L2 with await := aw + 1, coming := [] } : LS).kept.length = (L1.kept.eraseIdx j).length by rw [← KL.out]]; exact ER.out⟩, I14, ⟨fun k hk => DD11.out k (DN.out k hk)⟩, M14, O14, ⟨B11.out.1, by show aw + 1 + (L2.kept.length : Int) ≤ _; rw [KL.out]; exact B11.out.2, by show 0 ≤ _; omega, by show ∀ p ∈ L2.kept, _; rw [KL.out]; exact KM.out⟩, ⟨⟨fun k hk => (V13.out k hk).1, fun p hp ad ea => by
            rcases List.mem_append.1 hp with hp | hp
            · exact V1.out.2 p hp ad ea
            · obtain rfl := List.mem_singleton.1 hp
              have ea' : A10 = some ad := ea
              exact DD11.out ad.block (.inr (.inr (.inr (.inl (by rw [ea']; rfl)))))⟩⟩, F14⟩
end Go.Proofs.YtafjegfmmnjpfaaDoor.LineT

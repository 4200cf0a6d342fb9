/- Proved: (*net.Air).Throw throws a datagram; conditions: the theorems' own premises. -/
import Derived.Test.YtaciokdgoogpiaaNLayD
namespace Go.Proofs.Ytaciokdgoogpiaa.NetT
open Go.RowKit Go.Proofs.Ytaciokdgoogpiaa.YNet Go.Proofs.YtaciokdgoogpiaaW.PrintWords Go.Proofs.YtaciokdgoogpiaaW.PrintLast Go.Proofs.YtaciokdgoogpiaaW.PrintMore
set_option linter.unusedVariables false
set_option linter.unusedSimpArgs false
attribute [local go_sem] max2_int min2_int max_two min_two
abbrev Say := ByteArray × Int × ByteArray × List Int × Int
def Fl.say (f : Fl) : Say := (f.src, f.dir, f.goal, f.b, f.t)
def layS (l : List Say) (x : Say) : List Say := if l.length < 200 then l ++ [x] else l
def delayS (t : Int) : Int := min (max t 0) 1000
def throwS (l : List Say) (s : ByteArray) (d : Int) (o : ByteArray) (b : List Int) (lost twice : Bool) (t : Int) : List Say :=
  if lost then l else if twice then layS (layS l (s, d, o, b, delayS t)) (s, d, o, b, 2 * delayS t + 1) else layS l (s, d, o, b, delayS t)
theorem delay_if (t : Int) : (if 1000 < if t < 0 then 0 else t then 1000 else if t < 0 then 0 else t) = delayS t := by
  unfold delayS
  split <;> split <;> omega
theorem dbl {D : Int} (h0 : 0 ≤ D) (h1 : D ≤ 1000) : wrap64 (wrap64 (2 * D) + 1) = 2 * D + 1 := by
  have e : wrap64 (2 * D) = 2 * D := by unfold wrap64; omega
  rw [e]
  unfold wrap64; omega
theorem lay_say (fs : List Fl) (f : Fl) : ((if fs.length < 200 then fs ++ [f] else fs)).map Fl.say = layS (fs.map Fl.say) f.say := by
  unfold layS
  rw [List.length_map]
  split
  · rw [List.map_append]; rfl
  · rfl
theorem lay_len (fs : List Fl) (f : Fl) (h : fs.length ≤ 200) : ((if fs.length < 200 then fs ++ [f] else fs)).length ≤ 200 := by
  split
  · rw [List.length_append, List.length_singleton]; omega
  · exact h
theorem foot_chain {B g : Nat} {v v1 : Value} (h : v1.ownBlock = v.ownBlock ∨ ∃ k, v1.ownBlock = some k ∧ B ≤ k) : ∀ k, AirFoot g v1 k → AirFoot g v k ∨ B ≤ k := by
  intro k hk
  rcases hk with hk | hk
  · exact .inl (.inl hk)
  · rcases h with h | ⟨q, h, hq⟩
    · exact .inl (.inr (hk.trans h))
    · rw [h] at hk
      injection hk with hk
      subst hk
      exact .inr hq
theorem own_chain2 {B C : Nat} {v v1 v2 : Value} (h : v1.ownBlock = v.ownBlock ∨ ∃ k, v1.ownBlock = some k ∧ B ≤ k) (h2 : v2.ownBlock = v1.ownBlock ∨ ∃ k, v2.ownBlock = some k ∧ C ≤ k) (hBC : B ≤ C) : v2.ownBlock = v.ownBlock ∨ ∃ k, v2.ownBlock = some k ∧ B ≤ k := by
  rcases h2 with h2 | ⟨q, h2, hq⟩
  · rw [h2]; exact h
  · exact .inr ⟨q, h2, Nat.le_trans hBC hq⟩
set_option maxHeartbeats 4000000 in
set_option maxRecDepth 100000 in
theorem throw_calls (w : World) (base g : Nat) (v : Value) (fs : List Fl) (s : ByteArray) (d : Int) (o : ByteArray) (A : Option Addr) (c : Nat) (b : List Int) (lost twice : Bool) (t : Int) (hI : IsAir w base g v fs) (hb : Bytes w A b) (hoff : 0 < b.length → ∀ ad, A = some ad → ¬ AirFoot g v ad.block) (hc : b.length ≤ c) (hbl : b.length < 140737488355328) (hbase : base ≤ w.heap.size) (hfs : fs.length ≤ 200) :
    Calls Try.prog 13 #[.pointer (some ⟨g, 0, none⟩), .agg #[.string s, .int .i64 d, .string o, .slice A b.length c], .agg #[.bool lost, .bool twice, .int .i64 t]] w fun e w' => e = .returned (.tuple #[]) ∧ ∃ v' fs', IsAir w' base g v' fs' ∧ fs'.map Fl.say = throwS (fs.map Fl.say) s d o b lost twice t ∧ fs'.length ≤ 200 ∧ (v'.ownBlock = v.ownBlock ∨ ∃ k, v'.ownBlock = some k ∧ w.heap.size ≤ k) ∧ Frame w w' (AirFoot g v) := by
  have HI := Aside0.mk hI
  have HBy := Aside0.mk hb
  have HF := Aside0.mk (Frame.refl w (AirFoot g v))
  clear hI hb
  go_enter_defers Try.func13, Try.ntmps13
  go_wp2_with ((with_reducible refine gate_dst (N := 4) rfl ?_); refine stop_here ?_)
  refine ⟨?_⟩
  refine box_event rfl (N := 4) rfl (cs := #[.string s, .int .i64 d, .string o, .slice A b.length c]) (t := 32) ?hr ?_
  case hr => first | (go_simp; done) | (go_simp; rfl)
  intro m hm w1 hbox hb
  have HM := Aside0.mk (show w.heap.size ≤ m by rw [hm]; exact Nat.le_refl _)
  have HX := Aside0.mk hbox
  have I1 := Aside0.mk (HI.out.below hb)
  have By1 := Aside0.mk (HBy.out.below hb)
  have F1 := Aside0.mk (HF.out.trans (Frame.of_below hb) (fun _ h => h.elim))
  clear HI HBy HF hm hbox hb
  go_wp2_with ((with_reducible refine gate_dst (N := 5) rfl ?_); refine stop_here ?_)
  refine ⟨?_⟩
  refine box_event rfl (N := 5) rfl (cs := #[.bool lost, .bool twice, .int .i64 t]) (t := 34) ?hr5 ?_
  case hr5 => first | (go_simp; done) | (go_simp; rfl)
  intro q hq w2 hbox hb
  have HQ := Aside0.mk (show w.heap.size ≤ q by rw [hq]; exact F1.out.size)
  have HY := Aside0.mk hbox
  have X2 := Aside0.mk (blk_below HX.out hb)
  have I2 := Aside0.mk (I1.out.below hb)
  have By2 := Aside0.mk (By1.out.below hb)
  have F2 := Aside0.mk (F1.out.trans (Frame.of_below hb) (fun _ h => h.elim))
  clear I1 By1 F1 HX hq hbox hb
  have y0 := (blk_cell HY.out 0).trans (show (#[Value.bool lost, .bool twice, .int .i64 t] : Array Value)[0]? = some _ from rfl)
  have y1 := (blk_cell HY.out 1).trans (show (#[Value.bool lost, .bool twice, .int .i64 t] : Array Value)[1]? = some _ from rfl)
  have y2 := (blk_cell HY.out 2).trans (show (#[Value.bool lost, .bool twice, .int .i64 t] : Array Value)[2]? = some _ from rfl)
  go_upto_region 2 with (fail)
  obtain ⟨D, hD⟩ : ∃ D, (if 1000 < if t < 0 then 0 else t then 1000 else if t < 0 then 0 else t) = D := ⟨_, rfl⟩
  have HD := Aside0.mk ((delay_if t).symm.trans hD)
  have hd0 : 0 ≤ D := by rw [← HD.out]; unfold delayS; omega
  have hd1 : D ≤ 1000 := by rw [← HD.out]; unfold delayS; omega
  rw [hD]
  clear hD y2
  obtain ⟨E, hE⟩ : ∃ E, (if t < 0 then 0 else t) = E := ⟨_, rfl⟩
  rw [hE]
  clear hE
  have xr : w2.rangeAt m 0 [.string s, .int .i64 d, .string o, .slice A b.length c] := row_range X2.out
  cases lost with
  | true =>
    replace y0 : w2.cell? ⟨q, 0, none⟩ = some (.bool true) := y0
    go_wp2
    (try simp only [Exit.inBlock, Exit.then])
    exact ⟨_, results_none rfl _ _ _, rfl, v, fs, I2.out, rfl, hfs, .inl rfl, F2.out⟩
  | false =>
    replace y0 : w2.cell? ⟨q, 0, none⟩ = some (.bool false) := y0
    cases twice with
    | false =>
      replace y1 : w2.cell? ⟨q, 1, none⟩ = some (.bool false) := y1
      go_wp2_with ((with_reducible refine gate_dst (N := 23) rfl ?_); refine stop_here ?_)
      refine ⟨?_⟩
      refine wpList_load_row rfl 32 (.tmp 4) rfl m rfl 32 #[.string s, .int .i64 d, .string o, .slice A b.length c] (0, 0) _ X2.out Try.underlying32 rfl rfl ?_
      go_wp2_with (go_at_call 19; refine stop_here ?_)
      refine ⟨?_⟩
      refine (lay_calls w2 base g v fs s d o A c b D I2.out By2.out hc hbl (Nat.le_trans hbase F2.out.size) hfs).mono ?_
      rintro e w3 ⟨rfl, A1, c1, v1, hI3, hV3, hF3⟩
      have I3 := Aside0.mk hI3
      have V3 := Aside0.mk hV3
      have F3 := Aside0.mk hF3
      clear hI3 hV3 hF3
      go_wp2
      (try simp only [Exit.inBlock, Exit.then])
      refine ⟨_, results_none rfl _ _ _, rfl, v1, _, I3.out, ?_, lay_len _ _ hfs, own_chain2 (v := v) (.inl rfl) V3.out F2.out.size, F2.out.trans F3.out (fun _ h => .inl h)⟩
      rw [lay_say]
      show layS _ _ = layS _ (s, d, o, b, delayS t)
      rw [HD.out]
      rfl
    | true =>
      replace y1 : w2.cell? ⟨q, 1, none⟩ = some (.bool true) := y1
      go_wp2_with ((with_reducible refine gate_dst (N := 18) rfl ?_); refine stop_here ?_)
      refine ⟨?_⟩
      refine wpList_load_row rfl 32 (.tmp 4) rfl m rfl 32 #[.string s, .int .i64 d, .string o, .slice A b.length c] (0, 0) _ X2.out Try.underlying32 rfl rfl ?_
      go_wp2_with ((with_reducible refine gate_dst (N := 23) rfl ?_); refine stop_here ?_)
      refine ⟨?_⟩
      refine wpList_load_row rfl 32 (.tmp 4) rfl m rfl 32 #[.string s, .int .i64 d, .string o, .slice A b.length c] (0, 0) _ X2.out Try.underlying32 rfl rfl ?_
      go_wp2_with (go_at_call 19; refine stop_here ?_)
      refine ⟨?_⟩
      refine (lay_calls w2 base g v fs s d o A c b D I2.out By2.out hc hbl (Nat.le_trans hbase F2.out.size) hfs).mono ?_
      rintro e w3 ⟨rfl, A1, c1, v1, hI3, hV3, hF3⟩
      have I3 := Aside0.mk hI3
      have V3 := Aside0.mk hV3
      have F3 := Aside0.mk hF3
      clear hI3 hV3 hF3
      go_wp2
      (try simp only [Exit.inBlock, Exit.then])
      refine leaves_cons (f := 19) (args := #[.pointer (some ⟨g, 0, none⟩), .agg #[.string s, .int .i64 d, .string o, .slice A b.length c], .int .i64 (2 * D + 1)]) (by simp) (by simp [go_sem]) ?_
      refine (lay_callsD w3 .returning base g v1 _ s d o A c b _ I3.out (By2.out.frame F3.out (fun h ad e => hoff h ad e)) hc hbl (Nat.le_trans hbase (Nat.le_trans F2.out.size F3.out.size)) (lay_len _ _ hfs)).mono ?_
      rintro e u' w4 ⟨rfl, rfl, A2, c2, v2, hI4, hV4, hF4⟩
      refine ⟨_, results_none rfl _ _ _, rfl, v2, _, hI4, ?_, lay_len _ _ (lay_len _ _ hfs), own_chain2 (own_chain2 (v := v) (.inl rfl) V3.out F2.out.size) hV4 (Nat.le_trans F2.out.size F3.out.size), (F2.out.trans F3.out (fun _ h => .inl h)).trans hF4 ?_⟩
      · rw [lay_say, lay_say]
        show layS (layS _ _) _ = layS (layS _ (s, d, o, b, delayS t)) (s, d, o, b, 2 * delayS t + 1)
        rw [HD.out]
        rfl
      · exact foot_chain (own_chain2 (v := v) (.inl rfl) V3.out F2.out.size)
end Go.Proofs.Ytaciokdgoogpiaa.NetT

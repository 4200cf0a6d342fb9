/- Proved: awake of the laws of net answers true; conditions: the theorems' own premises. -/
import Derived.Test.YtaciokdgoogpiaaNSay
namespace Go.Proofs.Ytaciokdgoogpiaa.NetT
open Go.RowKit Go.Proofs.Ytaciokdgoogpiaa.YNet Go.Proofs.YtaciokdgoogpiaaW.PrintWords Go.Proofs.YtaciokdgoogpiaaW.PrintLast Go.Proofs.YtaciokdgoogpiaaW.PrintMore
set_option linter.unusedVariables false
set_option linter.unusedSimpArgs false
theorem lit_bytes {w : World} {g : Nat} {l : List Int} (h : w.heap[g]? = some (.cells ⟨nums .u8 l⟩ 5 (0, 0))) : Bytes w (some ⟨g, 0, none⟩) l := by
  intro hp
  refine ⟨_, rfl, fun j u hu => ?_⟩
  rw [add_at, Nat.zero_add, blk_cell h, List.getElem?_toArray]
  exact hu
theorem below_air {B : Nat} {w0 w w1 : World} {base g : Nat} {v : Value} {l : List Say} (h : Below B w0 w) (hf : Frame w w1 (AirFoot g v)) (ha : AirIs w base g v l) (hg : base ≤ g) (hB : B ≤ base) (hw : B ≤ w.heap.size) : Below B w0 w1 :=
  below_frame h hf hw (fun k hk => Nat.le_trans hB (ha.foot hg k hk))
theorem fly_n (n : Nat) (w : World) (base g : Nat) (v : Value) (l : List Say) (hI : AirIs w base g v l) (hn : l.length = n) : Calls Try.prog 15 #[.pointer (some ⟨g, 0, none⟩)] w fun e w' => e = .returned (.int .i64 (n : Int)) ∧ w' = w := by
  subst hn
  exact fly_is w base g v l hI
/-- One datagram that came: its row's cells. -/
theorem came_one {w : World} {B base : Nat} {e : Ending} {x : Say} (h : Came w B base e [x]) : ∃ gr off c A k, e = .returned (.slice (some ⟨gr, off, none⟩) 1 c) ∧ B ≤ gr ∧ (∃ cells, w.heap[gr]? = some (.cells cells 32 (0, 0))) ∧ w.cell? ⟨gr, off, none⟩ = some (.string x.1) ∧ w.cell? ⟨gr, off + 1, none⟩ = some (.int .i64 x.2.1) ∧ w.cell? ⟨gr, off + 2, none⟩ = some (.string x.2.2.1) ∧ w.cell? ⟨gr, off + 3, none⟩ = some (.slice A x.2.2.2.1.length k) ∧ x.2.2.2.1.length ≤ k ∧ Bytes w A x.2.2.2.1 ∧ (∀ ad, A = some ad → base ≤ ad.block ∧ ∃ cells, w.heap[ad.block]? = some (.cells cells 5 (0, 0))) ∧ 1 ≤ c := by
  obtain ⟨vo, gs, rfl, hs, hq, hf⟩ := h
  have hl : gs.length = 1 := by
    have := congrArg List.length hs
    rwa [List.length_map] at this
  obtain ⟨f, rfl⟩ : ∃ f, gs = [f] := by
    rcases gs with _ | ⟨f, _ | ⟨f2, gs⟩⟩
    · simp at hl
    · exact ⟨f, rfl⟩
    · simp at hl
  simp only [List.map_cons, List.map_nil, List.cons.injEq, and_true] at hs
  subst hs
  obtain ⟨Av, cv, rfl, hle⟩ := q_slice hq
  obtain ⟨gr, off, rfl⟩ := row_at hq (by simp)
  have hk := hf f (List.mem_singleton.2 rfl)
  obtain ⟨ad, ea, hc⟩ := q_cells hq (by simp)
  injection ea with ea
  subst ea
  obtain ⟨h1, h2⟩ := q_typed hq gr rfl
  have hm : mlCells [f] = [.string f.src, .int .i64 f.dir, .string f.goal, .slice f.A f.b.length f.c] := rfl
  refine ⟨gr, off, cv, f.A, f.c, rfl, h1, h2, ?_, ?_, ?_, ?_, hk.cap, hk.bytes, hk.own, hle⟩
  · have := hc 0 _ (by rw [hm]; rfl)
    rwa [add_at] at this
  · have := hc 1 _ (by rw [hm]; rfl)
    rwa [add_at] at this
  · have := hc 2 _ (by rw [hm]; rfl)
    rwa [add_at] at this
  · have := hc 3 _ (by rw [hm]; rfl)
    rwa [add_at] at this
set_option maxHeartbeats 4000000 in
set_option maxRecDepth 100000 in
theorem awake_calls (w : World) : Calls Try.prog 8 #[] w fun e w' => e = .returned (.bool true) ∧ Below w.heap.size w w' := by
  go_enter Try.func8, Try.ntmps8
  go_wp2_with (go_at_call 9; refine stop_here ?_)
  refine ⟨?_⟩
  refine (new_is w).mono ?_
  rintro e w1 ⟨g, rfl, hg, hA, hb⟩
  have A1 := Aside0.mk hA
  have G1 := Aside0.mk hg
  have B1 := Aside0.mk hb
  clear hA hg hb
  go_wp2_with ((with_reducible refine gate_dst (N := 9) rfl ?_); refine stop_here ?_)
  refine ⟨?_⟩
  refine made_event rfl ⟨nums .u8 [1]⟩ 5 1 ?hr9 ?_
  case hr9 => first | (go_simp; done) | (go_simp; rfl)
  intro gb hgb w2 hbx hb
  have X2 := Aside0.mk hbx
  have A2 := Aside0.mk (A1.out.below hb)
  have B2 := Aside0.mk (below_step B1.out hb)
  clear hgb hbx hb A1 B1
  go_wp2_with (go_at_call 13; refine stop_here ?_)
  refine ⟨?_⟩
  refine (throw_is w2 w.heap.size g (.slice none 0 0) [] ⟨#[120]⟩ 0 ⟨#[]⟩ (some ⟨gb, 0, none⟩) 1 [1] false true 0 A2.out (lit_bytes X2.out) (fun _ ad e => by
    injection e with e
    subst e
    exact A2.out.typed X2.out (by decide) (by decide)) (by decide) (by decide) B2.out.size).mono ?_
  rintro e w3 ⟨rfl, v3, hA, hV, hF⟩
  have A3 : Aside0 (AirIs w3 w.heap.size g v3 [(⟨#[120]⟩, 0, ⟨#[]⟩, [1], 0), (⟨#[120]⟩, 0, ⟨#[]⟩, [1], 1)]) := ⟨hA⟩
  have B3 := Aside0.mk (below_air B2.out hF A2.out G1.out (Nat.le_refl _) B2.out.size)
  clear hA hV hF A2 B2 X2
  go_wp2_with (go_at_call 15; refine stop_here ?_)
  refine ⟨?_⟩
  refine (fly_n 2 w3 _ g v3 _ A3.out rfl).mono ?_
  rintro e w3' ⟨rfl, rfl⟩
  go_wp2_with (go_at_call 12; refine stop_here ?_)
  refine ⟨?_⟩
  refine (tick_is _ w.heap.size g v3 _ A3.out).mono ?_
  rintro e w4 ⟨hC, v4, hA, hV, hF⟩
  obtain ⟨gr, off, cr, Ar, kr, rfl, hgr, ht, h0, h1, h2, h3, h4, h5, h6, _⟩ := came_one (x := (⟨#[120]⟩, 0, ⟨#[]⟩, [1], 0)) hC
  have A4 : Aside0 (AirIs w4 w.heap.size g v4 [(⟨#[120]⟩, 0, ⟨#[]⟩, [1], 0)]) := ⟨hA⟩
  have B4 := Aside0.mk (below_air B3.out hF A3.out G1.out (Nat.le_refl _) B3.out.size)
  have T4 := Aside0.mk ht
  have C0 := Aside0.mk h0
  have C3 := Aside0.mk h3
  clear hC hA hV hF A3 B3 ht h0 h1 h2 h3 h4 h5 h6 hgr
  go_wp2_with (go_at_call 12; refine stop_here ?_)
  refine ⟨?_⟩
  refine (tick_is w4 w.heap.size g v4 _ A4.out).mono ?_
  rintro e w5 ⟨hC, v5, hA, hV, hF⟩
  obtain ⟨gr2, off2, cr2, Ar2, kr2, rfl, _, _, _, _, _, _, _, _, _, _⟩ := came_one (x := (⟨#[120]⟩, 0, ⟨#[]⟩, [1], 0)) hC
  have A5 : Aside0 (AirIs w5 w.heap.size g v5 []) := ⟨hA⟩
  have B5 := Aside0.mk (below_air B4.out hF A4.out G1.out (Nat.le_refl _) B4.out.size)
  have hn : ¬ AirFoot g v4 gr := by
    obtain ⟨cells, h⟩ := T4.out
    exact A4.out.typed h (by decide) (by decide)
  have c0 := hF.cell C0.out hn
  have c3 := hF.cell C3.out hn
  clear hC hA hV hF A4 B4 T4 C0 C3 hn
  go_wp2_with (go_at_call 15; refine stop_here ?_)
  refine ⟨?_⟩
  refine (fly_n 0 w5 _ g v5 _ A5.out rfl).mono ?_
  rintro e w5' ⟨rfl, rfl⟩
  go_wp2
  go_ret
  exact ⟨rfl, B5.out⟩
end Go.Proofs.Ytaciokdgoogpiaa.NetT

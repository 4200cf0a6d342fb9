/- Proved: awake of hash answers true; conditions: the theorems' own premises. -/
import Derived.Test.YtlniejfbkcgneaaHDig
import Derived.Lib.SlBytesConst
namespace Go.Proofs.Ytlniejfbkcgneaa.HashT
open Go.RowKit Go.Proofs.Ytlniejfbkcgneaa.YHash Go.Proofs.YtlniejfbkcgneaaW.PrintWords Go.Proofs.YtlniejfbkcgneaaW.PrintLast Go.Proofs.YtlniejfbkcgneaaW.PrintMore
set_option linter.unusedVariables false
set_option linter.unusedSimpArgs false
theorem bytes_blk {w : World} {g : Nat} {p : List Int} {fr : Nat × Nat} (h : w.heap[g]? = some (.cells (nums .u8 p).toArray 5 fr)) : Bytes w (some ⟨g, 0, none⟩) p := fun _ => ⟨_, rfl, fun j u hu => by
  rw [add_at, cell_of_row w g _ _ 5 fr h, Nat.zero_add, List.getElem?_toArray]; exact hu⟩
set_option maxHeartbeats 4000000 in
set_option maxRecDepth 100000 in
theorem awake_calls (w : World) : Calls Try.prog 8 #[] w fun e w' => e = .returned (.bool true) ∧ Below w.heap.size w w' := by
  have HB := Aside0.mk (Below.refl w.heap.size w)
  go_enter Try.func8, Try.ntmps8
  go_wp2_with (go_at_call 9; refine stop_here ?_)
  refine ⟨?_⟩
  refine (of_calls none 0 0 [] _ rfl (fun h => by simp at h) (by decide) (by decide)).mono ?_
  rintro e w1 ⟨rfl, hb1⟩
  rw [show ([] : List (List Int)).flatten = [] from rfl, dig_none]
  have B1 := Aside0.mk hb1
  clear HB hb1
  go_wp2_with ((with_reducible refine gate_dst (N := 1) rfl ?_); refine stop_here ?_)
  refine ⟨?_⟩
  refine box_event rfl (N := 1) rfl (cs := ⟨nums .u8 (zeros 32)⟩) (t := 25) ?hr ?_
  case hr => first | (go_simp; done) | (go_simp; rfl)
  intro g1 hg w2 hbox hb
  have G1 := Aside0.mk (show w.heap.size ≤ g1 by rw [hg]; exact B1.out.size)
  have X2 := Aside0.mk hbox
  have B2 := Aside0.mk (below_step B1.out hb)
  clear hg hbox hb B1
  go_wp2_with ((with_reducible refine gate_store (t := 25) (p := 1) rfl ?_); refine stop_here ?_)
  refine ⟨?_⟩
  refine row_event rfl 25 (.tmp 1) (.tmp 3) rfl g1 ⟨nums .u8 [227, 176, 196, 66, 152, 252, 28, 20, 154, 251, 244, 200, 153, 111, 185, 36, 39, 174, 65, 228, 100, 155, 147, 76, 164, 149, 153, 27, 120, 82, 184, 85]⟩ rfl rfl 25 _ X2.out rfl rfl (u8s_one _) ?_
  intro w3 hp
  have B3 := Aside0.mk (hp.below B2.out G1.out)
  have X3 := Aside0.mk hp.here
  clear hp B2 X2
  have kc := Lib.run_convert_bytes_const (P := Try.prog) w3 22 5 #[.int .u8 97, .int .u8 98, .int .u8 99] 3 3 Try.underlying22 Try.underlying5
  obtain ⟨gl, hgl⟩ : ∃ gl, w3.heap.size = gl := ⟨_, rfl⟩
  have hX4 := blk_new w3 (.cells #[.int .u8 97, .int .u8 98, .int .u8 99] 5 (3, 4))
  rw [hgl] at kc hX4
  go_wp2_with ((with_reducible refine gate_dst (N := 6) rfl ?_); refine stop_here ?_)
  refine ⟨?_⟩
  have X4 := Aside0.mk (blk_alloc X3.out (.cells #[.int .u8 97, .int .u8 98, .int .u8 99] 5 (3, 4)))
  have B4 := Aside0.mk (below_alloc B3.out (.cells #[.int .u8 97, .int .u8 98, .int .u8 99] 5 (3, 4)))
  obtain ⟨w4, hw4⟩ : ∃ w4, w3.alloc (.cells #[.int .u8 97, .int .u8 98, .int .u8 99] 5 (3, 4)) = w4 := ⟨_, rfl⟩
  have Q4 := Aside0.mk (show Bytes w4 (some ⟨gl, 0, none⟩) [97, 98, 99] from hw4 ▸ bytes_blk (p := [97, 98, 99]) hX4)
  rw [hw4] at X4 B4 ⊢
  clear kc hX4 hgl hw4
  refine slices_event rfl #[.slice (some ⟨gl, 0, none⟩) 3 3] 1 ?hr6 ?_
  case hr6 => first | (go_simp; done) | (go_simp; rfl)
  intro gp hgp w5 hbx hb
  have P5 := Aside0.mk hbx
  have Q5 := Aside0.mk (Q4.out.below hb)
  have X5 := Aside0.mk (blk_below X4.out hb)
  have B5 := Aside0.mk (below_step B4.out hb)
  clear hgp hbx hb Q4 X4 B4
  go_wp2_with (go_at_call 9; refine stop_here ?_)
  refine ⟨?_⟩
  refine (of_calls (some ⟨gp, 0, none⟩) 1 1 [[97, 98, 99]] _ rfl (parts_one P5.out rfl Q5.out (fun h => h) (fun _ _ _ h => h)) (by decide) (by decide)).mono ?_
  rintro e w6 ⟨rfl, hb6⟩
  rw [show ([[97, 98, 99]] : List (List Int)).flatten = [97, 98, 99] from rfl, dig_abc]
  have X6 := Aside0.mk (blk_below X5.out hb6)
  have B6 := Aside0.mk (below_step B5.out hb6)
  clear hb6 X5 B5 P5 Q5
  go_wp2_with ((with_reducible refine gate_dst (N := 2) rfl ?_); refine stop_here ?_)
  refine ⟨?_⟩
  refine box_event rfl (N := 2) rfl (cs := ⟨nums .u8 (zeros 32)⟩) (t := 25) ?hr2 ?_
  case hr2 => first | (go_simp; done) | (go_simp; rfl)
  intro g2 hg w7 hbox hb
  have G2 := Aside0.mk (show w.heap.size ≤ g2 by rw [hg]; exact B6.out.size)
  have Y7 := Aside0.mk hbox
  have N12 := Aside0.mk (show g1 ≠ g2 by have := blk_lt X6.out; omega)
  have X7 := Aside0.mk (blk_below X6.out hb)
  have B7 := Aside0.mk (below_step B6.out hb)
  clear hg hbox hb B6 X6
  go_wp2_with ((with_reducible refine gate_store (t := 25) (p := 2) rfl ?_); refine stop_here ?_)
  refine ⟨?_⟩
  refine row_event rfl 25 (.tmp 2) (.tmp 7) rfl g2 ⟨nums .u8 [186, 120, 22, 191, 143, 1, 207, 234, 65, 65, 64, 222, 93, 174, 34, 35, 176, 3, 97, 163, 150, 23, 122, 156, 180, 16, 255, 97, 242, 0, 21, 173]⟩ rfl rfl 25 _ Y7.out rfl rfl (u8s_one _) ?_
  intro w8 hp
  have B8 := Aside0.mk (hp.below B7.out G2.out)
  have Y8 := hp.here
  have X8 := hp.far N12.out X7.out
  clear hp
  have x0 := (blk_cell X8 0).trans (show _ = some (Value.int .u8 227) from rfl)
  have x1 := (blk_cell X8 1).trans (show _ = some (Value.int .u8 176) from rfl)
  have x31 := (blk_cell X8 31).trans (show _ = some (Value.int .u8 85) from rfl)
  have y0 := (blk_cell Y8 0).trans (show _ = some (Value.int .u8 186) from rfl)
  have y1 := (blk_cell Y8 1).trans (show _ = some (Value.int .u8 120) from rfl)
  have y31 := (blk_cell Y8 31).trans (show _ = some (Value.int .u8 173) from rfl)
  clear X8 Y8 X7 Y7
  go_wp2
  go_ret
  exact ⟨rfl, B8.out⟩
end Go.Proofs.Ytlniejfbkcgneaa.HashT

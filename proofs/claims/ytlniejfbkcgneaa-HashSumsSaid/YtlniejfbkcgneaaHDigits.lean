/- Proved: hash.digits answers a word of a row of hexadecimal digits; conditions: the theorems' own premises. -/
import Derived.Test.YtlniejfbkcgneaaYHashx1
namespace Go.Proofs.Ytlniejfbkcgneaa.HashT
open Go.RowKit Go.Proofs.Ytlniejfbkcgneaa.YHash Go.Proofs.YtlniejfbkcgneaaW.PrintWords Go.Proofs.YtlniejfbkcgneaaW.PrintLast Go.Proofs.YtlniejfbkcgneaaW.PrintMore
set_option linter.unusedVariables false
set_option linter.unusedSimpArgs false
/-- One digit more. -/
def dstep (x c : Int) : Int := Go.bits .or .u32 (x * 16 % 4294967296) (if 97 ≤ c then (c - 87) % 256 else (c - 48) % 256)
def digN (b : ByteArray) : Nat → Int
  | 0 => 0
  | j + 1 => dstep (digN b j) (rd (bytesOf b) (j : Int))
set_option maxHeartbeats 1000000 in
set_option maxRecDepth 100000 in
theorem digits_calls (s : ByteArray) (i : Nat) (w : World) (hs : s.size ≤ 1000) (h : 8 * i + 8 ≤ s.size) : Calls Try.prog 18 #[.string s, .int .i64 (i : Int)] w fun e w' => e = .returned (.int .u32 (digN (s.extract (8 * i) (8 * i + 8)) 8)) ∧ Below w.heap.size w w' := by
  have k1 : IntKind.i64.wrap (8 * (i : Int)) = 8 * (i : Int) := IntWalk.i64_in _ (by omega)
  have k2 : IntKind.i64.wrap (8 * (i : Int) + 8) = 8 * (i : Int) + 8 := IntWalk.i64_in _ (by omega)
  have hb8 : (s.extract (8 * i) (8 * i + 8)).size = 8 := by rw [ByteArray.size_extract]; omega
  have kb : ∀ W : World, ∃ c, (convert 9 22 (.string (s.extract (8 * i) (8 * i + 8)))).run Try.prog W = .ok (.slice (some ⟨W.heap.size, 0, none⟩) 8 c) (Lib.bytesWorld W 5 (s.extract (8 * i) (8 * i + 8))) := fun W => ⟨_, (print_bytes (P := Try.prog) 9 22 5 Try.underlying9 Try.underlying22 Try.underlying5 _ W).trans (by rw [hb8])⟩
  obtain ⟨c, kb1⟩ := kb w
  clear kb
  have HC : Aside0 (∀ j, j < 8 → (Lib.bytesWorld w 5 (s.extract (8 * i) (8 * i + 8))).cell? ⟨w.heap.size, j, none⟩ = some (.int .u8 (rd (bytesOf (s.extract (8 * i) (8 * i + 8))) (j : Int)))) := ⟨fun j hj => by
    have h1 := (bytes_reads w 5 (s.extract (8 * i) (8 * i + 8)) (by omega)).2.2 (by omega)
    obtain ⟨ad, e1, h2⟩ := h1
    injection e1 with e1
    subst e1
    have h3 := h2 j (by omega)
    rw [add_plain] at h3
    exact h3⟩
  have HB := Aside0.mk (bytes_below (Below.refl w.heap.size w) (Nat.le_refl _) 5 (s.extract (8 * i) (8 * i + 8)))
  clear hb8
  go_enter Try.func18, Try.ntmps18
  go_wp2
  go_loop [5, 17] (fun x t => ∃ (j : Nat) (y : Int), j ≤ 8 ∧ t = .int .i64 (j : Int) ∧ x = .int .u32 y ∧ Aside0 (y = digN (s.extract (8 * i) (8 * i + 8)) j)) (fun _ t => 8 - (intOf t).toNat)
  case atStart => exact ⟨0, 0, by omega, rfl, rfl, ⟨rfl⟩⟩
  case round =>
    obtain ⟨j, y, hj, rfl, rfl, HY⟩ := hrel
    by_cases hlt : j < 8
    · have hx := HC.out j hlt
      obtain ⟨c', hc'⟩ : ∃ c', rd (bytesOf (s.extract (8 * i) (8 * i + 8))) (j : Int) = c' := ⟨_, rfl⟩
      rw [hc'] at hx
      have HD : Aside0 (digN (s.extract (8 * i) (8 * i + 8)) (j + 1) = dstep y c') := ⟨by rw [← hc', HY.out]; rfl⟩
      clear hc'
      by_cases h97 : 97 ≤ c'
      · have HE : Aside0 (dstep y c' = Go.bits .or .u32 (y * 16 % 4294967296) ((c' - 87) % 256)) := ⟨by unfold dstep; rw [if_pos h97]⟩
        go_wp2
        go_round
        case rel => exact ⟨j + 1, _, by omega, by go_num, rfl, ⟨by rw [HD.out, HE.out]⟩⟩
        case measure => simp [intOf]; omega
      · have HE : Aside0 (dstep y c' = Go.bits .or .u32 (y * 16 % 4294967296) ((c' - 48) % 256)) := ⟨by unfold dstep; rw [if_neg h97]⟩
        go_wp2
        go_round
        case rel => exact ⟨j + 1, _, by omega, by go_num, rfl, ⟨by rw [HD.out, HE.out]⟩⟩
        case measure => simp [intOf]; omega
    · have HJ : Aside0 (j = 8) := ⟨by omega⟩
      go_wp2
      go_ret
      exact ⟨by rw [HY.out, HJ.out]; rfl, HB.out⟩
end Go.Proofs.Ytlniejfbkcgneaa.HashT

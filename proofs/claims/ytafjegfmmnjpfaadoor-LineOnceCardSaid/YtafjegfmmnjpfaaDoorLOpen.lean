/- Proved: texts that come in as an argument; conditions: the theorems' own premises. -/
import Derived.Test.YtafjegfmmnjpfaaDoorLBase
import Derived.Deep.Matrix
import Derived.Lib.SmallJoins
namespace Go.Proofs.YtafjegfmmnjpfaaDoor.LineT
open Go.RowKit Go.ChangeShapes Go.WideShapes Go.Deep Go.Proofs.YtafjegfmmnjpfaaDoor.YLine Go.Proofs.YtafjegfmmnjpfaaDoorW.PrintWords Go.Proofs.YtafjegfmmnjpfaaDoorW.PrintLast Go.Proofs.YtafjegfmmnjpfaaDoorW.PrintMore
set_option linter.unusedVariables false
set_option linter.unusedSimpArgs false
/-- Texts that lie in a row. -/
def TextsAt (w : World) (A : Option Addr) (ps : List (List Int)) : Prop :=
  0 < ps.length → ∃ b o, A = some ⟨b, o, none⟩ ∧ ∀ i (hi : i < ps.length), ∃ A' c, w.cell? ⟨b, o + i, none⟩ = some (.slice A' (ps[i]).length c) ∧ (ps[i]).length ≤ c ∧ Bytes w A' (ps[i])
theorem TextsAt.frame {w w1 : World} {A : Option Addr} {ps : List (List Int)} {S : Nat → Prop} (h : TextsAt w A ps) (hf : Frame w w1 S) (hS : ∀ k, S k → w.heap.size ≤ k) : TextsAt w1 A ps := by
  intro hp
  obtain ⟨b, o, rfl, hx⟩ := h hp
  refine ⟨b, o, rfl, fun i hi => ?_⟩
  obtain ⟨A', c, h1, h2, h3⟩ := hx i hi
  exact ⟨A', c, hf.cell h1 (fun h => by have h4 := hS _ h; have h5 := World.block_lt_of_cell? w _ h1; omega), h2, h3.frame hf (fun h0 ad e h => by have h4 := hS _ h; have h5 := h3.lt h0 ad e; omega)⟩
theorem TextsAt.below {w w1 : World} {A : Option Addr} {ps : List (List Int)} (h : TextsAt w A ps) (hb : Below w.heap.size w w1) : TextsAt w1 A ps := h.frame (Frame.of_below hb) (fun _ h => h.elim)
section
variable {H : Type} {enc : TypeId × Value → H} {w : World} {base : Nat} {held : Bool}
set_option maxRecDepth 100000 in
theorem texts_open {r : Reach} {b0 : Nat} {v : Value} {d : DataW H} {p : List MemPlace} (hv : Value.okWide Tryd.prog w r b0 22 v) (h : DataW.Trod enc Tryd.prog w base (fun _ => true) held 22 v d p) :
    ∃ (A : Option Addr) (n c : Nat) (ps : List (List Int)), v = .slice A n c ∧ ps.length = n ∧ n ≤ 9223372036854775807 ∧ TextsAt w A ps ∧ (∀ q ∈ ps, q.length ≤ 9223372036854775807) ∧ ∀ q ∈ ps, ∀ x ∈ q, 0 ≤ x ∧ x ≤ 255 := by
  obtain ⟨A, n, c, rfl⟩ := okWide_slice Tryd.underlying22 hv
  obtain ⟨fuel, hf⟩ := h
  rcases open_int_rows Tryd.underlying22 Tryd.underlying32 Tryd.underlying5 (by kernel_rfl) (by kernel_rfl) hf with ⟨hcs, _⟩ | ⟨a, len, cap, Ar, L, C, Z, hcs, _, hl, hm, _, hx⟩
  · simp [Value.cells] at hcs
    obtain ⟨rfl, rfl, rfl⟩ := hcs
    exact ⟨none, 0, 0, [], rfl, rfl, by omega, fun h => (by simp at h), fun q hq => (by simp at hq), fun q hq => (by simp at hq)⟩
  · simp [Value.cells] at hcs
    obtain ⟨rfl, rfl, rfl⟩ := hcs
    have hlen : ((List.range n).map fun i => (Z i).take (L i)).length = n := by simp
    have hrow : ∀ i, i < n → ((Z i).take (L i)).length = L i := fun i hi => by
      obtain ⟨_, h2, _, h4, _⟩ := hx i (by omega)
      rw [List.length_take]; omega
    have hmem : ∀ q ∈ (List.range n).map fun i => (Z i).take (L i), ∃ i, i < n ∧ q = (Z i).take (L i) := fun q hq => by
      obtain ⟨i, hi, rfl⟩ := List.mem_map.1 hq
      exact ⟨i, List.mem_range.1 hi, rfl⟩
    refine ⟨some a, n, c, (List.range n).map fun i => (Z i).take (L i), rfl, hlen, by simp only [maxLen] at hm; omega, fun h0 => ?_, fun q hq => ?_, fun q hq x hxq => ?_⟩
    · obtain ⟨b, o, ha⟩ : ∃ b o, a = ⟨b, o, none⟩ := by
        rcases a with ⟨b, o, s⟩
        cases s with
        | none => exact ⟨b, o, rfl⟩
        | some s =>
          rw [hlen] at h0
          have h9 := (hx 0 (by omega)).1
          have e9 : (⟨b, o, some s⟩ : Addr).add 0 = ⟨b, o, some s⟩ := rfl
          rw [e9] at h9
          unfold World.cell? at h9
          split at h9
          · simp at h9
          · cases h9
      subst ha
      refine ⟨b, o, rfl, fun i hi => ?_⟩
      rw [hlen] at hi
      obtain ⟨h1, h2, h3, h4, h5, h6, h7⟩ := hx i (by omega)
      refine ⟨Ar i, C i, ?_, ?_, fun h8 => ?_⟩
      · rw [List.getElem_map, List.getElem_range, hrow i hi]
        rwa [add_at] at h1
      · rw [List.getElem_map, List.getElem_range, hrow i hi]
        omega
      · rw [List.getElem_map, List.getElem_range] at h8 ⊢
        rw [hrow i hi] at h8
        cases hA : Ar i with
        | none => have := h6 hA; omega
        | some a' =>
          refine ⟨a', rfl, fun j u hu => ?_⟩
          unfold nums at hu
          rw [List.getElem?_map, List.getElem?_take] at hu
          by_cases hj : j < L i
          · rw [if_pos hj, List.getElem?_eq_getElem (by omega)] at hu
            have hz := (h7 a' hA).2 j (by omega)
            rw [List.getD_eq_getElem?_getD, List.getElem?_eq_getElem (by omega)] at hz
            rw [hz]
            simpa using hu
          · rw [if_neg hj] at hu; simp at hu
    · obtain ⟨i, hi, rfl⟩ := hmem q hq
      obtain ⟨_, h2, h3, _⟩ := hx i (by omega)
      rw [hrow i hi]
      simp only [maxLen] at h3
      omega
    · obtain ⟨i, hi, rfl⟩ := hmem q hq
      obtain ⟨_, _, _, _, h5, _⟩ := hx i (by omega)
      have := h5 x (List.mem_of_mem_take hxq)
      simp [Lit.wf, IntKind.min, IntKind.max, IntKind.signed, IntKind.bits] at this
      exact this
end
end Go.Proofs.YtafjegfmmnjpfaaDoor.LineT

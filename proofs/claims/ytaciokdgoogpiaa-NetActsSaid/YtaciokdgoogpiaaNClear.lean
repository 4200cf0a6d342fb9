/- Proved: the built-in clear of datagrams in the air; conditions: the theorems' own premises. -/
import Derived.Test.YtaciokdgoogpiaaNIdx
namespace Go.Proofs.Ytaciokdgoogpiaa.NetT
open Go.RowKit Go.Proofs.Ytaciokdgoogpiaa.YNet Go.Proofs.YtaciokdgoogpiaaW.PrintWords Go.Proofs.YtaciokdgoogpiaaW.PrintLast Go.Proofs.YtaciokdgoogpiaaW.PrintMore
set_option linter.unusedVariables false
set_option linter.unusedSimpArgs false
theorem zeroFl (w : World) : (zeroValue 56).run Try.prog w = .ok fl0 w := by kernel_rfl
theorem run_clear_fl (w : World) (ty : TypeId) (b o n c : Nat) (hn : 0 < n) (hc : ∀ j, j < n * 5 → (w.cell? ⟨b, o + j, none⟩).isSome = true) (hf : ∀ j, j < n * 5 → w.frozen? ⟨b, o + j, none⟩ = false) :
    ∃ zs : List Value, zs.length = n * 5 ∧ (Builtin.clear_ #[50] ty #[.slice (some ⟨b, o, none⟩) n c]).run Try.prog w = .ok (.tuple #[]) (w.setCells b o zs) := by
  have hl : (Builtin.zeroCells fl0.cells n).toList.length = n * 5 := by
    simp [Builtin.zeroCells, fl0, Value.cells]
  have h1 : ∀ v ∈ (Builtin.zeroCells fl0.cells n).toList, v.oneCell' = true := by
    intro v hv
    simp only [Builtin.zeroCells, fl0, Value.cells] at hv
    simp at hv
    obtain ⟨i, hi, rfl⟩ := hv
    have : i % 5 < 5 := Nat.mod_lt _ (by omega)
    generalize i % 5 = q at *
    match q, this with
    | 0, _ => rfl
    | 1, _ => rfl
    | 2, _ => rfl
    | 3, _ => rfl
    | 4, _ => rfl
  have hst := run_storeCells_cells (P := Try.prog) b o (Builtin.zeroCells fl0.cells n).toList 0 w (by rw [hl]; simpa using hc) (by rw [hl]; simpa using hf) h1
  simp only [Nat.add_zero] at hst
  refine ⟨_, hl, ?_⟩
  have hst2 := hst
  unfold fl0 at hst2
  obtain ⟨m, rfl⟩ : ∃ m, n = m + 1 := ⟨n - 1, by omega⟩
  simp [Builtin.clear_, run_underlying Try.underlying50, zeroFl, hst, hst2]
  try rfl
end Go.Proofs.Ytaciokdgoogpiaa.NetT

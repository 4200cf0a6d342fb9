/- Proved: when a message is sent; conditions: the theorems' own premises. -/
import Derived.Test.YtafjegfmmnjpfaaDoorLSend
namespace Go.Proofs.YtafjegfmmnjpfaaDoor.LineT
open Go.RowKit Go.Proofs.YtafjegfmmnjpfaaDoor.YLine Go.Proofs.YtafjegfmmnjpfaaDoorW.PrintWords Go.Proofs.YtafjegfmmnjpfaaDoorW.PrintLast Go.Proofs.YtafjegfmmnjpfaaDoorW.PrintMore
set_option linter.unusedVariables false
set_option linter.unusedSimpArgs false
theorem sendE_none {L : LS} {msg : List Int} (h : sendE L msg = none) : 1 ≤ msg.length ∧ msg.length ≤ 8192 ∧ L.queue.length + (msg.length + 63) / 64 ≤ 200 ∧ cutS msg = (Chunk.cutL msg, none) := by
  unfold sendE cutS at h
  by_cases h0 : msg.length = 0
  · rw [if_pos h0] at h; cases h
  · rw [if_neg h0] at h
    by_cases h1 : msg.length ≤ 8192
    · rw [if_pos h1] at h
      simp only at h
      split at h
      · rename_i h2
        rw [cutL_length] at h2
        refine ⟨by omega, h1, by omega, by unfold cutS; rw [if_neg h0, if_pos h1]⟩
      · cases h
    · rw [if_neg h1] at h; cases h
theorem sendE_of {L : LS} {msg : List Int} (h0 : 1 ≤ msg.length) (h1 : msg.length ≤ 8192) (h2 : L.queue.length + (msg.length + 63) / 64 ≤ 200) : sendE L msg = none := by
  unfold sendE cutS
  rw [if_neg (by omega), if_pos h1]
  simp only
  rw [if_pos (by rw [cutL_length]; omega)]
theorem room_iff (L : LS) (msg : List Int) : roomS L msg.length = (sendE L msg).isNone := by
  cases h : sendE L msg with
  | none =>
    obtain ⟨h0, h1, h2, _⟩ := sendE_none h
    unfold roomS
    rw [decide_eq_true (by omega : (1 : Int) ≤ (msg.length : Int)), decide_eq_true (by omega : (msg.length : Int) ≤ 8192), decide_eq_true (by omega)]
    rfl
  | some e =>
    cases hr : roomS L msg.length with
    | false => rfl
    | true =>
      unfold roomS at hr
      simp only [Bool.and_eq_true, decide_eq_true_eq] at hr
      rw [sendE_of (by omega) (by omega) (by omega)] at h
      cases h
theorem sendS_some {L : LS} {msg : List Int} {e : Int} (h : sendE L msg = some e) : sendS L msg = L := by unfold sendS; rw [if_neg (by rw [h]; simp)]
theorem sendS_none {L : LS} {msg : List Int} (h : sendE L msg = none) : sendS L msg = putS L (Chunk.cutL msg) := by
  unfold sendS
  rw [if_pos h, (sendE_none h).2.2.2]
theorem put_queue (L : LS) (ps : List P4) : (putS L ps).queue.length = L.queue.length + ps.length := by
  show (L.queue ++ numFrom L.given ps).length = _
  rw [List.length_append, numFrom_length]
end Go.Proofs.YtafjegfmmnjpfaaDoor.LineT

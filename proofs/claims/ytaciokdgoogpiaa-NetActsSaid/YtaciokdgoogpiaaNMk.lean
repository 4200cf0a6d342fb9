/- Proved: rows of datagrams with one delay, and what comes of them; conditions: the theorems' own premises. -/
import Derived.Test.YtaciokdgoogpiaaNFates
namespace Go.Proofs.Ytaciokdgoogpiaa.NetT
open Go.RowKit Go.Proofs.Ytaciokdgoogpiaa.YNet Go.Proofs.YtaciokdgoogpiaaW.PrintWords Go.Proofs.YtaciokdgoogpiaaW.PrintLast Go.Proofs.YtaciokdgoogpiaaW.PrintMore
set_option linter.unusedVariables false
set_option linter.unusedSimpArgs false
def sy (d : Int) (b : List Int) (t : Int) : Say := (⟨#[]⟩, d, ⟨#[]⟩, b, t)
/-- n datagrams, each with the same ticks to go. -/
def mkS (f : Nat → Int × List Int) (n : Nat) (t : Int) : List Say := (List.range n).map (fun j => sy (f j).1 (f j).2 t)
theorem mkS_length (f : Nat → Int × List Int) (n : Nat) (t : Int) : (mkS f n t).length = n := by
  unfold mkS
  rw [List.length_map, List.length_range]
theorem mkS_at (f : Nat → Int × List Int) (n : Nat) (t : Int) (i : Nat) (h : i < (mkS f n t).length) : (mkS f n t)[i] = sy (f i).1 (f i).2 t := by
  simp [mkS]
theorem mkS_succ (f : Nat → Int × List Int) (n : Nat) (t : Int) : mkS f (n + 1) t = mkS f n t ++ [sy (f n).1 (f n).2 t] := by
  unfold mkS
  rw [List.range_succ, List.map_append]
  rfl
theorem mkS_left (f : Nat → Int × List Int) (n : Nat) (t : Int) (h : t ≠ 0) : leftS (mkS f n t) = mkS f n (t - 1) := by
  induction n with
  | zero => rfl
  | succ n ih =>
    rw [mkS_succ, mkS_succ, leftS_append, ih]
    unfold leftS keptS
    rw [List.filter_cons, if_pos (decide_eq_true (show tickOf (sy (f n).1 (f n).2 t) ≠ 0 from h))]
    rfl
theorem mkS_gone (f : Nat → Int × List Int) (n : Nat) (t : Int) (h : t ≠ 0) : goneS (mkS f n t) = [] := by
  induction n with
  | zero => rfl
  | succ n ih =>
    rw [mkS_succ, goneS_append, ih]
    unfold goneS
    rw [List.filter_cons, if_neg (fun e => h (show tickOf (sy (f n).1 (f n).2 t) = 0 from of_decide_eq_true e))]
    rfl
theorem mkS_left0 (f : Nat → Int × List Int) (n : Nat) : leftS (mkS f n 0) = [] := by
  induction n with
  | zero => rfl
  | succ n ih =>
    rw [mkS_succ, leftS_append, ih]
    rfl
theorem mkS_gone0 (f : Nat → Int × List Int) (n : Nat) : goneS (mkS f n 0) = mkS f n 0 := by
  induction n with
  | zero => rfl
  | succ n ih =>
    rw [mkS_succ, goneS_append, ih]
    rfl
theorem spot_none {w : World} {a : Addr} {v : Value} (h : w.cell? a = some v) : ∃ b o, a = ⟨b, o, none⟩ := by
  rcases a with ⟨b, o, s⟩
  cases s with
  | none => exact ⟨b, o, rfl⟩
  | some s =>
    unfold World.cell? at h
    split at h
    · simp at h
    · cases h
/-- Cells of a row of datagrams, as they are read. -/
def Row1 (w : World) (gr off : Nat) (l : List Say) : Prop := ∀ i (h : i < l.length), ∃ Ai ki, w.cell? ⟨gr, off + i * 4 + 1, none⟩ = some (.int .i64 (l[i]).2.1) ∧ w.cell? ⟨gr, off + i * 4 + 3, none⟩ = some (.slice Ai (l[i]).2.2.2.1.length ki) ∧ (l[i]).2.2.2.1.length ≤ ki ∧ ∀ u, (l[i]).2.2.2.1[0]? = some u → ∃ ga oa, Ai = some ⟨ga, oa, none⟩ ∧ w.cell? ⟨ga, oa, none⟩ = some (.int .u8 u)
theorem row1_of {w : World} {B base gr off c : Nat} {gs : List Fl} (hq : QRow w B 32 4 (.slice (some ⟨gr, off, none⟩) gs.length c) gs.length (mlCells gs)) (hf : ∀ f ∈ gs, FlOk w base f) : Row1 w gr off (gs.map Fl.say) := by
  intro i h
  have hi : i < gs.length := by rw [List.length_map] at h; exact h
  obtain ⟨ad, ea, hc⟩ := q_cells hq (by omega)
  injection ea with ea
  subst ea
  rw [List.getElem_map]
  have hk := hf _ (List.getElem_mem hi)
  refine ⟨gs[i].A, gs[i].c, ?_, ?_, hk.cap, fun u hu => ?_⟩
  · have := hc (i * 4 + 1) _ (mlCells_at gs i hi 1 (by omega))
    rwa [add_at, ← Nat.add_assoc] at this
  · have := hc (i * 4 + 3) _ (mlCells_at gs i hi 3 (by omega))
    rwa [add_at, ← Nat.add_assoc] at this
  · have hu' : gs[i].b[0]? = some u := hu
    have hp : 0 < gs[i].b.length := (List.getElem?_eq_some_iff.1 hu').1
    obtain ⟨ad, ea, hb⟩ := hk.bytes hp
    have h0 := hb 0 (.int .u8 u) (by unfold nums; rw [List.getElem?_map, hu']; rfl)
    have e0 : ad.add 0 = ad := by
      rcases ad with ⟨b, o, s⟩
      cases s <;> rfl
    rw [e0] at h0
    obtain ⟨ga, oa, rfl⟩ := spot_none h0
    exact ⟨ga, oa, ea, h0⟩
theorem came_rows {w : World} {B base : Nat} {e : Ending} {l : List Say} (h : Came w B base e l) : ∃ A c, e = .returned (.slice A l.length c) ∧ l.length ≤ c ∧ (0 < l.length → ∃ gr off, A = some ⟨gr, off, none⟩ ∧ Row1 w gr off l) := by
  obtain ⟨vo, gs, rfl, hs, hq, hf⟩ := h
  obtain ⟨Av, cv, rfl, hle⟩ := q_slice hq
  have hl : l.length = gs.length := by rw [← hs, List.length_map]
  rw [hl]
  refine ⟨Av, cv, rfl, hle, fun hn => ?_⟩
  obtain ⟨gr, off, rfl⟩ := row_at hq hn
  exact ⟨gr, off, rfl, by rw [← hs]; exact row1_of hq hf⟩
end Go.Proofs.Ytaciokdgoogpiaa.NetT

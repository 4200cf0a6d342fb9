/- Proved: a region that draws its order, by an invariant over what was done (any_inv); conditions: the theorems' own premises. -/
import Derived.Test.YtaciokdgoogpiaaNTick
namespace Go.Proofs.Ytaciokdgoogpiaa.NetT
open Go.RowKit Go.Proofs.Ytaciokdgoogpiaa.YNet Go.Proofs.YtaciokdgoogpiaaW.PrintWords Go.Proofs.YtaciokdgoogpiaaW.PrintLast Go.Proofs.YtaciokdgoogpiaaW.PrintMore
set_option linter.unusedVariables false
set_option linter.unusedSimpArgs false
section
variable {P : Program} {ops : Array Oper} {Q : Exit → Act → World → Prop} {md : Region.Mode}
theorem ready_spec {l : Array Bool} {i : Nat} (h : i ∈ Region.ready md ops l) : i < ops.size ∧ l.getD i true = false ∧ ∀ o, ops[i]? = some o → ∀ k (h : k < o.after.size), Region.binds md (o.after[k]) = true → l.getD (o.after[k]).on false = true := by
  unfold Region.ready at h
  obtain ⟨h1, h2⟩ := List.mem_filter.1 h
  simp only [Bool.and_eq_true, Bool.not_eq_true'] at h2
  refine ⟨List.mem_range.1 h1, h2.1, fun o ho k hk hb => ?_⟩
  have h3 := h2.2
  rw [ho] at h3
  simp only [Option.map_some, Option.getD_some] at h3
  have h4 := (Array.all_eq_true_iff_forall_mem.1 h3) (o.after[k]) (Array.getElem_mem hk)
  simpa [hb] using h4
theorem ready_none {l : Array Bool} (h : ∀ i, i < ops.size → l.getD i true = true) : Region.ready md ops l = [] := by
  unfold Region.ready
  rw [List.filter_eq_nil_iff]
  intro i hi
  simp [h i (List.mem_range.1 hi)]
/-- Nothing is ready any more: all was done (each operation waits for earlier ones alone). -/
theorem ready_all {l : Array Bool} (hs : l.size = ops.size) (hd : ∀ i o, ops[i]? = some o → ∀ e ∈ o.after, Region.binds md e = true → e.on < i) (h : Region.ready md ops l = []) : ∀ i, i < ops.size → l.getD i false = true := by
  intro i
  induction i using Nat.strongRecOn with
  | ind i ih =>
    intro hi
    have ho : ops[i]? = some ops[i] := Array.getElem?_eq_getElem hi
    unfold Region.ready at h
    rw [List.filter_eq_nil_iff] at h
    have h1 := h i (List.mem_range.2 hi)
    rw [ho] at h1
    have h2 : (ops[i].after.all fun e => !Region.binds md e || l.getD e.on false) = true := by
      rw [Array.all_eq_true_iff_forall_mem]
      intro e he
      by_cases hb : Region.binds md e = true
      · have h3 := hd i _ ho e he hb
        simp [ih e.on h3 (by omega)]
      · simp [hb]
    simp only [Option.map_some, Option.getD_some, h2, Bool.and_true, Bool.not_eq_true', Bool.not_eq_false] at h1
    rw [Array.getD_eq_getD_getElem?] at h1 ⊢
    rw [Array.getElem?_eq_getElem (by omega)] at h1 ⊢
    exact h1
theorem getD_up {l : Array Bool} {i : Nat} (hi : i < l.size) (j : Nat) : (l.setIfInBounds i true).getD j false = if i = j then true else l.getD j false := by
  rw [Array.getD_eq_getD_getElem?, Array.getD_eq_getD_getElem?, Array.getElem?_setIfInBounds]
  split
  · simp [hi]
  · rfl
theorem wpOp_of {i : Nat} {o : Oper} {K : Act → World → Prop} {a : Act} {w : World} (ho : ops[i]? = some o) (h : if Region.wanted o (yielded ops a.tmps) = true then Oper.wp P o a w K Q else K (a.put o.dst undef) w) : wpOp P ops Q i K a w := by
  unfold wpOp
  rw [ho]
  by_cases hw : Region.wanted o (yielded ops a.tmps) = true
  · rw [if_pos hw] at h
    simp only [hw, if_true]
    exact .inl h
  · rw [if_neg hw] at h
    simp only [hw]
    exact h
theorem any_inv (G : Array Bool → Act → World → Prop) (hs : ∀ l a w, G l a w → l.size = ops.size)
    (hend : ∀ l a w, G l a w → Region.ready md ops l = [] → Q .normal a w)
    (hstep : ∀ l a w i, G l a w → i ∈ Region.ready md ops l → wpOp P ops Q i (G (l.setIfInBounds i true)) a w) :
    ∀ (n : Nat) (l : Array Bool) (a : Act) (w : World), l.toList.countP (· == false) ≤ n → G l a w → wpAny P md ops Q n l a w := by
  intro n
  induction n with
  | zero =>
    intro l a w hn hg
    have hr : Region.ready md ops l = [] := ready_none fun i hi => by
      have hz : l.toList.countP (· == false) = 0 := by omega
      rw [List.countP_eq_zero] at hz
      have hl := hs l a w hg
      have hi' : i < l.size := by omega
      have := hz l[i] (by simp)
      rw [Array.getD_eq_getD_getElem?, Array.getElem?_eq_getElem hi']
      simpa using this
    exact ⟨hr, hend l a w hg hr⟩
  | succ n ih =>
    intro l a w hn hg
    refine ⟨hend l a w hg, fun i hi => wpOp_mono (fun a' w' h => ih _ a' w' ?_ h) (hstep l a w i hg hi)⟩
    obtain ⟨h1, h2, _⟩ := ready_spec hi
    have hl := hs l a w hg
    have hi' : i < l.size := by omega
    have hf : l.toList[i]'(by simpa using hi') = false := by
      rw [Array.getD_eq_getD_getElem?, Array.getElem?_eq_getElem hi'] at h2
      simpa using h2
    rw [Array.toList_setIfInBounds, List.countP_set (by simpa using hi'), hf]
    have hp : 0 < l.toList.countP (· == false) := List.countP_pos_iff.2 ⟨false, by rw [← hf]; exact List.getElem_mem _, rfl⟩
    have e1 : ((false == false) = true) := rfl
    rw [if_pos e1, if_neg (by decide)]
    omega
theorem getD_tf {l : Array Bool} {i : Nat} (hi : i < l.size) (h : l.getD i true = false) : l.getD i false = false := by
  rw [Array.getD_eq_getD_getElem?, Array.getElem?_eq_getElem hi] at h ⊢
  exact h
/-- Each operation waits for earlier ones alone. -/
def depsB (md : Region.Mode) (ops : Array Oper) : Bool := (List.range ops.size).all fun i => match ops[i]? with
  | some o => o.after.all (fun e => !Region.binds md e || decide (e.on < i))
  | none => true
theorem deps_of (h : depsB md ops = true) : ∀ i o, ops[i]? = some o → ∀ e ∈ o.after, Region.binds md e = true → e.on < i := by
  intro i o ho e he hb
  have hi : i < ops.size := (Array.getElem?_eq_some_iff.1 ho).1
  have h2 := List.all_eq_true.1 h i (List.mem_range.2 hi)
  rw [ho] at h2
  have h3 := Array.all_eq_true_iff_forall_mem.1 h2 e he
  simpa [hb] using h3
/-- A region that draws its order, by an invariant. -/
theorem region_inv {id : Nat} {a : Act} {w : World} (hm : P.follows .mixedOrders = true) (G : Array Bool → Act → World → Prop) (hs : ∀ l a w, G l a w → l.size = ops.size)
    (hd : depsB .any ops = true)
    (hend : ∀ l a w, G l a w → (∀ i, i < ops.size → l.getD i false = true) → Q .normal a w)
    (hstep : ∀ l a w i, G l a w → i ∈ Region.ready .any ops l → wpOp P ops Q i (G (l.setIfInBounds i true)) a w)
    (h0 : G (Array.replicate ops.size false) a w.drew) : (Code.region id ops true).wp P Q a w := by
  refine wp_region_any hm (any_inv G hs (fun l a w hg hr => hend l a w hg (ready_all (hs l a w hg) (deps_of hd) hr)) hstep ops.size _ a _ ?_ h0)
  have := List.countP_le_length (p := (· == false)) (l := (Array.replicate ops.size false).toList)
  simpa using this
end
end Go.Proofs.Ytaciokdgoogpiaa.NetT

/- Proved: slices.IndexFunc over the datagrams in the air, with the closure of a tick; conditions: the theorems' own premises. -/
import Derived.Test.YtaciokdgoogpiaaNClo
namespace Go.Proofs.Ytaciokdgoogpiaa.NetT
open Go.RowKit Go.Proofs.Ytaciokdgoogpiaa.YNet Go.Proofs.YtaciokdgoogpiaaW.PrintWords Go.Proofs.YtaciokdgoogpiaaW.PrintLast Go.Proofs.YtaciokdgoogpiaaW.PrintMore
set_option linter.unusedVariables false
set_option linter.unusedSimpArgs false
theorem fl_range {w : World} {base gr off c : Nat} {fs : List Fl} (hq : QRow w base 56 5 (.slice (some ⟨gr, off, none⟩) fs.length c) fs.length (flCells fs)) (i : Nat) (hi : i < fs.length) : w.rangeAt gr (off + i * 5) (Fl.cells (fs[i])) := by
  intro j u hj
  obtain ⟨ad, e, h⟩ := q_cells hq (by omega)
  injection e with e
  subst e
  have hj5 : j < 5 := (List.getElem?_eq_some_iff.1 hj).1
  have := h (i * 5 + j) u (by rw [flCells_at fs i hi j hj5]; exact hj)
  rw [add_at] at this
  rw [Nat.add_assoc]
  exact this
theorem row_at {w : World} {base e size n c : Nat} {A : Option Addr} {xs : List Value} (hq : QRow w base e size (.slice A n c) n xs) (hn : 0 < n) : ∃ gr off, A = some ⟨gr, off, none⟩ := by
  rcases hq.2 with ⟨h0, _⟩ | ⟨g, o, cap, cur, he, _⟩
  · omega
  · injection he with ha _ _
    exact ⟨_, _, ha⟩
def tickFn (ob : Nat) : Value := .func (.func 18) #[] #[.pointer (some ⟨ob, 0, none⟩)]
set_option maxHeartbeats 4000000 in
set_option maxRecDepth 100000 in
theorem idx_calls (w : World) (base bo ob c : Nat) (A : Option Addr) (vo : Value) (fs ms : List Fl) (hq : QRow w base 56 5 (.slice A fs.length c) fs.length (flCells fs)) (hO : IsOut w bo ob vo ms) (hbo : bo ≤ w.heap.size) (hms : ms.length ≤ 200) (hfs : fs.length ≤ 200) :
    Calls Try.prog 21 #[.slice A fs.length c, tickFn ob] w fun e w' => ∃ (i : Int) (vo' : Value) (ms' : List Fl), e = .returned (.int .i64 i) ∧
      ((i = -1 ∧ ms' = ms ∧ ∀ j (h : j < fs.length), (fs[j]).t ≠ 0) ∨ ∃ k, ∃ h : k < fs.length, i = (k : Int) ∧ ms' = ms ++ [fs[k]] ∧ (fs[k]).t = 0 ∧ ∀ j (h2 : j < k), (fs[j]).t ≠ 0) ∧ IsOut w' bo ob vo' ms' ∧ (vo'.ownBlock = vo.ownBlock ∨ ∃ k, vo'.ownBlock = some k ∧ w.heap.size ≤ k) ∧ Frame w w' (AirFoot ob vo) := by
  have Q0 := Aside0.mk hq
  have O0 := Aside0.mk hO
  have F0 := Aside0.mk (Frame.refl w (AirFoot ob vo))
  clear hq hO
  unfold tickFn
  go_enter Try.func21, Try.ntmps21
  go_wp2
  go_loopg [5, 8] fs.length (fun kq v5 v8 w' => ∃ (i : Nat) (v1 : Value), i ≤ fs.length ∧ v8 = .int .i64 (i : Int) ∧ Aside0 (kq = fs.length - i) ∧ Aside0 (∀ j (h : j < fs.length), j < i → (fs[j]).t ≠ 0) ∧ Aside0 (IsOut w' bo ob v1 ms) ∧ Aside0 (v1.ownBlock = vo.ownBlock ∨ ∃ k, v1.ownBlock = some k ∧ w.heap.size ≤ k) ∧ Aside0 (Frame w w' (AirFoot ob vo)))
  case atStart => exact ⟨0, vo, by omega, rfl, ⟨rfl⟩, ⟨fun _ _ h => by omega⟩, O0, ⟨.inl rfl⟩, F0⟩
  case round =>
    have O0' := O0
    clear O0 F0
    obtain ⟨i, v1, hi, rfl, HK, HZ, O1, V1, F1⟩ := hrel
    by_cases hlt : i < fs.length
    · have zt : 0 ≤ (i : Int) := by omega
      have lt : (i : Int) < (fs.length : Int) := by omega
      obtain ⟨gr, off, hA⟩ := row_at Q0.out (by omega)
      subst hA
      go_wp2_with ((with_reducible refine gate_dst (N := 15) rfl ?_); refine stop_here ?_)
      refine ⟨?_⟩
      have Q1 := Aside0.mk (qi_keep Q0.out F1.out (fun k hk => by
        obtain ⟨_, cc, h1⟩ := q_typed Q0.out k hk
        exact O0'.out.typed h1 (by decide) (by decide)))
      refine wpList_load_mid rfl 56 (.tmp 14) rfl gr (off + i * 5) rfl (Fl.cells (fs[i])) _ (fl_range Q1.out i hlt) Try.underlying56 rfl ?hi ?_
      case hi => rfl
      go_wp2_with (go_at_call 18; refine stop_here ?_)
      refine ⟨?_⟩
      refine (clo_calls _ bo ob v1 ms (fs[i]) O1.out (Nat.le_trans hbo F1.out.size) hms).mono ?_
      rintro e w2 ⟨rfl, v2, hO2, hV2, hF2⟩
      have O2 := Aside0.mk hO2
      have V2 := Aside0.mk (own_chain2 V1.out hV2 F1.out.size)
      have F2 := Aside0.mk (F1.out.trans hF2 (foot_chain V1.out))
      clear hO2 hV2 hF2 O1 V1 F1 Q1
      by_cases hz : (fs[i]).t = 0
      · have dz : decide ((fs[i]).t = 0) = true := by simpa using hz
        rw [if_pos hz] at O2
        go_wp2
        go_ret
        exact ⟨(i : Int), v2, _, rfl, .inr ⟨i, hlt, rfl, rfl, hz, fun j (hj : j < i) => HZ.out j (Nat.lt_trans hj hlt) hj⟩, O2.out, V2.out, F2.out⟩
      · have dz : decide ((fs[i]).t = 0) = false := by simpa using hz
        rw [if_neg hz] at O2
        go_wp2
        go_roundg (fs.length - i - 1)
        case measure => have := HK.out; omega
        case rel => exact ⟨i + 1, v2, by omega, by go_num, ⟨by omega⟩, ⟨fun j h hj => by
          by_cases e : j = i
          · subst e; exact hz
          · exact HZ.out j h (by omega)⟩, O2, V2, F2⟩
    · have HI : Aside0 (i = fs.length) := ⟨by omega⟩
      go_wp2
      go_ret
      exact ⟨-1, v1, ms, rfl, .inl ⟨rfl, rfl, fun j h => HZ.out j h (by have := HI.out; omega)⟩, O1.out, V1.out, F1.out⟩
end Go.Proofs.Ytaciokdgoogpiaa.NetT

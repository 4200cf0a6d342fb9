/- Proved: air told by what its datagrams say: New, Throw, Flying, Tick; conditions: the theorems' own premises. -/
import Derived.Test.YtaciokdgoogpiaaNPure
namespace Go.Proofs.Ytaciokdgoogpiaa.NetT
open Go.RowKit Go.Proofs.Ytaciokdgoogpiaa.YNet Go.Proofs.YtaciokdgoogpiaaW.PrintWords Go.Proofs.YtaciokdgoogpiaaW.PrintLast Go.Proofs.YtaciokdgoogpiaaW.PrintMore
set_option linter.unusedVariables false
set_option linter.unusedSimpArgs false
theorem say_gone (fs : List Fl) : (gone fs).map Fl.say = goneS (fs.map Fl.say) := by
  unfold gone goneS
  rw [List.filter_map]
  rfl
theorem say_left (fs : List Fl) : ((kept fs).map Fl.less).map Fl.say = leftS (fs.map Fl.say) := by
  unfold kept leftS keptS
  rw [List.filter_map, List.map_map, List.map_map]
  rfl
def TicksOk (l : List Say) : Prop := ∀ x ∈ l, 0 ≤ tickOf x ∧ tickOf x ≤ 3000
theorem left_ok {l : List Say} (h : TicksOk l) : TicksOk (leftS l) := by
  intro x hx
  unfold leftS keptS at hx
  obtain ⟨y, hy, rfl⟩ := List.mem_map.1 hx
  obtain ⟨h1, h2⟩ := List.mem_filter.1 hy
  have h3 := h y h1
  have h4 : tickOf y ≠ 0 := by simpa using h2
  show 0 ≤ tickOf y - 1 ∧ tickOf y - 1 ≤ 3000
  omega
theorem left_len (l : List Say) : (leftS l).length ≤ l.length := by
  unfold leftS keptS
  rw [List.length_map]
  exact List.length_filter_le _ _
theorem lay_ok {l : List Say} {x : Say} (h : TicksOk l) (h0 : 0 ≤ tickOf x) (h1 : tickOf x ≤ 3000) : TicksOk (layS l x) := by
  unfold layS
  split
  · intro y hy
    rcases List.mem_append.1 hy with hy | hy
    · exact h y hy
    · obtain rfl := List.mem_singleton.1 hy
      exact ⟨h0, h1⟩
  · exact h
theorem throw_ok {l : List Say} (h : TicksOk l) (s : ByteArray) (d : Int) (o : ByteArray) (b : List Int) (lost twice : Bool) (t : Int) : TicksOk (throwS l s d o b lost twice t) := by
  have hd : 0 ≤ delayS t ∧ delayS t ≤ 1000 := by unfold delayS; omega
  unfold throwS
  split
  · exact h
  · split
    · exact lay_ok (lay_ok h hd.1 (show delayS t ≤ 3000 by omega)) (show 0 ≤ 2 * delayS t + 1 by omega) (show 2 * delayS t + 1 ≤ 3000 by omega)
    · exact lay_ok h hd.1 (show delayS t ≤ 3000 by omega)
theorem throw_len {l : List Say} (h : l.length ≤ 200) (s : ByteArray) (d : Int) (o : ByteArray) (b : List Int) (lost twice : Bool) (t : Int) : (throwS l s d o b lost twice t).length ≤ 200 := by
  unfold throwS
  split
  · exact h
  · split
    · exact layS_len _ _ (layS_len _ _ h)
    · exact layS_len _ _ h
/-- Air, told by what its datagrams say. -/
def AirIs (w : World) (base g : Nat) (v : Value) (l : List Say) : Prop := ∃ fs, IsAir w base g v fs ∧ fs.map Fl.say = l ∧ l.length ≤ 200 ∧ TicksOk l
theorem AirIs.len {w : World} {base g : Nat} {v : Value} {l : List Say} (h : AirIs w base g v l) : l.length ≤ 200 := by
  obtain ⟨_, _, _, h, _⟩ := h
  exact h
theorem AirIs.ok {w : World} {base g : Nat} {v : Value} {l : List Say} (h : AirIs w base g v l) : TicksOk l := by
  obtain ⟨_, _, _, _, h⟩ := h
  exact h
theorem AirIs.below {w w1 : World} {base g : Nat} {v : Value} {l : List Say} (h : AirIs w base g v l) (hb : Below w.heap.size w w1) : AirIs w1 base g v l := by
  obtain ⟨fs, h1, h2⟩ := h
  exact ⟨fs, h1.below hb, h2⟩
theorem AirIs.keep {w w1 : World} {base g : Nat} {v : Value} {l : List Say} {S : Nat → Prop} (h : AirIs w base g v l) (hf : Frame w w1 S) (hg : base ≤ g) (hS : ∀ k, base ≤ k → ¬ S k) : AirIs w1 base g v l := by
  obtain ⟨fs, h1, h2⟩ := h
  refine ⟨fs, h1.keep hf (hS g hg) (fun k hk => hS k (q_typed h1.row k hk).1) (fun f hm ad e => hS _ ((h1.els f hm).own ad e).1), h2⟩
theorem AirIs.typed {w : World} {base g : Nat} {v : Value} {l : List Say} (h : AirIs w base g v l) {k ty : Nat} {cells : Array Value} (hk : w.heap[k]? = some (.cells cells ty (0, 0))) (h1 : ty ≠ 52) (h2 : ty ≠ 56) : ¬ AirFoot g v k := by
  obtain ⟨fs, h3, _⟩ := h
  exact h3.typed hk h1 h2
theorem AirIs.foot {w : World} {base g : Nat} {v : Value} {l : List Say} (h : AirIs w base g v l) (hg : base ≤ g) : ∀ k, AirFoot g v k → base ≤ k := by
  obtain ⟨fs, h3, _⟩ := h
  intro k hk
  rcases hk with rfl | hk
  · exact hg
  · exact (q_typed h3.row k hk.symm).1
theorem AirIs.foot_lt {w : World} {base g : Nat} {v : Value} {l : List Say} (h : AirIs w base g v l) : ∀ k, AirFoot g v k → k < w.heap.size := by
  obtain ⟨fs, h3, _⟩ := h
  intro k hk
  rcases hk with rfl | hk
  · exact blk_lt h3.blk
  · exact q_lt h3.row k hk.symm
theorem new_is (w : World) : Calls Try.prog 9 #[] w fun e w' => ∃ g, e = .returned (.pointer (some ⟨g, 0, none⟩)) ∧ w.heap.size ≤ g ∧ AirIs w' w.heap.size g (.slice none 0 0) [] ∧ Below w.heap.size w w' := by
  refine (new_calls w).mono ?_
  rintro e w' ⟨g, rfl, h1, h2, h3⟩
  exact ⟨g, rfl, h1, ⟨[], h2, rfl, by decide, fun x hx => by simp at hx⟩, h3⟩
theorem throw_is (w : World) (base g : Nat) (v : Value) (l : List Say) (s : ByteArray) (d : Int) (o : ByteArray) (A : Option Addr) (c : Nat) (b : List Int) (lost twice : Bool) (t : Int) (hI : AirIs w base g v l) (hb : Bytes w A b) (hoff : 0 < b.length → ∀ ad, A = some ad → ¬ AirFoot g v ad.block) (hc : b.length ≤ c) (hbl : b.length < 140737488355328) (hbase : base ≤ w.heap.size) :
    Calls Try.prog 13 #[.pointer (some ⟨g, 0, none⟩), .agg #[.string s, .int .i64 d, .string o, .slice A b.length c], .agg #[.bool lost, .bool twice, .int .i64 t]] w fun e w' => e = .returned (.tuple #[]) ∧ ∃ v', AirIs w' base g v' (throwS l s d o b lost twice t) ∧ (v'.ownBlock = v.ownBlock ∨ ∃ k, v'.ownBlock = some k ∧ w.heap.size ≤ k) ∧ Frame w w' (AirFoot g v) := by
  obtain ⟨fs, h1, rfl, h3, h4⟩ := hI
  rw [List.length_map] at h3
  refine (throw_calls w base g v fs s d o A c b lost twice t h1 hb hoff hc hbl hbase h3).mono ?_
  rintro e w' ⟨rfl, v', fs', k1, k2, k3, k4, k5⟩
  exact ⟨rfl, v', ⟨fs', k1, k2, by rw [← k2, List.length_map]; exact k3, throw_ok h4 s d o b lost twice t⟩, k4, k5⟩
theorem fly_is (w : World) (base g : Nat) (v : Value) (l : List Say) (hI : AirIs w base g v l) : Calls Try.prog 15 #[.pointer (some ⟨g, 0, none⟩)] w fun e w' => e = .returned (.int .i64 (l.length : Int)) ∧ w' = w := by
  obtain ⟨fs, h1, rfl, h3, h4⟩ := hI
  rw [List.length_map]
  exact fly_calls w base g v fs h1
/-- What a tick answers: a row of datagrams in new memory, their bytes in rows of their own. -/
def Came (w : World) (B base : Nat) (e : Ending) (l : List Say) : Prop := ∃ vo gs, e = .returned vo ∧ gs.map Fl.say = l ∧ QRow w B 32 4 vo gs.length (mlCells gs) ∧ ∀ f ∈ gs, FlOk w base f
theorem tick_is (w : World) (base g : Nat) (v : Value) (l : List Say) (hI : AirIs w base g v l) :
    Calls Try.prog 12 #[.pointer (some ⟨g, 0, none⟩)] w fun e w' => Came w' w.heap.size base e (goneS l) ∧ ∃ v', AirIs w' base g v' (leftS l) ∧ v'.ownBlock = v.ownBlock ∧ Frame w w' (AirFoot g v) := by
  obtain ⟨fs, h1, rfl, h3, h4⟩ := hI
  rw [List.length_map] at h3
  refine (tick_calls w base g v fs h1 h3 (fun f hf => h4 f.say (List.mem_map.2 ⟨f, hf, rfl⟩))).mono ?_
  rintro e w' ⟨v', ⟨vo, rfl, k0⟩, k1, k2, k3⟩
  refine ⟨⟨vo, gone fs, rfl, say_gone fs, k0, fun f hf => ?_⟩, v', ⟨_, k1, say_left fs, ?_, left_ok h4⟩, k2, k3⟩
  · have hm := (List.mem_filter.1 hf).1
    exact (h1.els f hm).keep k3 (h1.els_off f hm)
  · refine Nat.le_trans (left_len _) ?_
    rw [List.length_map]
    exact h3
theorem mlCells_at (fs : List Fl) (i : Nat) (hi : i < fs.length) (j : Nat) (hj : j < 4) : (mlCells fs)[i * 4 + j]? = (Fl.mail (fs[i]))[j]? := by
  induction fs generalizing i with
  | nil => simp at hi
  | cons f fs ih =>
    have e : mlCells (f :: fs) = Fl.mail f ++ mlCells fs := rfl
    have hl : (Fl.mail f).length = 4 := rfl
    rw [e]
    cases i with
    | zero => rw [List.getElem?_append_left (by rw [hl]; omega), Nat.zero_mul, Nat.zero_add]; rfl
    | succ i =>
      rw [List.getElem?_append_right (by rw [hl, Nat.add_mul]; omega), hl, show (i + 1) * 4 + j - 4 = i * 4 + j by rw [Nat.add_mul]; omega, ih i (by simpa using hi)]
      rfl
/-- Such a row is read as the reference's datagrams are. -/
theorem ml_reads {w : World} {B base : Nat} {A : Option Addr} {c : Nat} {gs : List Fl} (hq : QRow w B 32 4 (.slice A gs.length c) gs.length (mlCells gs)) (hf : ∀ f ∈ gs, FlOk w base f) (hl : ∀ f ∈ gs, f.b.length ≤ 1000000) : Kd.C k32 w A gs.length ((gs.map Fl.say).map mailOf) := by
  refine ⟨by rw [List.length_map, List.length_map], q_max hq, fun hn => ?_⟩
  obtain ⟨ad, rfl, hc⟩ := q_cells hq hn
  refine ⟨ad, rfl, fun j p hj => ?_⟩
  rw [List.map_map, List.getElem?_map] at hj
  have hjl : j < gs.length := by
    by_cases h : j < gs.length
    · exact h
    · rw [List.getElem?_eq_none (by omega)] at hj; cases hj
  rw [List.getElem?_eq_getElem hjl] at hj
  injection hj with hj
  subst hj
  have hm := List.getElem_mem hjl
  have h1 := hf _ hm
  refine ⟨Fl.mail gs[j], rfl, k32_mk w ⟨gs[j].src, gs[j].dir, gs[j].goal, gs[j].b⟩ h1.cap (reads_bytes h1.bytes (Nat.le_trans (hl _ hm) (by decide))), fun i u hi => ?_⟩
  have hi4 : i < 4 := (List.getElem?_eq_some_iff.1 hi).1
  exact hc (j * 4 + i) u (by rw [mlCells_at gs j hjl i hi4]; exact hi)
end Go.Proofs.Ytaciokdgoogpiaa.NetT

/- Proved: what is written of an attribute, or of what a write tells, is read as it was, and what is read is written as it stood (AttrBack), as a statement about numbers alone; conditions: none. -/
import Derived.Test.YtphdefenonncaaaSixBackT
namespace Go.Proofs.Ytphdefenonncaaa.PurBack
open Go.RowKit Go.Proofs.Ytphdefenonncaaa.QAttrBack Go.Proofs.YtphdefenonncaaaW.PrintWords Go.Proofs.YtphdefenonncaaaW.PrintLast Go.Proofs.Ytphdefenonncaaa.SixBackT

theorem awake : shutterlaw05_awake.f 20 = some true := by decide +kernel
theorem tail0 : ∀ c : Fin 256, shutterlaw05_AttrBack.j0 20 ((c.val : Nat) : Int) false = some true := by decide +kernel
theorem tail1 : ∀ c : Fin 256, shutterlaw05_AttrBack.j1 20 ((c.val : Nat) : Int) false = some true := by decide +kernel

def num (b : Bool) (n : Nat) : Nat := if b then n else 0
def wccT (x y z : Bool) : Int := tab (num x 4 + num y 2 + num z 1)
theorem wcc_put : ∀ x y z : Bool, attr_PutWcc.f 20 x y z = some (wccT x y z) := by decide +kernel
theorem wcc_get : ∀ x y z : Bool, attr_GetWcc.f (wccT x y z) = some (x, y, z, none) := by decide +kernel
def attT (p n m : Bool) (s : Nat) : Int := tab (num p 32 + num n 16 + 4 * s + num m 1)
theorem att_put : ∀ (p n m : Bool) (s : Fin 4), attr_Put.f 20 p n ((s.val : Nat) : Int) m = some (attT p n m s.val, none) := by decide +kernel
def attGet (p n m : Bool) (s : Fin 4) : Bool := decide (attr_Get.f (attT p n m s.val) = some (p, n, ((s.val : Nat) : Int), m, none))
theorem att_get' : ∀ (p n m : Bool) (s : Fin 4), attGet p n m s = true := by decide +kernel
theorem att_get (p n m : Bool) (s : Fin 4) : attr_Get.f (attT p n m s.val) = some (p, n, ((s.val : Nat) : Int), m, none) := of_decide_eq_true (att_get' p n m s)
theorem att_char : ∀ (p n m : Bool) (s : Fin 4), attr_Char.f (attT p n m s.val) = some true := by decide +kernel

theorem put_none (k : Nat) (p n m : Bool) (s : Int) (h : s < 0 ∨ 3 < s) : attr_Put.f (k + 1) p n s m = some (0, some 1) := by
  unfold attr_Put.f
  by_cases h0 : s < 0
  · rw [if_pos h0]; rfl
  · have h3 : s > 3 := by omega
    rw [if_neg h0, decide_eq_true h3]; rfl

/-- The law's body over whatever functions: the two roads. -/
def body (aw : Option Bool) (pt : Option (Int × Option Int)) (gt : Int → Option (Bool × Bool × Int × Bool × Option Int)) (ch : Int → Option Bool) (pw : Option Int) (gw : Int → Option (Bool × Bool × Bool × Option Int))
    (j0 j1 : Bool → Option Bool) (p n : Bool) (s : Int) (m x y z : Bool) : Option Bool :=
  aw.bind fun t160 => (if t160 = true then (pt.bind fun bt161 => (if bt161.2.isNone = true then ((gt bt161.1).bind fun bt164 => (if bt164.2.2.2.2.isNone = true then (if (!(bt164.1 == p) || (!(bt164.2.1 == n) || (!(bt164.2.2.1 == s) || (!(bt164.2.2.2.1 == m))))) = true then (some false) else ((ch bt161.1).bind fun t171 => (if t171 = true then (pw.bind fun t172 => ((gw t172).bind fun bt173 => (if bt173.2.2.2.isNone = true then (j0 (!(bt173.1 == x) || (!(bt173.2.1 == y) || (!(bt173.2.2.1 == z))))) else (j0 true)))) else (some false)))) else (some false))) else (pw.bind fun t189 => ((gw t189).bind fun bt190 => (if bt190.2.2.2.isNone = true then (j1 (!(bt190.1 == x) || (!(bt190.2.1 == y) || (!(bt190.2.2.1 == z))))) else (j1 true)))))) else (some false))
theorem body_eq (k : Nat) (p n : Bool) (s : Int) (m x y z : Bool) (c : Int) : shutterlaw05_AttrBack.f k p n s m x y z c =
    body (shutterlaw05_awake.f k) (attr_Put.f k p n s m) attr_Get.f attr_Char.f (attr_PutWcc.f k x y z) attr_GetWcc.f (shutterlaw05_AttrBack.j0 k c) (shutterlaw05_AttrBack.j1 k c) p n s m x y z := rfl
theorem body_in {aw pt gt ch pw gw j0 j1 p n s m x y z} {t w : Int} (h1 : aw = some true) (h2 : pt = some (t, none)) (h3 : gt t = some (p, n, s, m, none)) (h4 : ch t = some true) (h5 : pw = some w) (h6 : gw w = some (x, y, z, none))
    (h7 : j0 false = some true) : body aw pt gt ch pw gw j0 j1 p n s m x y z = some true := by
  subst h1 h2 h5
  simp [body, h3, h4, h6, h7]
theorem body_out {aw pt gt ch pw gw j0 j1 p n s m x y z} {w e : Int} (h1 : aw = some true) (h2 : pt = some (0, some e)) (h5 : pw = some w) (h6 : gw w = some (x, y, z, none))
    (h7 : j1 false = some true) : body aw pt gt ch pw gw j0 j1 p n s m x y z = some true := by
  subst h1 h2 h5
  simp [body, h6, h7]

theorem all (p n m : Bool) (s : Int) (x y z : Bool) (c : Int) (hc : 0 ≤ c) (hc' : c ≤ 255) : shutterlaw05_AttrBack.f 20 p n s m x y z c = some true := by
  obtain ⟨c, rfl⟩ := Int.eq_ofNat_of_zero_le hc
  rw [body_eq]
  by_cases h : s < 0 ∨ 3 < s
  · exact body_out awake (put_none 19 p n m s h) (wcc_put x y z) (wcc_get x y z) (tail1 ⟨c, by omega⟩)
  · obtain ⟨k, rfl⟩ := Int.eq_ofNat_of_zero_le (show 0 ≤ s by omega)
    exact body_in awake (att_put p n m ⟨k, by omega⟩) (att_get p n m ⟨k, by omega⟩) (att_char p n m ⟨k, by omega⟩) (wcc_put x y z) (wcc_get x y z) (tail0 ⟨c, by omega⟩)

end Go.Proofs.Ytphdefenonncaaa.PurBack

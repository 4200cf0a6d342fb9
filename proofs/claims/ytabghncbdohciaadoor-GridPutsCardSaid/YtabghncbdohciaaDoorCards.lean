/-
  DERIVED. GIVEN WITH THE SEED: THE CARDS: each row of YtabghncbdohciaaDoorRows.lean that lists a variable, with what it lists TIED to the program's text (the seventh form; the later family's looks); each row that meets fmt, with fmt's text TOLD by the authors' own Lean function (tested against real Go, not proved from fmt's source: count such statements apart). THE CARD IS WHAT COUNTS. Prove the row's statement (the work); the ties are given (YtabghncbdohciaaDoorTie.lean); close each card by the builder's one call (the guide's Derived/Test/ToyasCard.lean, 'card_holds'). Laid BY PROGRAM, IN A SANDBOX (cutbox-door.mjs). By AI agents, Wed Nov 11 2026. No macro, syntax, notation, axiom, sorry.
-/
import Derived.Test.YtabghncbdohciaaDoorRows
import GoSem.ClaimSeven
namespace Go.Proofs.YtabghncbdohciaaDoor
namespace Rows

/-- THE TIED CARD OF 'shutterlaw10.GridNews'. -/
def gridNewsCard : Claim7 := { stood := { row := gridNewsRow, standIns := [], harness := (true, "171711a55d2250b853faeb75c544556bd3ec3fda67edd2e74451236b8923562b"), looks := true }, kinds := [], alts := [], laidByText := true, laidKinds := [.handle], laidTests := true, laidLooks := .later }
def GridNewsCardSaid : Prop := Claim7.holds Tryd.pinned (.plain (OpenSpec.ofChange gridNewsSpec)) gridNewsCard

/-- THE TIED CARD OF 'shutterlaw10.GridPuts'. -/
def gridPutsCard : Claim7 := { stood := { row := gridPutsRow, standIns := [], harness := (true, "171711a55d2250b853faeb75c544556bd3ec3fda67edd2e74451236b8923562b"), looks := true }, kinds := [], alts := [], laidByText := true, laidKinds := [.handle], laidTests := true, laidLooks := .later }
def GridPutsCardSaid : Prop := Claim7.holds Tryd.pinned (.plain (OpenSpec.ofChange gridPutsSpec)) gridPutsCard

/-- THE SECOND FORM's CARD OF 'shutterlaw10.GridNews'. -/
def gridNewsUptoCard : Claim7 := { stood := { row := gridNewsUptoRow, standIns := [], harness := (true, "171711a55d2250b853faeb75c544556bd3ec3fda67edd2e74451236b8923562b"), looks := true }, kinds := [], alts := [], laidByText := true, laidKinds := [.handle], laidTests := true, laidLooks := .later }
def GridNewsUptoCardSaid : Prop := Claim7.holds Tryd.pinned (.plain (OpenSpec.upto gridNewsSpec)) gridNewsUptoCard

/-- THE SECOND FORM's CARD OF 'shutterlaw10.GridPuts'. -/
def gridPutsUptoCard : Claim7 := { stood := { row := gridPutsUptoRow, standIns := [], harness := (true, "171711a55d2250b853faeb75c544556bd3ec3fda67edd2e74451236b8923562b"), looks := true }, kinds := [], alts := [], laidByText := true, laidKinds := [.handle], laidTests := true, laidLooks := .later }
def GridPutsUptoCardSaid : Prop := Claim7.holds Tryd.pinned (.plain (OpenSpec.upto gridPutsSpec)) gridPutsUptoCard
end Rows
end Go.Proofs.YtabghncbdohciaaDoor

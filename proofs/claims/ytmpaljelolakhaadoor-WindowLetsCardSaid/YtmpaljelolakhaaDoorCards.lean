/-
  DERIVED. GIVEN WITH THE SEED: THE CARDS: each row of YtmpaljelolakhaaDoorRows.lean that lists a variable, with what it lists TIED to the program's text (the seventh form; the later family's looks); each row that meets fmt, with fmt's text TOLD by the authors' own Lean function (tested against real Go, not proved from fmt's source: count such statements apart). THE CARD IS WHAT COUNTS. Prove the row's statement (the work); the ties are given (YtmpaljelolakhaaDoorTie.lean); close each card by the builder's one call (the guide's Derived/Test/ToyasCard.lean, 'card_holds'). Laid BY PROGRAM, IN A SANDBOX (cutbox-door.mjs). By AI agents, Wed Nov 11 2026. No macro, syntax, notation, axiom, sorry.
-/
import Derived.Test.YtmpaljelolakhaaDoorRows
import GoSem.ClaimSeven
namespace Go.Proofs.YtmpaljelolakhaaDoor
namespace Rows

/-- THE TIED CARD OF 'shutterlaw20.WindowLets'. -/
def windowLetsCard : Claim7 := { stood := { row := windowLetsRow, standIns := [], harness := (true, "b5155b2eeeeeb42c31bca34efe8ccfc10be50e39b8afb4ae60cf1e0a2c114821"), looks := true }, kinds := [], alts := [], laidByText := true, laidKinds := [.handle], laidTests := true, laidLooks := .later }
def WindowLetsCardSaid : Prop := Claim7.holds Tryd.pinned (.plain (OpenSpec.ofChange windowLetsSpec)) windowLetsCard

/-- THE TIED CARD OF 'shutterlaw20.WindowOnce'. -/
def windowOnceCard : Claim7 := { stood := { row := windowOnceRow, standIns := [], harness := (true, "b5155b2eeeeeb42c31bca34efe8ccfc10be50e39b8afb4ae60cf1e0a2c114821"), looks := true }, kinds := [], alts := [], laidByText := true, laidKinds := [.handle], laidTests := true, laidLooks := .later }
def WindowOnceCardSaid : Prop := Claim7.holds Tryd.pinned (.plain (OpenSpec.ofChange windowOnceSpec)) windowOnceCard

/-- THE TIED CARD OF 'shutterlaw20.WindowNear'. -/
def windowNearCard : Claim7 := { stood := { row := windowNearRow, standIns := [], harness := (true, "b5155b2eeeeeb42c31bca34efe8ccfc10be50e39b8afb4ae60cf1e0a2c114821"), looks := true }, kinds := [], alts := [], laidByText := true, laidKinds := [.handle], laidTests := true, laidLooks := .later }
def WindowNearCardSaid : Prop := Claim7.holds Tryd.pinned (.plain (OpenSpec.ofChange windowNearSpec)) windowNearCard

/-- THE TIED CARD OF 'shutterlaw20.WindowFar'. -/
def windowFarCard : Claim7 := { stood := { row := windowFarRow, standIns := [], harness := (true, "b5155b2eeeeeb42c31bca34efe8ccfc10be50e39b8afb4ae60cf1e0a2c114821"), looks := true }, kinds := [], alts := [], laidByText := true, laidKinds := [.handle], laidTests := true, laidLooks := .later }
def WindowFarCardSaid : Prop := Claim7.holds Tryd.pinned (.plain (OpenSpec.ofChange windowFarSpec)) windowFarCard

/-- THE TIED CARD OF 'shutterlaw20.WindowOrder'. -/
def windowOrderCard : Claim7 := { stood := { row := windowOrderRow, standIns := [], harness := (true, "b5155b2eeeeeb42c31bca34efe8ccfc10be50e39b8afb4ae60cf1e0a2c114821"), looks := true }, kinds := [], alts := [], laidByText := true, laidKinds := [.handle], laidTests := true, laidLooks := .later }
def WindowOrderCardSaid : Prop := Claim7.holds Tryd.pinned (.plain (OpenSpec.ofChange windowOrderSpec)) windowOrderCard

/-- THE SECOND FORM's CARD OF 'shutterlaw20.WindowLets'. -/
def windowLetsUptoCard : Claim7 := { stood := { row := windowLetsUptoRow, standIns := [], harness := (true, "b5155b2eeeeeb42c31bca34efe8ccfc10be50e39b8afb4ae60cf1e0a2c114821"), looks := true }, kinds := [], alts := [], laidByText := true, laidKinds := [.handle], laidTests := true, laidLooks := .later }
def WindowLetsUptoCardSaid : Prop := Claim7.holds Tryd.pinned (.plain (OpenSpec.upto windowLetsSpec)) windowLetsUptoCard

/-- THE SECOND FORM's CARD OF 'shutterlaw20.WindowOnce'. -/
def windowOnceUptoCard : Claim7 := { stood := { row := windowOnceUptoRow, standIns := [], harness := (true, "b5155b2eeeeeb42c31bca34efe8ccfc10be50e39b8afb4ae60cf1e0a2c114821"), looks := true }, kinds := [], alts := [], laidByText := true, laidKinds := [.handle], laidTests := true, laidLooks := .later }
def WindowOnceUptoCardSaid : Prop := Claim7.holds Tryd.pinned (.plain (OpenSpec.upto windowOnceSpec)) windowOnceUptoCard

/-- THE SECOND FORM's CARD OF 'shutterlaw20.WindowNear'. -/
def windowNearUptoCard : Claim7 := { stood := { row := windowNearUptoRow, standIns := [], harness := (true, "b5155b2eeeeeb42c31bca34efe8ccfc10be50e39b8afb4ae60cf1e0a2c114821"), looks := true }, kinds := [], alts := [], laidByText := true, laidKinds := [.handle], laidTests := true, laidLooks := .later }
def WindowNearUptoCardSaid : Prop := Claim7.holds Tryd.pinned (.plain (OpenSpec.upto windowNearSpec)) windowNearUptoCard

/-- THE SECOND FORM's CARD OF 'shutterlaw20.WindowFar'. -/
def windowFarUptoCard : Claim7 := { stood := { row := windowFarUptoRow, standIns := [], harness := (true, "b5155b2eeeeeb42c31bca34efe8ccfc10be50e39b8afb4ae60cf1e0a2c114821"), looks := true }, kinds := [], alts := [], laidByText := true, laidKinds := [.handle], laidTests := true, laidLooks := .later }
def WindowFarUptoCardSaid : Prop := Claim7.holds Tryd.pinned (.plain (OpenSpec.upto windowFarSpec)) windowFarUptoCard

/-- THE SECOND FORM's CARD OF 'shutterlaw20.WindowOrder'. -/
def windowOrderUptoCard : Claim7 := { stood := { row := windowOrderUptoRow, standIns := [], harness := (true, "b5155b2eeeeeb42c31bca34efe8ccfc10be50e39b8afb4ae60cf1e0a2c114821"), looks := true }, kinds := [], alts := [], laidByText := true, laidKinds := [.handle], laidTests := true, laidLooks := .later }
def WindowOrderUptoCardSaid : Prop := Claim7.holds Tryd.pinned (.plain (OpenSpec.upto windowOrderSpec)) windowOrderUptoCard
end Rows
end Go.Proofs.YtmpaljelolakhaaDoor

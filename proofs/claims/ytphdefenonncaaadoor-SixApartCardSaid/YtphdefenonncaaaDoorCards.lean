/-
  DERIVED. GIVEN WITH THE SEED: THE CARDS: each row of YtphdefenonncaaaDoorRows.lean that lists a variable, with what it lists TIED to the program's text (the seventh form; the later family's looks); each row that meets fmt, with fmt's text TOLD by the authors' own Lean function (tested against real Go, not proved from fmt's source: count such statements apart). THE CARD IS WHAT COUNTS. Prove the row's statement (the work); the ties are given (YtphdefenonncaaaDoorTie.lean); close each card by the builder's one call (the guide's Derived/Test/ToyasCard.lean, 'card_holds'). Laid BY PROGRAM, IN A SANDBOX (cutbox-door.mjs). By AI agents, Wed Nov 11 2026. No macro, syntax, notation, axiom, sorry.
-/
import Derived.Test.YtphdefenonncaaaDoorRows
import GoSem.ClaimSeven
namespace Go.Proofs.YtphdefenonncaaaDoor
namespace Rows

/-- THE TIED CARD OF 'shutterlaw03.SixPuts'. -/
def sixPutsCard : Claim7 := { stood := { row := sixPutsRow, standIns := [], harness := (true, "e9245943d05833666d80305874e74f1cd48fe3d0d5a35553bc0ba7fa930a9063"), looks := true }, kinds := [], alts := [], laidByText := true, laidKinds := [.handle], laidTests := true, laidLooks := .later }
def SixPutsCardSaid : Prop := Claim7.holds Tryd.pinned (.plain (OpenSpec.ofChange sixPutsSpec)) sixPutsCard

/-- THE TIED CARD OF 'shutterlaw03.SixGets'. -/
def sixGetsCard : Claim7 := { stood := { row := sixGetsRow, standIns := [], harness := (true, "e9245943d05833666d80305874e74f1cd48fe3d0d5a35553bc0ba7fa930a9063"), looks := true }, kinds := [], alts := [], laidByText := true, laidKinds := [.handle], laidTests := true, laidLooks := .later }
def SixGetsCardSaid : Prop := Claim7.holds Tryd.pinned (.plain (OpenSpec.ofChange sixGetsSpec)) sixGetsCard

/-- THE TIED CARD OF 'shutterlaw03.SixBack'. -/
def sixBackCard : Claim7 := { stood := { row := sixBackRow, standIns := [], harness := (true, "e9245943d05833666d80305874e74f1cd48fe3d0d5a35553bc0ba7fa930a9063"), looks := true }, kinds := [], alts := [], laidByText := true, laidKinds := [.handle], laidTests := true, laidLooks := .later }
def SixBackCardSaid : Prop := Claim7.holds Tryd.pinned (.plain (OpenSpec.ofChange sixBackSpec)) sixBackCard

/-- THE TIED CARD OF 'shutterlaw03.SixApart'. -/
def sixApartCard : Claim7 := { stood := { row := sixApartRow, standIns := [], harness := (true, "e9245943d05833666d80305874e74f1cd48fe3d0d5a35553bc0ba7fa930a9063"), looks := true }, kinds := [], alts := [], laidByText := true, laidKinds := [.handle], laidTests := true, laidLooks := .later }
def SixApartCardSaid : Prop := Claim7.holds Tryd.pinned (.plain (OpenSpec.ofChange sixApartSpec)) sixApartCard

/-- THE TIED CARD OF 'shutterlaw05.AttrPuts'. -/
def attrPutsCard : Claim7 := { stood := { row := attrPutsRow, standIns := [], harness := (true, "e9245943d05833666d80305874e74f1cd48fe3d0d5a35553bc0ba7fa930a9063"), looks := true }, kinds := [], alts := [], laidByText := true, laidKinds := [.handle], laidTests := true, laidLooks := .later }
def AttrPutsCardSaid : Prop := Claim7.holds Tryd.pinned (.plain (OpenSpec.ofChange attrPutsSpec)) attrPutsCard

/-- THE TIED CARD OF 'shutterlaw05.AttrGets'. -/
def attrGetsCard : Claim7 := { stood := { row := attrGetsRow, standIns := [], harness := (true, "e9245943d05833666d80305874e74f1cd48fe3d0d5a35553bc0ba7fa930a9063"), looks := true }, kinds := [], alts := [], laidByText := true, laidKinds := [.handle], laidTests := true, laidLooks := .later }
def AttrGetsCardSaid : Prop := Claim7.holds Tryd.pinned (.plain (OpenSpec.ofChange attrGetsSpec)) attrGetsCard

/-- THE SECOND FORM's CARD OF 'shutterlaw03.SixPuts'. -/
def sixPutsUptoCard : Claim7 := { stood := { row := sixPutsUptoRow, standIns := [], harness := (true, "e9245943d05833666d80305874e74f1cd48fe3d0d5a35553bc0ba7fa930a9063"), looks := true }, kinds := [], alts := [], laidByText := true, laidKinds := [.handle], laidTests := true, laidLooks := .later }
def SixPutsUptoCardSaid : Prop := Claim7.holds Tryd.pinned (.plain (OpenSpec.upto sixPutsSpec)) sixPutsUptoCard

/-- THE SECOND FORM's CARD OF 'shutterlaw03.SixGets'. -/
def sixGetsUptoCard : Claim7 := { stood := { row := sixGetsUptoRow, standIns := [], harness := (true, "e9245943d05833666d80305874e74f1cd48fe3d0d5a35553bc0ba7fa930a9063"), looks := true }, kinds := [], alts := [], laidByText := true, laidKinds := [.handle], laidTests := true, laidLooks := .later }
def SixGetsUptoCardSaid : Prop := Claim7.holds Tryd.pinned (.plain (OpenSpec.upto sixGetsSpec)) sixGetsUptoCard

/-- THE SECOND FORM's CARD OF 'shutterlaw03.SixBack'. -/
def sixBackUptoCard : Claim7 := { stood := { row := sixBackUptoRow, standIns := [], harness := (true, "e9245943d05833666d80305874e74f1cd48fe3d0d5a35553bc0ba7fa930a9063"), looks := true }, kinds := [], alts := [], laidByText := true, laidKinds := [.handle], laidTests := true, laidLooks := .later }
def SixBackUptoCardSaid : Prop := Claim7.holds Tryd.pinned (.plain (OpenSpec.upto sixBackSpec)) sixBackUptoCard

/-- THE SECOND FORM's CARD OF 'shutterlaw03.SixApart'. -/
def sixApartUptoCard : Claim7 := { stood := { row := sixApartUptoRow, standIns := [], harness := (true, "e9245943d05833666d80305874e74f1cd48fe3d0d5a35553bc0ba7fa930a9063"), looks := true }, kinds := [], alts := [], laidByText := true, laidKinds := [.handle], laidTests := true, laidLooks := .later }
def SixApartUptoCardSaid : Prop := Claim7.holds Tryd.pinned (.plain (OpenSpec.upto sixApartSpec)) sixApartUptoCard

/-- THE SECOND FORM's CARD OF 'shutterlaw05.AttrPuts'. -/
def attrPutsUptoCard : Claim7 := { stood := { row := attrPutsUptoRow, standIns := [], harness := (true, "e9245943d05833666d80305874e74f1cd48fe3d0d5a35553bc0ba7fa930a9063"), looks := true }, kinds := [], alts := [], laidByText := true, laidKinds := [.handle], laidTests := true, laidLooks := .later }
def AttrPutsUptoCardSaid : Prop := Claim7.holds Tryd.pinned (.plain (OpenSpec.upto attrPutsSpec)) attrPutsUptoCard

/-- THE SECOND FORM's CARD OF 'shutterlaw05.AttrGets'. -/
def attrGetsUptoCard : Claim7 := { stood := { row := attrGetsUptoRow, standIns := [], harness := (true, "e9245943d05833666d80305874e74f1cd48fe3d0d5a35553bc0ba7fa930a9063"), looks := true }, kinds := [], alts := [], laidByText := true, laidKinds := [.handle], laidTests := true, laidLooks := .later }
def AttrGetsUptoCardSaid : Prop := Claim7.holds Tryd.pinned (.plain (OpenSpec.upto attrGetsSpec)) attrGetsUptoCard
end Rows
end Go.Proofs.YtphdefenonncaaaDoor

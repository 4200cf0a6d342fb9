/-
  DERIVED. GIVEN WITH THE SEED: THE CARDS: each row of YtafjegfmmnjpfaaDoorRows.lean that lists a variable, with what it lists TIED to the program's text (the seventh form; the later family's looks); each row that meets fmt, with fmt's text TOLD by the authors' own Lean function (tested against real Go, not proved from fmt's source: count such statements apart). THE CARD IS WHAT COUNTS. Prove the row's statement (the work); the ties are given (YtafjegfmmnjpfaaDoorTie.lean); close each card by the builder's one call (the guide's Derived/Test/ToyasCard.lean, 'card_holds'). Laid BY PROGRAM, IN A SANDBOX (cutbox-door.mjs). By AI agents, Wed Nov 11 2026. No macro, syntax, notation, axiom, sorry.
-/
import Derived.Test.YtafjegfmmnjpfaaDoorRows
import GoSem.ClaimSeven
namespace Go.Proofs.YtafjegfmmnjpfaaDoor
namespace Rows

/-- THE TIED CARD OF 'shutterlaw23.LineOnce'. -/
def lineOnceCard : Claim7 := { stood := { row := lineOnceRow, standIns := [], harness := (true, "84077bfbb490f8b8933f86a37cfec62ab2988dec77806733c71f0c22aace4014"), looks := true }, kinds := [], alts := [], laidByText := true, laidKinds := [.handle], laidTests := true, laidLooks := .later }
def LineOnceCardSaid : Prop := Claim7.holds Tryd.pinned (.plain (OpenSpec.ofChange lineOnceSpec)) lineOnceCard

/-- THE TIED CARD OF 'shutterlaw23.LineKeeps'. -/
def lineKeepsCard : Claim7 := { stood := { row := lineKeepsRow, standIns := [], harness := (true, "84077bfbb490f8b8933f86a37cfec62ab2988dec77806733c71f0c22aace4014"), looks := true }, kinds := [], alts := [], laidByText := true, laidKinds := [.handle], laidTests := true, laidLooks := .later }
def LineKeepsCardSaid : Prop := Claim7.holds Tryd.pinned (.plain (OpenSpec.ofChange lineKeepsSpec)) lineKeepsCard

/-- THE TIED CARD OF 'shutterlaw23.LineRoom'. -/
def lineRoomCard : Claim7 := { stood := { row := lineRoomRow, standIns := [], harness := (true, "84077bfbb490f8b8933f86a37cfec62ab2988dec77806733c71f0c22aace4014"), looks := true }, kinds := [], alts := [], laidByText := true, laidKinds := [.handle], laidTests := true, laidLooks := .later }
def LineRoomCardSaid : Prop := Claim7.holds Tryd.pinned (.plain (OpenSpec.ofChange lineRoomSpec)) lineRoomCard

/-- THE TIED CARD OF 'shutterlaw23.LineActs'. -/
def lineActsCard : Claim7 := { stood := { row := lineActsRow, standIns := [], harness := (true, "84077bfbb490f8b8933f86a37cfec62ab2988dec77806733c71f0c22aace4014"), looks := true }, kinds := [], alts := [], laidByText := true, laidKinds := [.handle], laidTests := true, laidLooks := .later }
def LineActsCardSaid : Prop := Claim7.holds Tryd.pinned (.plain (OpenSpec.ofChange lineActsSpec)) lineActsCard

/-- THE TIED CARD OF 'shutterlaw23.LineEnds'. -/
def lineEndsCard : Claim7 := { stood := { row := lineEndsRow, standIns := [], harness := (true, "84077bfbb490f8b8933f86a37cfec62ab2988dec77806733c71f0c22aace4014"), looks := true }, kinds := [], alts := [], laidByText := true, laidKinds := [.handle], laidTests := true, laidLooks := .later }
def LineEndsCardSaid : Prop := Claim7.holds Tryd.pinned (.plain (OpenSpec.ofChange lineEndsSpec)) lineEndsCard

/-- THE SECOND FORM's CARD OF 'shutterlaw23.LineOnce'. -/
def lineOnceUptoCard : Claim7 := { stood := { row := lineOnceUptoRow, standIns := [], harness := (true, "84077bfbb490f8b8933f86a37cfec62ab2988dec77806733c71f0c22aace4014"), looks := true }, kinds := [], alts := [], laidByText := true, laidKinds := [.handle], laidTests := true, laidLooks := .later }
def LineOnceUptoCardSaid : Prop := Claim7.holds Tryd.pinned (.plain (OpenSpec.upto lineOnceSpec)) lineOnceUptoCard

/-- THE SECOND FORM's CARD OF 'shutterlaw23.LineKeeps'. -/
def lineKeepsUptoCard : Claim7 := { stood := { row := lineKeepsUptoRow, standIns := [], harness := (true, "84077bfbb490f8b8933f86a37cfec62ab2988dec77806733c71f0c22aace4014"), looks := true }, kinds := [], alts := [], laidByText := true, laidKinds := [.handle], laidTests := true, laidLooks := .later }
def LineKeepsUptoCardSaid : Prop := Claim7.holds Tryd.pinned (.plain (OpenSpec.upto lineKeepsSpec)) lineKeepsUptoCard

/-- THE SECOND FORM's CARD OF 'shutterlaw23.LineRoom'. -/
def lineRoomUptoCard : Claim7 := { stood := { row := lineRoomUptoRow, standIns := [], harness := (true, "84077bfbb490f8b8933f86a37cfec62ab2988dec77806733c71f0c22aace4014"), looks := true }, kinds := [], alts := [], laidByText := true, laidKinds := [.handle], laidTests := true, laidLooks := .later }
def LineRoomUptoCardSaid : Prop := Claim7.holds Tryd.pinned (.plain (OpenSpec.upto lineRoomSpec)) lineRoomUptoCard

/-- THE SECOND FORM's CARD OF 'shutterlaw23.LineActs'. -/
def lineActsUptoCard : Claim7 := { stood := { row := lineActsUptoRow, standIns := [], harness := (true, "84077bfbb490f8b8933f86a37cfec62ab2988dec77806733c71f0c22aace4014"), looks := true }, kinds := [], alts := [], laidByText := true, laidKinds := [.handle], laidTests := true, laidLooks := .later }
def LineActsUptoCardSaid : Prop := Claim7.holds Tryd.pinned (.plain (OpenSpec.upto lineActsSpec)) lineActsUptoCard

/-- THE SECOND FORM's CARD OF 'shutterlaw23.LineEnds'. -/
def lineEndsUptoCard : Claim7 := { stood := { row := lineEndsUptoRow, standIns := [], harness := (true, "84077bfbb490f8b8933f86a37cfec62ab2988dec77806733c71f0c22aace4014"), looks := true }, kinds := [], alts := [], laidByText := true, laidKinds := [.handle], laidTests := true, laidLooks := .later }
def LineEndsUptoCardSaid : Prop := Claim7.holds Tryd.pinned (.plain (OpenSpec.upto lineEndsSpec)) lineEndsUptoCard
end Rows
end Go.Proofs.YtafjegfmmnjpfaaDoor

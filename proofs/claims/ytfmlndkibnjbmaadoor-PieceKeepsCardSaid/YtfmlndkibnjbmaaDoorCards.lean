/-
  DERIVED. GIVEN WITH THE SEED: THE CARDS: each row of YtfmlndkibnjbmaaDoorRows.lean that lists a variable, with what it lists TIED to the program's text (the seventh form; the later family's looks); each row that meets fmt, with fmt's text TOLD by the authors' own Lean function (tested against real Go, not proved from fmt's source: count such statements apart). THE CARD IS WHAT COUNTS. Prove the row's statement (the work); the ties are given (YtfmlndkibnjbmaaDoorTie.lean); close each card by the builder's one call (the guide's Derived/Test/ToyasCard.lean, 'card_holds'). Laid BY PROGRAM, IN A SANDBOX (cutbox-door.mjs). By AI agents, Wed Nov 11 2026. No macro, syntax, notation, axiom, sorry.
-/
import Derived.Test.YtfmlndkibnjbmaaDoorRows
import GoSem.ClaimSeven
namespace Go.Proofs.YtfmlndkibnjbmaaDoor
namespace Rows

/-- THE TIED CARD OF 'shutterlaw22.PieceCuts'. -/
def pieceCutsCard : Claim7 := { stood := { row := pieceCutsRow, standIns := [], harness := (true, "34ae514f4f9df94c6d5688fa5fd3504fa87ba763d116e9942b8e9790ec786e6e"), looks := true }, kinds := [], alts := [], laidByText := true, laidKinds := [.handle], laidTests := true, laidLooks := .later }
def PieceCutsCardSaid : Prop := Claim7.holds Tryd.pinned (.plain (OpenSpec.ofChange pieceCutsSpec)) pieceCutsCard

/-- THE TIED CARD OF 'shutterlaw22.PieceWrites'. -/
def pieceWritesCard : Claim7 := { stood := { row := pieceWritesRow, standIns := [], harness := (true, "34ae514f4f9df94c6d5688fa5fd3504fa87ba763d116e9942b8e9790ec786e6e"), looks := true }, kinds := [], alts := [], laidByText := true, laidKinds := [.handle], laidTests := true, laidLooks := .later }
def PieceWritesCardSaid : Prop := Claim7.holds Tryd.pinned (.plain (OpenSpec.ofChange pieceWritesSpec)) pieceWritesCard

/-- THE TIED CARD OF 'shutterlaw22.PieceJoin'. -/
def pieceJoinCard : Claim7 := { stood := { row := pieceJoinRow, standIns := [], harness := (true, "34ae514f4f9df94c6d5688fa5fd3504fa87ba763d116e9942b8e9790ec786e6e"), looks := true }, kinds := [], alts := [], laidByText := true, laidKinds := [.handle], laidTests := true, laidLooks := .later }
def PieceJoinCardSaid : Prop := Claim7.holds Tryd.pinned (.plain (OpenSpec.ofChange pieceJoinSpec)) pieceJoinCard

/-- THE TIED CARD OF 'shutterlaw22.PieceBack'. -/
def pieceBackCard : Claim7 := { stood := { row := pieceBackRow, standIns := [], harness := (true, "34ae514f4f9df94c6d5688fa5fd3504fa87ba763d116e9942b8e9790ec786e6e"), looks := true }, kinds := [], alts := [], laidByText := true, laidKinds := [.handle], laidTests := true, laidLooks := .later }
def PieceBackCardSaid : Prop := Claim7.holds Tryd.pinned (.plain (OpenSpec.ofChange pieceBackSpec)) pieceBackCard

/-- THE TIED CARD OF 'shutterlaw22.PieceKeeps'. -/
def pieceKeepsCard : Claim7 := { stood := { row := pieceKeepsRow, standIns := [], harness := (true, "34ae514f4f9df94c6d5688fa5fd3504fa87ba763d116e9942b8e9790ec786e6e"), looks := true }, kinds := [], alts := [], laidByText := true, laidKinds := [.handle], laidTests := true, laidLooks := .later }
def PieceKeepsCardSaid : Prop := Claim7.holds Tryd.pinned (.plain (OpenSpec.ofChange pieceKeepsSpec)) pieceKeepsCard

/-- THE TIED CARD OF 'shutterlaw22.PieceCounts'. -/
def pieceCountsCard : Claim7 := { stood := { row := pieceCountsRow, standIns := [], harness := (true, "34ae514f4f9df94c6d5688fa5fd3504fa87ba763d116e9942b8e9790ec786e6e"), looks := true }, kinds := [], alts := [], laidByText := true, laidKinds := [.handle], laidTests := true, laidLooks := .later }
def PieceCountsCardSaid : Prop := Claim7.holds Tryd.pinned (.plain (OpenSpec.ofChange pieceCountsSpec)) pieceCountsCard

/-- THE SECOND FORM's CARD OF 'shutterlaw22.PieceCuts'. -/
def pieceCutsUptoCard : Claim7 := { stood := { row := pieceCutsUptoRow, standIns := [], harness := (true, "34ae514f4f9df94c6d5688fa5fd3504fa87ba763d116e9942b8e9790ec786e6e"), looks := true }, kinds := [], alts := [], laidByText := true, laidKinds := [.handle], laidTests := true, laidLooks := .later }
def PieceCutsUptoCardSaid : Prop := Claim7.holds Tryd.pinned (.plain (OpenSpec.upto pieceCutsSpec)) pieceCutsUptoCard

/-- THE SECOND FORM's CARD OF 'shutterlaw22.PieceWrites'. -/
def pieceWritesUptoCard : Claim7 := { stood := { row := pieceWritesUptoRow, standIns := [], harness := (true, "34ae514f4f9df94c6d5688fa5fd3504fa87ba763d116e9942b8e9790ec786e6e"), looks := true }, kinds := [], alts := [], laidByText := true, laidKinds := [.handle], laidTests := true, laidLooks := .later }
def PieceWritesUptoCardSaid : Prop := Claim7.holds Tryd.pinned (.plain (OpenSpec.upto pieceWritesSpec)) pieceWritesUptoCard

/-- THE SECOND FORM's CARD OF 'shutterlaw22.PieceJoin'. -/
def pieceJoinUptoCard : Claim7 := { stood := { row := pieceJoinUptoRow, standIns := [], harness := (true, "34ae514f4f9df94c6d5688fa5fd3504fa87ba763d116e9942b8e9790ec786e6e"), looks := true }, kinds := [], alts := [], laidByText := true, laidKinds := [.handle], laidTests := true, laidLooks := .later }
def PieceJoinUptoCardSaid : Prop := Claim7.holds Tryd.pinned (.plain (OpenSpec.upto pieceJoinSpec)) pieceJoinUptoCard

/-- THE SECOND FORM's CARD OF 'shutterlaw22.PieceBack'. -/
def pieceBackUptoCard : Claim7 := { stood := { row := pieceBackUptoRow, standIns := [], harness := (true, "34ae514f4f9df94c6d5688fa5fd3504fa87ba763d116e9942b8e9790ec786e6e"), looks := true }, kinds := [], alts := [], laidByText := true, laidKinds := [.handle], laidTests := true, laidLooks := .later }
def PieceBackUptoCardSaid : Prop := Claim7.holds Tryd.pinned (.plain (OpenSpec.upto pieceBackSpec)) pieceBackUptoCard

/-- THE SECOND FORM's CARD OF 'shutterlaw22.PieceKeeps'. -/
def pieceKeepsUptoCard : Claim7 := { stood := { row := pieceKeepsUptoRow, standIns := [], harness := (true, "34ae514f4f9df94c6d5688fa5fd3504fa87ba763d116e9942b8e9790ec786e6e"), looks := true }, kinds := [], alts := [], laidByText := true, laidKinds := [.handle], laidTests := true, laidLooks := .later }
def PieceKeepsUptoCardSaid : Prop := Claim7.holds Tryd.pinned (.plain (OpenSpec.upto pieceKeepsSpec)) pieceKeepsUptoCard

/-- THE SECOND FORM's CARD OF 'shutterlaw22.PieceCounts'. -/
def pieceCountsUptoCard : Claim7 := { stood := { row := pieceCountsUptoRow, standIns := [], harness := (true, "34ae514f4f9df94c6d5688fa5fd3504fa87ba763d116e9942b8e9790ec786e6e"), looks := true }, kinds := [], alts := [], laidByText := true, laidKinds := [.handle], laidTests := true, laidLooks := .later }
def PieceCountsUptoCardSaid : Prop := Claim7.holds Tryd.pinned (.plain (OpenSpec.upto pieceCountsSpec)) pieceCountsUptoCard
end Rows
end Go.Proofs.YtfmlndkibnjbmaaDoor

/-
  DERIVED. GIVEN WITH THE SEED: THE CARDS: each row of YtfnbcafilbafgaaDoorRows.lean that lists a variable, with what it lists TIED to the program's text (the seventh form; the later family's looks); each row that meets fmt, with fmt's text TOLD by the authors' own Lean function (tested against real Go, not proved from fmt's source: count such statements apart). THE CARD IS WHAT COUNTS. Prove the row's statement (the work); the ties are given (YtfnbcafilbafgaaDoorTie.lean); close each card by the builder's one call (the guide's Derived/Test/ToyasCard.lean, 'card_holds'). Laid BY PROGRAM, IN A SANDBOX (cutbox-door.mjs). By AI agents, Wed Nov 11 2026. No macro, syntax, notation, axiom, sorry.
-/
import Derived.Test.YtfnbcafilbafgaaDoorRows
import GoSem.ClaimSeven
namespace Go.Proofs.YtfnbcafilbafgaaDoor
namespace Rows

/-- THE TIED CARD OF 'usufructlaw12.WlogTurned'. -/
def wlogTurnedCard : Claim7 := { stood := { row := wlogTurnedRow, standIns := [], harness := (true, "5393d5bb5d8e660d878cbc94e6746f8a9dd876e6e79f402d8d176f453191ff85"), looks := false }, kinds := [], alts := [], laidByText := true, laidKinds := [.data], laidTests := true, laidLooks := .later }
def WlogTurnedCardSaid : Prop := Claim7.holds Tryd.pinned (.plain (OpenSpec.ofChange wlogTurnedSpec)) wlogTurnedCard

/-- THE TIED CARD OF 'usufructlaw12.WlogTorn'. -/
def wlogTornCard : Claim7 := { stood := { row := wlogTornRow, standIns := [], harness := (true, "5393d5bb5d8e660d878cbc94e6746f8a9dd876e6e79f402d8d176f453191ff85"), looks := false }, kinds := [], alts := [], laidByText := true, laidKinds := [.data], laidTests := true, laidLooks := .later }
def WlogTornCardSaid : Prop := Claim7.holds Tryd.pinned (.plain (OpenSpec.ofChange wlogTornSpec)) wlogTornCard

/-- THE TIED CARD OF 'usufructlaw12.WlogFull'. -/
def wlogFullCard : Claim7 := { stood := { row := wlogFullRow, standIns := [], harness := (true, "5393d5bb5d8e660d878cbc94e6746f8a9dd876e6e79f402d8d176f453191ff85"), looks := false }, kinds := [], alts := [], laidByText := true, laidKinds := [.data], laidTests := true, laidLooks := .later }
def WlogFullCardSaid : Prop := Claim7.holds Tryd.pinned (.plain (OpenSpec.ofChange wlogFullSpec)) wlogFullCard

/-- THE TIED CARD OF 'usufructlaw12.WlogNobody'. -/
def wlogNobodyCard : Claim7 := { stood := { row := wlogNobodyRow, standIns := [], harness := (true, "5393d5bb5d8e660d878cbc94e6746f8a9dd876e6e79f402d8d176f453191ff85"), looks := false }, kinds := [], alts := [], laidByText := true, laidKinds := [.data], laidTests := true, laidLooks := .later }
def WlogNobodyCardSaid : Prop := Claim7.holds Tryd.pinned (.plain (OpenSpec.ofChange wlogNobodySpec)) wlogNobodyCard

/-- THE TIED CARD OF 'usufructlaw12.WlogLast'. -/
def wlogLastCard : Claim7 := { stood := { row := wlogLastRow, standIns := [], harness := (true, "5393d5bb5d8e660d878cbc94e6746f8a9dd876e6e79f402d8d176f453191ff85"), looks := false }, kinds := [], alts := [], laidByText := true, laidKinds := [.data], laidTests := true, laidLooks := .later }
def WlogLastCardSaid : Prop := Claim7.holds Tryd.pinned (.plain (OpenSpec.ofChange wlogLastSpec)) wlogLastCard

/-- THE TIED CARD OF 'usufructlaw12.WlogPlays'. -/
def wlogPlaysCard : Claim7 := { stood := { row := wlogPlaysRow, standIns := [], harness := (true, "5393d5bb5d8e660d878cbc94e6746f8a9dd876e6e79f402d8d176f453191ff85"), looks := false }, kinds := [], alts := [], laidByText := true, laidKinds := [.data], laidTests := true, laidLooks := .later }
def WlogPlaysCardSaid : Prop := Claim7.holds Tryd.pinned (.plain (OpenSpec.ofChange wlogPlaysSpec)) wlogPlaysCard

/-- THE SECOND FORM's CARD OF 'usufructlaw12.WlogTurned'. -/
def wlogTurnedUptoCard : Claim7 := { stood := { row := wlogTurnedUptoRow, standIns := [], harness := (true, "5393d5bb5d8e660d878cbc94e6746f8a9dd876e6e79f402d8d176f453191ff85"), looks := false }, kinds := [], alts := [], laidByText := true, laidKinds := [.data], laidTests := true, laidLooks := .later }
def WlogTurnedUptoCardSaid : Prop := Claim7.holds Tryd.pinned (.plain (OpenSpec.upto wlogTurnedSpec)) wlogTurnedUptoCard

/-- THE SECOND FORM's CARD OF 'usufructlaw12.WlogTorn'. -/
def wlogTornUptoCard : Claim7 := { stood := { row := wlogTornUptoRow, standIns := [], harness := (true, "5393d5bb5d8e660d878cbc94e6746f8a9dd876e6e79f402d8d176f453191ff85"), looks := false }, kinds := [], alts := [], laidByText := true, laidKinds := [.data], laidTests := true, laidLooks := .later }
def WlogTornUptoCardSaid : Prop := Claim7.holds Tryd.pinned (.plain (OpenSpec.upto wlogTornSpec)) wlogTornUptoCard

/-- THE SECOND FORM's CARD OF 'usufructlaw12.WlogFull'. -/
def wlogFullUptoCard : Claim7 := { stood := { row := wlogFullUptoRow, standIns := [], harness := (true, "5393d5bb5d8e660d878cbc94e6746f8a9dd876e6e79f402d8d176f453191ff85"), looks := false }, kinds := [], alts := [], laidByText := true, laidKinds := [.data], laidTests := true, laidLooks := .later }
def WlogFullUptoCardSaid : Prop := Claim7.holds Tryd.pinned (.plain (OpenSpec.upto wlogFullSpec)) wlogFullUptoCard

/-- THE SECOND FORM's CARD OF 'usufructlaw12.WlogNobody'. -/
def wlogNobodyUptoCard : Claim7 := { stood := { row := wlogNobodyUptoRow, standIns := [], harness := (true, "5393d5bb5d8e660d878cbc94e6746f8a9dd876e6e79f402d8d176f453191ff85"), looks := false }, kinds := [], alts := [], laidByText := true, laidKinds := [.data], laidTests := true, laidLooks := .later }
def WlogNobodyUptoCardSaid : Prop := Claim7.holds Tryd.pinned (.plain (OpenSpec.upto wlogNobodySpec)) wlogNobodyUptoCard

/-- THE SECOND FORM's CARD OF 'usufructlaw12.WlogLast'. -/
def wlogLastUptoCard : Claim7 := { stood := { row := wlogLastUptoRow, standIns := [], harness := (true, "5393d5bb5d8e660d878cbc94e6746f8a9dd876e6e79f402d8d176f453191ff85"), looks := false }, kinds := [], alts := [], laidByText := true, laidKinds := [.data], laidTests := true, laidLooks := .later }
def WlogLastUptoCardSaid : Prop := Claim7.holds Tryd.pinned (.plain (OpenSpec.upto wlogLastSpec)) wlogLastUptoCard

/-- THE SECOND FORM's CARD OF 'usufructlaw12.WlogPlays'. -/
def wlogPlaysUptoCard : Claim7 := { stood := { row := wlogPlaysUptoRow, standIns := [], harness := (true, "5393d5bb5d8e660d878cbc94e6746f8a9dd876e6e79f402d8d176f453191ff85"), looks := false }, kinds := [], alts := [], laidByText := true, laidKinds := [.data], laidTests := true, laidLooks := .later }
def WlogPlaysUptoCardSaid : Prop := Claim7.holds Tryd.pinned (.plain (OpenSpec.upto wlogPlaysSpec)) wlogPlaysUptoCard
end Rows
end Go.Proofs.YtfnbcafilbafgaaDoor

/-
  DERIVED. GIVEN WITH THE SEED: THE CARDS: each row of YtaflbcckoiiddaaDoorRows.lean that lists a variable, with what it lists TIED to the program's text (the seventh form; the later family's looks); each row that meets fmt, with fmt's text TOLD by the authors' own Lean function (tested against real Go, not proved from fmt's source: count such statements apart). THE CARD IS WHAT COUNTS. Prove the row's statement (the work); the ties are given (YtaflbcckoiiddaaDoorTie.lean); close each card by the builder's one call (the guide's Derived/Test/ToyasCard.lean, 'card_holds'). Laid BY PROGRAM, IN A SANDBOX (cutbox-door.mjs). By AI agents, Wed Nov 11 2026. No macro, syntax, notation, axiom, sorry.
-/
import Derived.Test.YtaflbcckoiiddaaDoorRows
import GoSem.ClaimSeven
namespace Go.Proofs.YtaflbcckoiiddaaDoor
namespace Rows

/-- THE TIED CARD OF 'usufructlaw09.FrameSums'. -/
def frameSumsCard : Claim7 := { stood := { row := frameSumsRow, standIns := [], harness := (true, "b3894073537fb2f6e584a5b757c34f3545c08de1a34a58bc95b0ca21f007c1d4"), looks := false }, kinds := [], alts := [], laidByText := true, laidKinds := [.data], laidTests := true, laidLooks := .later }
def FrameSumsCardSaid : Prop := Claim7.holds Tryd.pinned (.plain (OpenSpec.ofChange frameSumsSpec)) frameSumsCard

/-- THE TIED CARD OF 'usufructlaw09.FrameJoined'. -/
def frameJoinedCard : Claim7 := { stood := { row := frameJoinedRow, standIns := [], harness := (true, "b3894073537fb2f6e584a5b757c34f3545c08de1a34a58bc95b0ca21f007c1d4"), looks := false }, kinds := [], alts := [], laidByText := true, laidKinds := [.data], laidTests := true, laidLooks := .later }
def FrameJoinedCardSaid : Prop := Claim7.holds Tryd.pinned (.plain (OpenSpec.ofChange frameJoinedSpec)) frameJoinedCard

/-- THE TIED CARD OF 'usufructlaw09.FrameBack'. -/
def frameBackCard : Claim7 := { stood := { row := frameBackRow, standIns := [], harness := (true, "b3894073537fb2f6e584a5b757c34f3545c08de1a34a58bc95b0ca21f007c1d4"), looks := false }, kinds := [], alts := [], laidByText := true, laidKinds := [.data], laidTests := true, laidLooks := .later }
def FrameBackCardSaid : Prop := Claim7.holds Tryd.pinned (.plain (OpenSpec.ofChange frameBackSpec)) frameBackCard

/-- THE TIED CARD OF 'usufructlaw09.FrameTurned'. -/
def frameTurnedCard : Claim7 := { stood := { row := frameTurnedRow, standIns := [], harness := (true, "b3894073537fb2f6e584a5b757c34f3545c08de1a34a58bc95b0ca21f007c1d4"), looks := false }, kinds := [], alts := [], laidByText := true, laidKinds := [.data], laidTests := true, laidLooks := .later }
def FrameTurnedCardSaid : Prop := Claim7.holds Tryd.pinned (.plain (OpenSpec.ofChange frameTurnedSpec)) frameTurnedCard

/-- THE TIED CARD OF 'usufructlaw09.FrameTakes'. -/
def frameTakesCard : Claim7 := { stood := { row := frameTakesRow, standIns := [], harness := (true, "b3894073537fb2f6e584a5b757c34f3545c08de1a34a58bc95b0ca21f007c1d4"), looks := false }, kinds := [], alts := [], laidByText := true, laidKinds := [.data], laidTests := true, laidLooks := .later }
def FrameTakesCardSaid : Prop := Claim7.holds Tryd.pinned (.plain (OpenSpec.ofChange frameTakesSpec)) frameTakesCard

/-- THE TIED CARD OF 'usufructlaw09.FrameScans'. -/
def frameScansCard : Claim7 := { stood := { row := frameScansRow, standIns := [], harness := (true, "b3894073537fb2f6e584a5b757c34f3545c08de1a34a58bc95b0ca21f007c1d4"), looks := false }, kinds := [], alts := [], laidByText := true, laidKinds := [.data], laidTests := true, laidLooks := .later }
def FrameScansCardSaid : Prop := Claim7.holds Tryd.pinned (.plain (OpenSpec.ofChange frameScansSpec)) frameScansCard

/-- THE TIED CARD OF 'usufructlaw09.FrameCuts'. -/
def frameCutsCard : Claim7 := { stood := { row := frameCutsRow, standIns := [], harness := (true, "b3894073537fb2f6e584a5b757c34f3545c08de1a34a58bc95b0ca21f007c1d4"), looks := false }, kinds := [], alts := [], laidByText := true, laidKinds := [.data], laidTests := true, laidLooks := .later }
def FrameCutsCardSaid : Prop := Claim7.holds Tryd.pinned (.plain (OpenSpec.ofChange frameCutsSpec)) frameCutsCard

/-- THE SECOND FORM's CARD OF 'usufructlaw09.FrameSums'. -/
def frameSumsUptoCard : Claim7 := { stood := { row := frameSumsUptoRow, standIns := [], harness := (true, "b3894073537fb2f6e584a5b757c34f3545c08de1a34a58bc95b0ca21f007c1d4"), looks := false }, kinds := [], alts := [], laidByText := true, laidKinds := [.data], laidTests := true, laidLooks := .later }
def FrameSumsUptoCardSaid : Prop := Claim7.holds Tryd.pinned (.plain (OpenSpec.upto frameSumsSpec)) frameSumsUptoCard

/-- THE SECOND FORM's CARD OF 'usufructlaw09.FrameJoined'. -/
def frameJoinedUptoCard : Claim7 := { stood := { row := frameJoinedUptoRow, standIns := [], harness := (true, "b3894073537fb2f6e584a5b757c34f3545c08de1a34a58bc95b0ca21f007c1d4"), looks := false }, kinds := [], alts := [], laidByText := true, laidKinds := [.data], laidTests := true, laidLooks := .later }
def FrameJoinedUptoCardSaid : Prop := Claim7.holds Tryd.pinned (.plain (OpenSpec.upto frameJoinedSpec)) frameJoinedUptoCard

/-- THE SECOND FORM's CARD OF 'usufructlaw09.FrameBack'. -/
def frameBackUptoCard : Claim7 := { stood := { row := frameBackUptoRow, standIns := [], harness := (true, "b3894073537fb2f6e584a5b757c34f3545c08de1a34a58bc95b0ca21f007c1d4"), looks := false }, kinds := [], alts := [], laidByText := true, laidKinds := [.data], laidTests := true, laidLooks := .later }
def FrameBackUptoCardSaid : Prop := Claim7.holds Tryd.pinned (.plain (OpenSpec.upto frameBackSpec)) frameBackUptoCard

/-- THE SECOND FORM's CARD OF 'usufructlaw09.FrameTurned'. -/
def frameTurnedUptoCard : Claim7 := { stood := { row := frameTurnedUptoRow, standIns := [], harness := (true, "b3894073537fb2f6e584a5b757c34f3545c08de1a34a58bc95b0ca21f007c1d4"), looks := false }, kinds := [], alts := [], laidByText := true, laidKinds := [.data], laidTests := true, laidLooks := .later }
def FrameTurnedUptoCardSaid : Prop := Claim7.holds Tryd.pinned (.plain (OpenSpec.upto frameTurnedSpec)) frameTurnedUptoCard

/-- THE SECOND FORM's CARD OF 'usufructlaw09.FrameTakes'. -/
def frameTakesUptoCard : Claim7 := { stood := { row := frameTakesUptoRow, standIns := [], harness := (true, "b3894073537fb2f6e584a5b757c34f3545c08de1a34a58bc95b0ca21f007c1d4"), looks := false }, kinds := [], alts := [], laidByText := true, laidKinds := [.data], laidTests := true, laidLooks := .later }
def FrameTakesUptoCardSaid : Prop := Claim7.holds Tryd.pinned (.plain (OpenSpec.upto frameTakesSpec)) frameTakesUptoCard

/-- THE SECOND FORM's CARD OF 'usufructlaw09.FrameScans'. -/
def frameScansUptoCard : Claim7 := { stood := { row := frameScansUptoRow, standIns := [], harness := (true, "b3894073537fb2f6e584a5b757c34f3545c08de1a34a58bc95b0ca21f007c1d4"), looks := false }, kinds := [], alts := [], laidByText := true, laidKinds := [.data], laidTests := true, laidLooks := .later }
def FrameScansUptoCardSaid : Prop := Claim7.holds Tryd.pinned (.plain (OpenSpec.upto frameScansSpec)) frameScansUptoCard

/-- THE SECOND FORM's CARD OF 'usufructlaw09.FrameCuts'. -/
def frameCutsUptoCard : Claim7 := { stood := { row := frameCutsUptoRow, standIns := [], harness := (true, "b3894073537fb2f6e584a5b757c34f3545c08de1a34a58bc95b0ca21f007c1d4"), looks := false }, kinds := [], alts := [], laidByText := true, laidKinds := [.data], laidTests := true, laidLooks := .later }
def FrameCutsUptoCardSaid : Prop := Claim7.holds Tryd.pinned (.plain (OpenSpec.upto frameCutsSpec)) frameCutsUptoCard
end Rows
end Go.Proofs.YtaflbcckoiiddaaDoor

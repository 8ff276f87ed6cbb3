/-
  DERIVED. GIVEN WITH THE SEED: THE CARDS: each row of YtniabkphbnimaaaGreatDoorRows.lean that lists a variable, with what it lists TIED to the program's text (the seventh form; the later family's looks); each row that meets fmt, with fmt's text TOLD by the authors' own Lean function (tested against real Go, not proved from fmt's source: count such statements apart). THE CARD IS WHAT COUNTS. Prove the row's statement (the work); the ties are given (YtniabkphbnimaaaGreatDoorTie.lean); close each card by the builder's one call (the guide's Derived/Test/ToyasCard.lean, 'card_holds'). Laid BY PROGRAM, IN A SANDBOX (cutbox-door.mjs). By AI agents, Wed Nov 11 2026. No macro, syntax, notation, axiom, sorry.
-/
import Derived.Test.YtniabkphbnimaaaGreatDoorRows
import GoSem.ClaimSeven
namespace Go.Proofs.YtniabkphbnimaaaGreatDoor
namespace Rows

/-- THE TIED CARD OF 'joustlaw07.FrameDecodes'. -/
def frameDecodesCard : Claim7 := { stood := { row := frameDecodesRow, standIns := [], harness := (true, "dd0052f305b31ce4c683d22183bb0ea58cb4bb37de55836ba74e42de96686b00"), looks := true }, kinds := [], alts := [], laidByText := true, laidKinds := [.data, .data, .data, .data, .pinned], laidTests := true, laidLooks := .later }
def FrameDecodesCardSaid : Prop := Claim7.holds Tryz.pinned (.plain (OpenSpec.ofChange frameDecodesSpec)) frameDecodesCard

/-- THE TIED CARD OF 'joustlaw07.FrameEncodes'. -/
def frameEncodesCard : Claim7 := { stood := { row := frameEncodesRow, standIns := [], harness := (true, "dd0052f305b31ce4c683d22183bb0ea58cb4bb37de55836ba74e42de96686b00"), looks := true }, kinds := [], alts := [], laidByText := true, laidKinds := [.data, .data, .data, .data, .pinned], laidTests := true, laidLooks := .later }
def FrameEncodesCardSaid : Prop := Claim7.holds Tryz.pinned (.plain (OpenSpec.ofChange frameEncodesSpec)) frameEncodesCard

/-- THE TIED CARD OF 'joustlaw07.FrameBack'. -/
def frameBackCard : Claim7 := { stood := { row := frameBackRow, standIns := [], harness := (true, "dd0052f305b31ce4c683d22183bb0ea58cb4bb37de55836ba74e42de96686b00"), looks := true }, kinds := [], alts := [], laidByText := true, laidKinds := [.data, .data, .pinned], laidTests := true, laidLooks := .later }
def FrameBackCardSaid : Prop := Claim7.holds Tryz.pinned (.plain (OpenSpec.ofChange frameBackSpec)) frameBackCard

/-- THE TIED CARD OF 'joustlaw07.FrameLengths'. -/
def frameLengthsCard : Claim7 := { stood := { row := frameLengthsRow, standIns := [], harness := (true, "dd0052f305b31ce4c683d22183bb0ea58cb4bb37de55836ba74e42de96686b00"), looks := true }, kinds := [], alts := [], laidByText := true, laidKinds := [.data, .data, .pinned], laidTests := true, laidLooks := .later }
def FrameLengthsCardSaid : Prop := Claim7.holds Tryz.pinned (.plain (OpenSpec.ofChange frameLengthsSpec)) frameLengthsCard

/-- THE TIED CARD OF 'joustlaw07.FrameSeals'. -/
def frameSealsCard : Claim7 := { stood := { row := frameSealsRow, standIns := [], harness := (true, "dd0052f305b31ce4c683d22183bb0ea58cb4bb37de55836ba74e42de96686b00"), looks := true }, kinds := [], alts := [], laidByText := true, laidKinds := [.data, .data, .pinned], laidTests := true, laidLooks := .later }
def FrameSealsCardSaid : Prop := Claim7.holds Tryz.pinned (.plain (OpenSpec.ofChange frameSealsSpec)) frameSealsCard

/-- THE TIED CARD OF 'joustlaw07.FrameApart'. -/
def frameApartCard : Claim7 := { stood := { row := frameApartRow, standIns := [], harness := (true, "dd0052f305b31ce4c683d22183bb0ea58cb4bb37de55836ba74e42de96686b00"), looks := true }, kinds := [], alts := [], laidByText := true, laidKinds := [.data, .data, .pinned], laidTests := true, laidLooks := .later }
def FrameApartCardSaid : Prop := Claim7.holds Tryz.pinned (.plain (OpenSpec.ofChange frameApartSpec)) frameApartCard

/-- THE SECOND FORM's CARD OF 'joustlaw07.FrameDecodes'. -/
def frameDecodesUptoCard : Claim7 := { stood := { row := frameDecodesUptoRow, standIns := [], harness := (true, "dd0052f305b31ce4c683d22183bb0ea58cb4bb37de55836ba74e42de96686b00"), looks := true }, kinds := [], alts := [], laidByText := true, laidKinds := [.data, .data, .data, .data, .pinned], laidTests := true, laidLooks := .later }
def FrameDecodesUptoCardSaid : Prop := Claim7.holds Tryz.pinned (.plain (OpenSpec.upto frameDecodesSpec)) frameDecodesUptoCard

/-- THE SECOND FORM's CARD OF 'joustlaw07.FrameEncodes'. -/
def frameEncodesUptoCard : Claim7 := { stood := { row := frameEncodesUptoRow, standIns := [], harness := (true, "dd0052f305b31ce4c683d22183bb0ea58cb4bb37de55836ba74e42de96686b00"), looks := true }, kinds := [], alts := [], laidByText := true, laidKinds := [.data, .data, .data, .data, .pinned], laidTests := true, laidLooks := .later }
def FrameEncodesUptoCardSaid : Prop := Claim7.holds Tryz.pinned (.plain (OpenSpec.upto frameEncodesSpec)) frameEncodesUptoCard

/-- THE SECOND FORM's CARD OF 'joustlaw07.FrameBack'. -/
def frameBackUptoCard : Claim7 := { stood := { row := frameBackUptoRow, standIns := [], harness := (true, "dd0052f305b31ce4c683d22183bb0ea58cb4bb37de55836ba74e42de96686b00"), looks := true }, kinds := [], alts := [], laidByText := true, laidKinds := [.data, .data, .pinned], laidTests := true, laidLooks := .later }
def FrameBackUptoCardSaid : Prop := Claim7.holds Tryz.pinned (.plain (OpenSpec.upto frameBackSpec)) frameBackUptoCard

/-- THE SECOND FORM's CARD OF 'joustlaw07.FrameLengths'. -/
def frameLengthsUptoCard : Claim7 := { stood := { row := frameLengthsUptoRow, standIns := [], harness := (true, "dd0052f305b31ce4c683d22183bb0ea58cb4bb37de55836ba74e42de96686b00"), looks := true }, kinds := [], alts := [], laidByText := true, laidKinds := [.data, .data, .pinned], laidTests := true, laidLooks := .later }
def FrameLengthsUptoCardSaid : Prop := Claim7.holds Tryz.pinned (.plain (OpenSpec.upto frameLengthsSpec)) frameLengthsUptoCard

/-- THE SECOND FORM's CARD OF 'joustlaw07.FrameSeals'. -/
def frameSealsUptoCard : Claim7 := { stood := { row := frameSealsUptoRow, standIns := [], harness := (true, "dd0052f305b31ce4c683d22183bb0ea58cb4bb37de55836ba74e42de96686b00"), looks := true }, kinds := [], alts := [], laidByText := true, laidKinds := [.data, .data, .pinned], laidTests := true, laidLooks := .later }
def FrameSealsUptoCardSaid : Prop := Claim7.holds Tryz.pinned (.plain (OpenSpec.upto frameSealsSpec)) frameSealsUptoCard

/-- THE SECOND FORM's CARD OF 'joustlaw07.FrameApart'. -/
def frameApartUptoCard : Claim7 := { stood := { row := frameApartUptoRow, standIns := [], harness := (true, "dd0052f305b31ce4c683d22183bb0ea58cb4bb37de55836ba74e42de96686b00"), looks := true }, kinds := [], alts := [], laidByText := true, laidKinds := [.data, .data, .pinned], laidTests := true, laidLooks := .later }
def FrameApartUptoCardSaid : Prop := Claim7.holds Tryz.pinned (.plain (OpenSpec.upto frameApartSpec)) frameApartUptoCard
end Rows
end Go.Proofs.YtniabkphbnimaaaGreatDoor

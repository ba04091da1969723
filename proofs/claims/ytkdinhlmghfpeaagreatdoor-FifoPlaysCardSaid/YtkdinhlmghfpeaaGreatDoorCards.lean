/-
  DERIVED. GIVEN WITH THE SEED: THE CARDS: each row of YtkdinhlmghfpeaaGreatDoorRows.lean that lists a variable, with what it lists TIED to the program's text (the seventh form; the later family's looks); each row that meets fmt, with fmt's text TOLD by the authors' own Lean function (tested against real Go, not proved from fmt's source: count such statements apart). THE CARD IS WHAT COUNTS. Prove the row's statement (the work); the ties are given (YtkdinhlmghfpeaaGreatDoorTie.lean); close each card by the builder's one call (the guide's Derived/Test/ToyasCard.lean, 'card_holds'). Laid BY PROGRAM, IN A SANDBOX (cutbox-door.mjs). By AI agents, Wed Nov 11 2026. No macro, syntax, notation, axiom, sorry.
-/
import Derived.Test.YtkdinhlmghfpeaaGreatDoorRows
import GoSem.ClaimSeven
namespace Go.Proofs.YtkdinhlmghfpeaaGreatDoor
namespace Rows

/-- THE TIED CARD OF 'ratlinelaw10.FifoTurns'. -/
def fifoTurnsCard : Claim7 := { stood := { row := fifoTurnsRow, standIns := [], harness := (true, "dda8e1cde519cd68537aa414c901b94854c6f4c48adb7705f7581068fb1d220c"), looks := false }, kinds := [], alts := [], laidByText := true, laidKinds := [.data], laidTests := true, laidLooks := .later }
def FifoTurnsCardSaid : Prop := Claim7.holds Tryz.pinned (.plain (OpenSpec.ofChange fifoTurnsSpec)) fifoTurnsCard

/-- THE TIED CARD OF 'ratlinelaw10.FifoModes'. -/
def fifoModesCard : Claim7 := { stood := { row := fifoModesRow, standIns := [], harness := (true, "dda8e1cde519cd68537aa414c901b94854c6f4c48adb7705f7581068fb1d220c"), looks := false }, kinds := [], alts := [], laidByText := true, laidKinds := [.data], laidTests := true, laidLooks := .later }
def FifoModesCardSaid : Prop := Claim7.holds Tryz.pinned (.plain (OpenSpec.ofChange fifoModesSpec)) fifoModesCard

/-- THE TIED CARD OF 'ratlinelaw10.FifoApart'. -/
def fifoApartCard : Claim7 := { stood := { row := fifoApartRow, standIns := [], harness := (true, "dda8e1cde519cd68537aa414c901b94854c6f4c48adb7705f7581068fb1d220c"), looks := false }, kinds := [], alts := [], laidByText := true, laidKinds := [.data], laidTests := true, laidLooks := .later }
def FifoApartCardSaid : Prop := Claim7.holds Tryz.pinned (.plain (OpenSpec.ofChange fifoApartSpec)) fifoApartCard

/-- THE TIED CARD OF 'ratlinelaw10.FifoPlays'. -/
def fifoPlaysCard : Claim7 := { stood := { row := fifoPlaysRow, standIns := [], harness := (true, "dda8e1cde519cd68537aa414c901b94854c6f4c48adb7705f7581068fb1d220c"), looks := false }, kinds := [], alts := [], laidByText := true, laidKinds := [.data], laidTests := true, laidLooks := .later }
def FifoPlaysCardSaid : Prop := Claim7.holds Tryz.pinned (.plain (OpenSpec.ofChange fifoPlaysSpec)) fifoPlaysCard

/-- THE TIED CARD OF 'ratlinelaw10.FifoMoves'. -/
def fifoMovesCard : Claim7 := { stood := { row := fifoMovesRow, standIns := [], harness := (true, "dda8e1cde519cd68537aa414c901b94854c6f4c48adb7705f7581068fb1d220c"), looks := false }, kinds := [], alts := [], laidByText := true, laidKinds := [.data], laidTests := true, laidLooks := .later }
def FifoMovesCardSaid : Prop := Claim7.holds Tryz.pinned (.plain (OpenSpec.ofChange fifoMovesSpec)) fifoMovesCard

/-- THE TIED CARD OF 'ratlinelaw10.FifoEnds'. -/
def fifoEndsCard : Claim7 := { stood := { row := fifoEndsRow, standIns := [], harness := (true, "dda8e1cde519cd68537aa414c901b94854c6f4c48adb7705f7581068fb1d220c"), looks := false }, kinds := [], alts := [], laidByText := true, laidKinds := [.data], laidTests := true, laidLooks := .later }
def FifoEndsCardSaid : Prop := Claim7.holds Tryz.pinned (.plain (OpenSpec.ofChange fifoEndsSpec)) fifoEndsCard

/-- THE TIED CARD OF 'ratlinelaw10.FifoTries'. -/
def fifoTriesCard : Claim7 := { stood := { row := fifoTriesRow, standIns := [], harness := (true, "dda8e1cde519cd68537aa414c901b94854c6f4c48adb7705f7581068fb1d220c"), looks := false }, kinds := [], alts := [], laidByText := true, laidKinds := [.data], laidTests := true, laidLooks := .later }
def FifoTriesCardSaid : Prop := Claim7.holds Tryz.pinned (.plain (OpenSpec.ofChange fifoTriesSpec)) fifoTriesCard

/-- THE TIED CARD OF 'ratlinelaw10.FifoNone'. -/
def fifoNoneCard : Claim7 := { stood := { row := fifoNoneRow, standIns := [], harness := (true, "dda8e1cde519cd68537aa414c901b94854c6f4c48adb7705f7581068fb1d220c"), looks := false }, kinds := [], alts := [], laidByText := true, laidKinds := [.data], laidTests := true, laidLooks := .later }
def FifoNoneCardSaid : Prop := Claim7.holds Tryz.pinned (.plain (OpenSpec.ofChange fifoNoneSpec)) fifoNoneCard

/-- THE SECOND FORM's CARD OF 'ratlinelaw10.FifoTurns'. -/
def fifoTurnsUptoCard : Claim7 := { stood := { row := fifoTurnsUptoRow, standIns := [], harness := (true, "dda8e1cde519cd68537aa414c901b94854c6f4c48adb7705f7581068fb1d220c"), looks := false }, kinds := [], alts := [], laidByText := true, laidKinds := [.data], laidTests := true, laidLooks := .later }
def FifoTurnsUptoCardSaid : Prop := Claim7.holds Tryz.pinned (.plain (OpenSpec.upto fifoTurnsSpec)) fifoTurnsUptoCard

/-- THE SECOND FORM's CARD OF 'ratlinelaw10.FifoModes'. -/
def fifoModesUptoCard : Claim7 := { stood := { row := fifoModesUptoRow, standIns := [], harness := (true, "dda8e1cde519cd68537aa414c901b94854c6f4c48adb7705f7581068fb1d220c"), looks := false }, kinds := [], alts := [], laidByText := true, laidKinds := [.data], laidTests := true, laidLooks := .later }
def FifoModesUptoCardSaid : Prop := Claim7.holds Tryz.pinned (.plain (OpenSpec.upto fifoModesSpec)) fifoModesUptoCard

/-- THE SECOND FORM's CARD OF 'ratlinelaw10.FifoApart'. -/
def fifoApartUptoCard : Claim7 := { stood := { row := fifoApartUptoRow, standIns := [], harness := (true, "dda8e1cde519cd68537aa414c901b94854c6f4c48adb7705f7581068fb1d220c"), looks := false }, kinds := [], alts := [], laidByText := true, laidKinds := [.data], laidTests := true, laidLooks := .later }
def FifoApartUptoCardSaid : Prop := Claim7.holds Tryz.pinned (.plain (OpenSpec.upto fifoApartSpec)) fifoApartUptoCard

/-- THE SECOND FORM's CARD OF 'ratlinelaw10.FifoPlays'. -/
def fifoPlaysUptoCard : Claim7 := { stood := { row := fifoPlaysUptoRow, standIns := [], harness := (true, "dda8e1cde519cd68537aa414c901b94854c6f4c48adb7705f7581068fb1d220c"), looks := false }, kinds := [], alts := [], laidByText := true, laidKinds := [.data], laidTests := true, laidLooks := .later }
def FifoPlaysUptoCardSaid : Prop := Claim7.holds Tryz.pinned (.plain (OpenSpec.upto fifoPlaysSpec)) fifoPlaysUptoCard

/-- THE SECOND FORM's CARD OF 'ratlinelaw10.FifoMoves'. -/
def fifoMovesUptoCard : Claim7 := { stood := { row := fifoMovesUptoRow, standIns := [], harness := (true, "dda8e1cde519cd68537aa414c901b94854c6f4c48adb7705f7581068fb1d220c"), looks := false }, kinds := [], alts := [], laidByText := true, laidKinds := [.data], laidTests := true, laidLooks := .later }
def FifoMovesUptoCardSaid : Prop := Claim7.holds Tryz.pinned (.plain (OpenSpec.upto fifoMovesSpec)) fifoMovesUptoCard

/-- THE SECOND FORM's CARD OF 'ratlinelaw10.FifoEnds'. -/
def fifoEndsUptoCard : Claim7 := { stood := { row := fifoEndsUptoRow, standIns := [], harness := (true, "dda8e1cde519cd68537aa414c901b94854c6f4c48adb7705f7581068fb1d220c"), looks := false }, kinds := [], alts := [], laidByText := true, laidKinds := [.data], laidTests := true, laidLooks := .later }
def FifoEndsUptoCardSaid : Prop := Claim7.holds Tryz.pinned (.plain (OpenSpec.upto fifoEndsSpec)) fifoEndsUptoCard

/-- THE SECOND FORM's CARD OF 'ratlinelaw10.FifoTries'. -/
def fifoTriesUptoCard : Claim7 := { stood := { row := fifoTriesUptoRow, standIns := [], harness := (true, "dda8e1cde519cd68537aa414c901b94854c6f4c48adb7705f7581068fb1d220c"), looks := false }, kinds := [], alts := [], laidByText := true, laidKinds := [.data], laidTests := true, laidLooks := .later }
def FifoTriesUptoCardSaid : Prop := Claim7.holds Tryz.pinned (.plain (OpenSpec.upto fifoTriesSpec)) fifoTriesUptoCard

/-- THE SECOND FORM's CARD OF 'ratlinelaw10.FifoNone'. -/
def fifoNoneUptoCard : Claim7 := { stood := { row := fifoNoneUptoRow, standIns := [], harness := (true, "dda8e1cde519cd68537aa414c901b94854c6f4c48adb7705f7581068fb1d220c"), looks := false }, kinds := [], alts := [], laidByText := true, laidKinds := [.data], laidTests := true, laidLooks := .later }
def FifoNoneUptoCardSaid : Prop := Claim7.holds Tryz.pinned (.plain (OpenSpec.upto fifoNoneSpec)) fifoNoneUptoCard
end Rows
end Go.Proofs.YtkdinhlmghfpeaaGreatDoor

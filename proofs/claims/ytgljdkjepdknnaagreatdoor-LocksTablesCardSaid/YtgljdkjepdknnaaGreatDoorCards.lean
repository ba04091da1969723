/-
  DERIVED. GIVEN WITH THE SEED: THE CARDS: each row of YtgljdkjepdknnaaGreatDoorRows.lean that lists a variable, with what it lists TIED to the program's text (the seventh form; the later family's looks); each row that meets fmt, with fmt's text TOLD by the authors' own Lean function (tested against real Go, not proved from fmt's source: count such statements apart). THE CARD IS WHAT COUNTS. Prove the row's statement (the work); the ties are given (YtgljdkjepdknnaaGreatDoorTie.lean); close each card by the builder's one call (the guide's Derived/Test/ToyasCard.lean, 'card_holds'). Laid BY PROGRAM, IN A SANDBOX (cutbox-door.mjs). By AI agents, Wed Nov 11 2026. No macro, syntax, notation, axiom, sorry.
-/
import Derived.Test.YtgljdkjepdknnaaGreatDoorRows
import GoSem.ClaimSeven
namespace Go.Proofs.YtgljdkjepdknnaaGreatDoor
namespace Rows

/-- THE TIED CARD OF 'ratlinelaw11.LocksHands'. -/
def locksHandsCard : Claim7 := { stood := { row := locksHandsRow, standIns := [], harness := (true, "0cef7016d6d42493eb1024978b13d327abd00a76f5c13dd2fe3e8681154b303f"), looks := false }, kinds := [], alts := [], laidByText := true, laidKinds := [.data], laidTests := true, laidLooks := .later }
def LocksHandsCardSaid : Prop := Claim7.holds Tryz.pinned (.plain (OpenSpec.ofChange locksHandsSpec)) locksHandsCard

/-- THE TIED CARD OF 'ratlinelaw11.LocksTables'. -/
def locksTablesCard : Claim7 := { stood := { row := locksTablesRow, standIns := [], harness := (true, "0cef7016d6d42493eb1024978b13d327abd00a76f5c13dd2fe3e8681154b303f"), looks := false }, kinds := [], alts := [], laidByText := true, laidKinds := [.data], laidTests := true, laidLooks := .later }
def LocksTablesCardSaid : Prop := Claim7.holds Tryz.pinned (.plain (OpenSpec.ofChange locksTablesSpec)) locksTablesCard

/-- THE TIED CARD OF 'ratlinelaw11.LocksRoom'. -/
def locksRoomCard : Claim7 := { stood := { row := locksRoomRow, standIns := [], harness := (true, "0cef7016d6d42493eb1024978b13d327abd00a76f5c13dd2fe3e8681154b303f"), looks := false }, kinds := [], alts := [], laidByText := true, laidKinds := [.data], laidTests := true, laidLooks := .later }
def LocksRoomCardSaid : Prop := Claim7.holds Tryz.pinned (.plain (OpenSpec.ofChange locksRoomSpec)) locksRoomCard

/-- THE TIED CARD OF 'ratlinelaw11.LocksShare'. -/
def locksShareCard : Claim7 := { stood := { row := locksShareRow, standIns := [], harness := (true, "0cef7016d6d42493eb1024978b13d327abd00a76f5c13dd2fe3e8681154b303f"), looks := false }, kinds := [], alts := [], laidByText := true, laidKinds := [.data], laidTests := true, laidLooks := .later }
def LocksShareCardSaid : Prop := Claim7.holds Tryz.pinned (.plain (OpenSpec.ofChange locksShareSpec)) locksShareCard

/-- THE TIED CARD OF 'ratlinelaw11.LocksPlays'. -/
def locksPlaysCard : Claim7 := { stood := { row := locksPlaysRow, standIns := [], harness := (true, "0cef7016d6d42493eb1024978b13d327abd00a76f5c13dd2fe3e8681154b303f"), looks := false }, kinds := [], alts := [], laidByText := true, laidKinds := [.data], laidTests := true, laidLooks := .later }
def LocksPlaysCardSaid : Prop := Claim7.holds Tryz.pinned (.plain (OpenSpec.ofChange locksPlaysSpec)) locksPlaysCard

/-- THE TIED CARD OF 'ratlinelaw11.LocksApart'. -/
def locksApartCard : Claim7 := { stood := { row := locksApartRow, standIns := [], harness := (true, "0cef7016d6d42493eb1024978b13d327abd00a76f5c13dd2fe3e8681154b303f"), looks := false }, kinds := [], alts := [], laidByText := true, laidKinds := [.data], laidTests := true, laidLooks := .later }
def LocksApartCardSaid : Prop := Claim7.holds Tryz.pinned (.plain (OpenSpec.ofChange locksApartSpec)) locksApartCard

/-- THE TIED CARD OF 'ratlinelaw11.LocksStays'. -/
def locksStaysCard : Claim7 := { stood := { row := locksStaysRow, standIns := [], harness := (true, "0cef7016d6d42493eb1024978b13d327abd00a76f5c13dd2fe3e8681154b303f"), looks := false }, kinds := [], alts := [], laidByText := true, laidKinds := [.data], laidTests := true, laidLooks := .later }
def LocksStaysCardSaid : Prop := Claim7.holds Tryz.pinned (.plain (OpenSpec.ofChange locksStaysSpec)) locksStaysCard

/-- THE TIED CARD OF 'ratlinelaw11.LocksNone'. -/
def locksNoneCard : Claim7 := { stood := { row := locksNoneRow, standIns := [], harness := (true, "0cef7016d6d42493eb1024978b13d327abd00a76f5c13dd2fe3e8681154b303f"), looks := false }, kinds := [], alts := [], laidByText := true, laidKinds := [.data], laidTests := true, laidLooks := .later }
def LocksNoneCardSaid : Prop := Claim7.holds Tryz.pinned (.plain (OpenSpec.ofChange locksNoneSpec)) locksNoneCard

/-- THE SECOND FORM's CARD OF 'ratlinelaw11.LocksHands'. -/
def locksHandsUptoCard : Claim7 := { stood := { row := locksHandsUptoRow, standIns := [], harness := (true, "0cef7016d6d42493eb1024978b13d327abd00a76f5c13dd2fe3e8681154b303f"), looks := false }, kinds := [], alts := [], laidByText := true, laidKinds := [.data], laidTests := true, laidLooks := .later }
def LocksHandsUptoCardSaid : Prop := Claim7.holds Tryz.pinned (.plain (OpenSpec.upto locksHandsSpec)) locksHandsUptoCard

/-- THE SECOND FORM's CARD OF 'ratlinelaw11.LocksTables'. -/
def locksTablesUptoCard : Claim7 := { stood := { row := locksTablesUptoRow, standIns := [], harness := (true, "0cef7016d6d42493eb1024978b13d327abd00a76f5c13dd2fe3e8681154b303f"), looks := false }, kinds := [], alts := [], laidByText := true, laidKinds := [.data], laidTests := true, laidLooks := .later }
def LocksTablesUptoCardSaid : Prop := Claim7.holds Tryz.pinned (.plain (OpenSpec.upto locksTablesSpec)) locksTablesUptoCard

/-- THE SECOND FORM's CARD OF 'ratlinelaw11.LocksRoom'. -/
def locksRoomUptoCard : Claim7 := { stood := { row := locksRoomUptoRow, standIns := [], harness := (true, "0cef7016d6d42493eb1024978b13d327abd00a76f5c13dd2fe3e8681154b303f"), looks := false }, kinds := [], alts := [], laidByText := true, laidKinds := [.data], laidTests := true, laidLooks := .later }
def LocksRoomUptoCardSaid : Prop := Claim7.holds Tryz.pinned (.plain (OpenSpec.upto locksRoomSpec)) locksRoomUptoCard

/-- THE SECOND FORM's CARD OF 'ratlinelaw11.LocksShare'. -/
def locksShareUptoCard : Claim7 := { stood := { row := locksShareUptoRow, standIns := [], harness := (true, "0cef7016d6d42493eb1024978b13d327abd00a76f5c13dd2fe3e8681154b303f"), looks := false }, kinds := [], alts := [], laidByText := true, laidKinds := [.data], laidTests := true, laidLooks := .later }
def LocksShareUptoCardSaid : Prop := Claim7.holds Tryz.pinned (.plain (OpenSpec.upto locksShareSpec)) locksShareUptoCard

/-- THE SECOND FORM's CARD OF 'ratlinelaw11.LocksPlays'. -/
def locksPlaysUptoCard : Claim7 := { stood := { row := locksPlaysUptoRow, standIns := [], harness := (true, "0cef7016d6d42493eb1024978b13d327abd00a76f5c13dd2fe3e8681154b303f"), looks := false }, kinds := [], alts := [], laidByText := true, laidKinds := [.data], laidTests := true, laidLooks := .later }
def LocksPlaysUptoCardSaid : Prop := Claim7.holds Tryz.pinned (.plain (OpenSpec.upto locksPlaysSpec)) locksPlaysUptoCard

/-- THE SECOND FORM's CARD OF 'ratlinelaw11.LocksApart'. -/
def locksApartUptoCard : Claim7 := { stood := { row := locksApartUptoRow, standIns := [], harness := (true, "0cef7016d6d42493eb1024978b13d327abd00a76f5c13dd2fe3e8681154b303f"), looks := false }, kinds := [], alts := [], laidByText := true, laidKinds := [.data], laidTests := true, laidLooks := .later }
def LocksApartUptoCardSaid : Prop := Claim7.holds Tryz.pinned (.plain (OpenSpec.upto locksApartSpec)) locksApartUptoCard

/-- THE SECOND FORM's CARD OF 'ratlinelaw11.LocksStays'. -/
def locksStaysUptoCard : Claim7 := { stood := { row := locksStaysUptoRow, standIns := [], harness := (true, "0cef7016d6d42493eb1024978b13d327abd00a76f5c13dd2fe3e8681154b303f"), looks := false }, kinds := [], alts := [], laidByText := true, laidKinds := [.data], laidTests := true, laidLooks := .later }
def LocksStaysUptoCardSaid : Prop := Claim7.holds Tryz.pinned (.plain (OpenSpec.upto locksStaysSpec)) locksStaysUptoCard

/-- THE SECOND FORM's CARD OF 'ratlinelaw11.LocksNone'. -/
def locksNoneUptoCard : Claim7 := { stood := { row := locksNoneUptoRow, standIns := [], harness := (true, "0cef7016d6d42493eb1024978b13d327abd00a76f5c13dd2fe3e8681154b303f"), looks := false }, kinds := [], alts := [], laidByText := true, laidKinds := [.data], laidTests := true, laidLooks := .later }
def LocksNoneUptoCardSaid : Prop := Claim7.holds Tryz.pinned (.plain (OpenSpec.upto locksNoneSpec)) locksNoneUptoCard
end Rows
end Go.Proofs.YtgljdkjepdknnaaGreatDoor

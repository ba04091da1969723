/-
  DERIVED. GIVEN WITH THE SEED: THE CARDS: each row of YtokcpmeoiblpfaaDoorRows.lean that lists a variable, with what it lists TIED to the program's text (the seventh form; the later family's looks); each row that meets fmt, with fmt's text TOLD by the authors' own Lean function (tested against real Go, not proved from fmt's source: count such statements apart). THE CARD IS WHAT COUNTS. Prove the row's statement (the work); the ties are given (YtokcpmeoiblpfaaDoorTie.lean); close each card by the builder's one call (the guide's Derived/Test/ToyasCard.lean, 'card_holds'). Laid BY PROGRAM, IN A SANDBOX (cutbox-door.mjs). By AI agents, Wed Nov 11 2026. No macro, syntax, notation, axiom, sorry.
-/
import Derived.Test.YtokcpmeoiblpfaaDoorRows
import GoSem.ClaimSeven
namespace Go.Proofs.YtokcpmeoiblpfaaDoor
namespace Rows

/-- THE TIED CARD OF 'ratlinelaw14.ProtocolWrites'. -/
def protocolWritesCard : Claim7 := { stood := { row := protocolWritesRow, standIns := [], harness := (true, "a96e8d7dac67fe9df4429c21620ce6dcbf2054fbcd1c8813b2340ff989327d0a"), looks := false }, kinds := [], alts := [], laidByText := true, laidKinds := [.data], laidTests := true, laidLooks := .later }
def ProtocolWritesCardSaid : Prop := Claim7.holds Tryd.pinned (.plain (OpenSpec.ofChange protocolWritesSpec)) protocolWritesCard

/-- THE TIED CARD OF 'ratlinelaw14.ProtocolTells'. -/
def protocolTellsCard : Claim7 := { stood := { row := protocolTellsRow, standIns := [], harness := (true, "a96e8d7dac67fe9df4429c21620ce6dcbf2054fbcd1c8813b2340ff989327d0a"), looks := false }, kinds := [], alts := [], laidByText := true, laidKinds := [.data], laidTests := true, laidLooks := .later }
def ProtocolTellsCardSaid : Prop := Claim7.holds Tryd.pinned (.plain (OpenSpec.ofChange protocolTellsSpec)) protocolTellsCard

/-- THE TIED CARD OF 'ratlinelaw14.ProtocolRises'. -/
def protocolRisesCard : Claim7 := { stood := { row := protocolRisesRow, standIns := [], harness := (true, "a96e8d7dac67fe9df4429c21620ce6dcbf2054fbcd1c8813b2340ff989327d0a"), looks := false }, kinds := [], alts := [], laidByText := true, laidKinds := [.data], laidTests := true, laidLooks := .later }
def ProtocolRisesCardSaid : Prop := Claim7.holds Tryd.pinned (.plain (OpenSpec.ofChange protocolRisesSpec)) protocolRisesCard

/-- THE TIED CARD OF 'ratlinelaw14.ProtocolRungs'. -/
def protocolRungsCard : Claim7 := { stood := { row := protocolRungsRow, standIns := [], harness := (true, "a96e8d7dac67fe9df4429c21620ce6dcbf2054fbcd1c8813b2340ff989327d0a"), looks := false }, kinds := [], alts := [], laidByText := true, laidKinds := [.data], laidTests := true, laidLooks := .later }
def ProtocolRungsCardSaid : Prop := Claim7.holds Tryd.pinned (.plain (OpenSpec.ofChange protocolRungsSpec)) protocolRungsCard

/-- THE SECOND FORM's CARD OF 'ratlinelaw14.ProtocolWrites'. -/
def protocolWritesUptoCard : Claim7 := { stood := { row := protocolWritesUptoRow, standIns := [], harness := (true, "a96e8d7dac67fe9df4429c21620ce6dcbf2054fbcd1c8813b2340ff989327d0a"), looks := false }, kinds := [], alts := [], laidByText := true, laidKinds := [.data], laidTests := true, laidLooks := .later }
def ProtocolWritesUptoCardSaid : Prop := Claim7.holds Tryd.pinned (.plain (OpenSpec.upto protocolWritesSpec)) protocolWritesUptoCard

/-- THE SECOND FORM's CARD OF 'ratlinelaw14.ProtocolTells'. -/
def protocolTellsUptoCard : Claim7 := { stood := { row := protocolTellsUptoRow, standIns := [], harness := (true, "a96e8d7dac67fe9df4429c21620ce6dcbf2054fbcd1c8813b2340ff989327d0a"), looks := false }, kinds := [], alts := [], laidByText := true, laidKinds := [.data], laidTests := true, laidLooks := .later }
def ProtocolTellsUptoCardSaid : Prop := Claim7.holds Tryd.pinned (.plain (OpenSpec.upto protocolTellsSpec)) protocolTellsUptoCard

/-- THE SECOND FORM's CARD OF 'ratlinelaw14.ProtocolRises'. -/
def protocolRisesUptoCard : Claim7 := { stood := { row := protocolRisesUptoRow, standIns := [], harness := (true, "a96e8d7dac67fe9df4429c21620ce6dcbf2054fbcd1c8813b2340ff989327d0a"), looks := false }, kinds := [], alts := [], laidByText := true, laidKinds := [.data], laidTests := true, laidLooks := .later }
def ProtocolRisesUptoCardSaid : Prop := Claim7.holds Tryd.pinned (.plain (OpenSpec.upto protocolRisesSpec)) protocolRisesUptoCard

/-- THE SECOND FORM's CARD OF 'ratlinelaw14.ProtocolRungs'. -/
def protocolRungsUptoCard : Claim7 := { stood := { row := protocolRungsUptoRow, standIns := [], harness := (true, "a96e8d7dac67fe9df4429c21620ce6dcbf2054fbcd1c8813b2340ff989327d0a"), looks := false }, kinds := [], alts := [], laidByText := true, laidKinds := [.data], laidTests := true, laidLooks := .later }
def ProtocolRungsUptoCardSaid : Prop := Claim7.holds Tryd.pinned (.plain (OpenSpec.upto protocolRungsSpec)) protocolRungsUptoCard
end Rows
end Go.Proofs.YtokcpmeoiblpfaaDoor

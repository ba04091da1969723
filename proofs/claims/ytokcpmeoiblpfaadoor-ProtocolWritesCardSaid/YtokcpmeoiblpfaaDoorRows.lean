/-
  NARROWER THAN 'FOR EVERY INPUT', by the rows' own cells (each row's printed sentence says how): ProtocolWrites: laid · ProtocolTells: laid · ProtocolRises: laid · ProtocolRungs: laid.
  DERIVED. THE GIVEN ROWS OF THIS SEAT. 4 by the template 'for every input the law returns true; each argument reads behind the call as it read before'; 0 by the template 'total and deterministic' (their statements: YtokcpmeoiblpfaaDoorTotals.lean).
  GIVEN WITH THE SEED: the statements are not yours to turn. If you find one false, say at which input.
  Laid BY PROGRAM, IN A SANDBOX (cutbox-rows.mjs): the forced cells as the released guide's own fill.sh prints them over the translation 6764ffb01b562be2… (all of the seat's roots in one cut). By AI agents, Wed Nov 11 2026. No macro, syntax, notation, axiom, sorry.
-/
import Derived.Test.YtokcpmeoiblpfaaDoorChecked
import GoSem.Claim
import GoSem.ClaimJoined
import GoSem.ClaimMapViews
import Derived.JoinedTies
import Derived.KernelRfl
namespace Go.Proofs.YtokcpmeoiblpfaaDoor
/- THE CELL 'sum', in the pinned program and in every row, IS THE sha256 OF THE DUMP (.gsa) THAT YtokcpmeoiblpfaaDoorProg.lean LOADS. Nothing in Lean hashes anything: it is a label: what it is worth is what the hold of that sum in a sandbox is worth. -/
noncomputable def Tryd.pinned : Pinned := { name := "ytokcpmeoiblpfaadoor", sum := "6764ffb01b562be2de7e424e7768a534642374c122e2b8326a47ca76fc900a8b", checked := Tryd.checked }
namespace Rows
def none {H : Type} : Left H := { results := [], args := [] }

/- WHAT THE LISTED PACKAGE-LEVEL VARIABLES READ AS WHEN THE CALL BEGINS. Each datum BY PROGRAM (the guide's laid-datum.mjs) off the statement by which the dump's own 'gosem.cut.vars' lays the variable. In a bare row this is a premise. The card (YtokcpmeoiblpfaaDoorCards.lean) ties it to the program's text. -/
def laid_ratline_protocol_levels {H : Type} : DataW H := .agg [.agg [.lit (.string []), .agg [.lit (.int .i64 0), .lit (.int .i64 0)], .agg [.lit (.int .i64 0), .lit (.int .i64 0)], .agg [.lit (.int .i64 0), .lit (.int .i64 0)], .agg [.lit (.int .i64 0), .lit (.int .i64 0)], .lit (.int .i64 0)], .agg [.lit (.string [80, 76, 45, 49]), .agg [.lit (.int .i64 0), .lit (.int .i64 0)], .agg [.lit (.int .i64 0), .lit (.int .i64 0)], .agg [.lit (.int .i64 0), .lit (.int .i64 0)], .agg [.lit (.int .i64 5), .lit (.int .i64 2)], .lit (.int .i64 0)], .agg [.lit (.string [80, 76, 45, 50]), .agg [.lit (.int .i64 3), .lit (.int .i64 1)], .agg [.lit (.int .i64 0), .lit (.int .i64 0)], .agg [.lit (.int .i64 3), .lit (.int .i64 1)], .agg [.lit (.int .i64 5), .lit (.int .i64 2)], .lit (.int .i64 1)], .agg [.lit (.string [80, 76, 45, 67, 83]), .agg [.lit (.int .i64 3), .lit (.int .i64 1)], .agg [.lit (.int .i64 0), .lit (.int .i64 0)], .agg [.lit (.int .i64 3), .lit (.int .i64 2)], .agg [.lit (.int .i64 5), .lit (.int .i64 2)], .lit (.int .i64 1)], .agg [.lit (.string [80, 76, 45, 50, 46, 57, 57]), .agg [.lit (.int .i64 3), .lit (.int .i64 3)], .agg [.lit (.int .i64 3), .lit (.int .i64 3)], .agg [.lit (.int .i64 3), .lit (.int .i64 3)], .agg [.lit (.int .i64 5), .lit (.int .i64 3)], .lit (.int .i64 1)], .agg [.lit (.string [80, 76, 45, 51]), .agg [.lit (.int .i64 3), .lit (.int .i64 3)], .agg [.lit (.int .i64 3), .lit (.int .i64 3)], .agg [.lit (.int .i64 3), .lit (.int .i64 3)], .agg [.lit (.int .i64 5), .lit (.int .i64 3)], .lit (.int .i64 3)]]

/-- 'ratlinelaw14.ProtocolWrites': WHATEVER THE INPUT: true; the input reads as it did. -/
def protocolWritesSpec : ChangeSpec := { name := "protocolWrites", fn := fun _ => fun
  | [d] => { results := [.lit (.bool true)], args := [d] }
  | _ => none }
def protocolWritesRow : OpenClaim := { program := "ytokcpmeoiblpfaadoor", sum := "6764ffb01b562be2de7e424e7768a534642374c122e2b8326a47ca76fc900a8b", func := "ratline/ratlinelaw14.ProtocolWrites", spec := "protocolWrites", named := ["ratline/protocol.levels"], apart := false, laid := [("ratline/protocol.levels", laid_ratline_protocol_levels)] }
def ProtocolWritesSaid : Prop := protocolWritesRow.holds Tryd.pinned (OpenSpec.ofChange protocolWritesSpec)

/-- ITS FALSE NEIGHBOUR: 'it returns false'. Refute it at one input. -/
def protocolWritesWrong : ChangeSpec := { name := "protocolWrites", fn := fun _ => fun
  | [d] => { results := [.lit (.bool false)], args := [d] }
  | _ => none }
def ProtocolWritesWrongFalsely : Prop := protocolWritesRow.holds Tryd.pinned (OpenSpec.ofChange protocolWritesWrong)

/-- 'ratlinelaw14.ProtocolTells': WHATEVER THE INPUT: true; the input reads as it did. -/
def protocolTellsSpec : ChangeSpec := { name := "protocolTells", fn := fun _ => fun
  | [d1, d2] => { results := [.lit (.bool true)], args := [d1, d2] }
  | _ => none }
def protocolTellsRow : OpenClaim := { program := "ytokcpmeoiblpfaadoor", sum := "6764ffb01b562be2de7e424e7768a534642374c122e2b8326a47ca76fc900a8b", func := "ratline/ratlinelaw14.ProtocolTells", spec := "protocolTells", named := ["ratline/protocol.levels"], apart := false, laid := [("ratline/protocol.levels", laid_ratline_protocol_levels)] }
def ProtocolTellsSaid : Prop := protocolTellsRow.holds Tryd.pinned (OpenSpec.ofChange protocolTellsSpec)

/-- ITS FALSE NEIGHBOUR: 'it returns false'. Refute it at one input. -/
def protocolTellsWrong : ChangeSpec := { name := "protocolTells", fn := fun _ => fun
  | [d1, d2] => { results := [.lit (.bool false)], args := [d1, d2] }
  | _ => none }
def ProtocolTellsWrongFalsely : Prop := protocolTellsRow.holds Tryd.pinned (OpenSpec.ofChange protocolTellsWrong)

/-- 'ratlinelaw14.ProtocolRises': WHATEVER THE INPUT: true; the input reads as it did. -/
def protocolRisesSpec : ChangeSpec := { name := "protocolRises", fn := fun _ => fun
  | [d1, d2, d3] => { results := [.lit (.bool true)], args := [d1, d2, d3] }
  | _ => none }
def protocolRisesRow : OpenClaim := { program := "ytokcpmeoiblpfaadoor", sum := "6764ffb01b562be2de7e424e7768a534642374c122e2b8326a47ca76fc900a8b", func := "ratline/ratlinelaw14.ProtocolRises", spec := "protocolRises", named := ["ratline/protocol.levels"], apart := false, laid := [("ratline/protocol.levels", laid_ratline_protocol_levels)] }
def ProtocolRisesSaid : Prop := protocolRisesRow.holds Tryd.pinned (OpenSpec.ofChange protocolRisesSpec)

/-- ITS FALSE NEIGHBOUR: 'it returns false'. Refute it at one input. -/
def protocolRisesWrong : ChangeSpec := { name := "protocolRises", fn := fun _ => fun
  | [d1, d2, d3] => { results := [.lit (.bool false)], args := [d1, d2, d3] }
  | _ => none }
def ProtocolRisesWrongFalsely : Prop := protocolRisesRow.holds Tryd.pinned (OpenSpec.ofChange protocolRisesWrong)

/-- 'ratlinelaw14.ProtocolRungs': WHATEVER THE INPUT: true; the input reads as it did. -/
def protocolRungsSpec : ChangeSpec := { name := "protocolRungs", fn := fun _ => fun
  | [d] => { results := [.lit (.bool true)], args := [d] }
  | _ => none }
def protocolRungsRow : OpenClaim := { program := "ytokcpmeoiblpfaadoor", sum := "6764ffb01b562be2de7e424e7768a534642374c122e2b8326a47ca76fc900a8b", func := "ratline/ratlinelaw14.ProtocolRungs", spec := "protocolRungs", named := ["ratline/protocol.levels"], apart := false, laid := [("ratline/protocol.levels", laid_ratline_protocol_levels)] }
def ProtocolRungsSaid : Prop := protocolRungsRow.holds Tryd.pinned (OpenSpec.ofChange protocolRungsSpec)

/-- ITS FALSE NEIGHBOUR: 'it returns false'. Refute it at one input. -/
def protocolRungsWrong : ChangeSpec := { name := "protocolRungs", fn := fun _ => fun
  | [d] => { results := [.lit (.bool false)], args := [d] }
  | _ => none }
def ProtocolRungsWrongFalsely : Prop := protocolRungsRow.holds Tryd.pinned (OpenSpec.ofChange protocolRungsWrong)

/- THE SECOND FORM. 'bulk': how many values and letters a reading holds, each counted each time it is reached (what is shared counts as often as it is met; a slice's spare places count too). A statement '..UptoSaid' is the law's where the arguments, and the package variables that the reading takes, are together of bulk at most 1048576: NARROWER than '..Said'. Prove '..Said' where nothing that the law and all that it calls make is longer than what came in: it says more and counts as full. Else prove '..UptoSaid'. A law counts once. -/
mutual
def uptoBulk {H : Type} : DataW H → Nat
  | .lit (.string bytes) => bytes.length + 1
  | .lit _ => 1
  | .nil => 1
  | .ptr d => uptoBulk d + 1
  | .slice elems spare => uptoBulkAll elems + uptoBulkAll spare + 1
  | .agg parts => uptoBulkAll parts + 1
  | .iface _ d => uptoBulk d + 1
  | .map entries => uptoBulkEntries entries + 1
  | .held _ => 1
def uptoBulkAll {H : Type} : List (DataW H) → Nat
  | [] => 0
  | d :: r => uptoBulk d + uptoBulkAll r
def uptoBulkEntries {H : Type} : List (Lit × DataW H) → Nat
  | [] => 0
  | x :: r => uptoBulkEntry x + uptoBulkEntries r
def uptoBulkEntry {H : Type} : Lit × DataW H → Nat
  | (.string bytes, d) => bytes.length + uptoBulk d + 1
  | (_, d) => uptoBulk d + 1
 end
def uptoSmall : (H : Type) → List (DataW H) → Bool := fun _ ds => decide (uptoBulkAll ds ≤ 1048576)
def OpenSpec.upto (s : _root_.Go.ChangeSpec) : _root_.Go.OpenSpec := { _root_.Go.OpenSpec.ofChange s with cond := some uptoSmall }

/-- 'ratlinelaw14.ProtocolWrites', WHERE WHAT IT READS IS OF BULK AT MOST 1048576: true; the input reads as it did. -/
def protocolWritesUptoRow : OpenClaim := { program := "ytokcpmeoiblpfaadoor", sum := "6764ffb01b562be2de7e424e7768a534642374c122e2b8326a47ca76fc900a8b", func := "ratline/ratlinelaw14.ProtocolWrites", spec := "protocolWrites", named := ["ratline/protocol.levels"], apart := false, laid := [("ratline/protocol.levels", laid_ratline_protocol_levels)], narrowed := true }
def ProtocolWritesUptoSaid : Prop := protocolWritesUptoRow.holds Tryd.pinned (OpenSpec.upto protocolWritesSpec)

/-- 'ratlinelaw14.ProtocolTells', WHERE WHAT IT READS IS OF BULK AT MOST 1048576: true; the input reads as it did. -/
def protocolTellsUptoRow : OpenClaim := { program := "ytokcpmeoiblpfaadoor", sum := "6764ffb01b562be2de7e424e7768a534642374c122e2b8326a47ca76fc900a8b", func := "ratline/ratlinelaw14.ProtocolTells", spec := "protocolTells", named := ["ratline/protocol.levels"], apart := false, laid := [("ratline/protocol.levels", laid_ratline_protocol_levels)], narrowed := true }
def ProtocolTellsUptoSaid : Prop := protocolTellsUptoRow.holds Tryd.pinned (OpenSpec.upto protocolTellsSpec)

/-- 'ratlinelaw14.ProtocolRises', WHERE WHAT IT READS IS OF BULK AT MOST 1048576: true; the input reads as it did. -/
def protocolRisesUptoRow : OpenClaim := { program := "ytokcpmeoiblpfaadoor", sum := "6764ffb01b562be2de7e424e7768a534642374c122e2b8326a47ca76fc900a8b", func := "ratline/ratlinelaw14.ProtocolRises", spec := "protocolRises", named := ["ratline/protocol.levels"], apart := false, laid := [("ratline/protocol.levels", laid_ratline_protocol_levels)], narrowed := true }
def ProtocolRisesUptoSaid : Prop := protocolRisesUptoRow.holds Tryd.pinned (OpenSpec.upto protocolRisesSpec)

/-- 'ratlinelaw14.ProtocolRungs', WHERE WHAT IT READS IS OF BULK AT MOST 1048576: true; the input reads as it did. -/
def protocolRungsUptoRow : OpenClaim := { program := "ytokcpmeoiblpfaadoor", sum := "6764ffb01b562be2de7e424e7768a534642374c122e2b8326a47ca76fc900a8b", func := "ratline/ratlinelaw14.ProtocolRungs", spec := "protocolRungs", named := ["ratline/protocol.levels"], apart := false, laid := [("ratline/protocol.levels", laid_ratline_protocol_levels)], narrowed := true }
def ProtocolRungsUptoSaid : Prop := protocolRungsUptoRow.holds Tryd.pinned (OpenSpec.upto protocolRungsSpec)

end Rows
end Go.Proofs.YtokcpmeoiblpfaaDoor

/-
  NARROWER THAN 'FOR EVERY INPUT', by the rows' own cells (each row's printed sentence says how): FifoTurns: laid · FifoModes: laid · FifoApart: loops, laid · FifoPlays: loops, laid · FifoMoves: loops, laid · FifoEnds: loops, laid · FifoTries: loops, laid · FifoNone: loops, laid.
  DERIVED. THE GIVEN ROWS OF THIS SEAT. 8 by the template 'for every input the law returns true; each argument reads behind the call as it read before'; 0 by the template 'total and deterministic' (their statements: YtkdinhlmghfpeaaGreatDoorTotals.lean).
  GIVEN WITH THE SEED: the statements are not yours to turn. If you find one false, say at which input.
  Laid BY PROGRAM, IN A SANDBOX (cutbox-rows.mjs): the forced cells as the released guide's own fill.sh prints them over the translation f928b6302bb60d00… (all of the seat's roots in one cut). By AI agents, Wed Nov 11 2026. No macro, syntax, notation, axiom, sorry.
-/
import Derived.Test.YtkdinhlmghfpeaaGreatDoorChecked
import GoSem.Claim
import GoSem.ClaimJoined
import GoSem.ClaimMapViews
import Derived.JoinedTies
import Derived.KernelRfl
namespace Go.Proofs.YtkdinhlmghfpeaaGreatDoor
/- THE CELL 'sum', in the pinned program and in every row, IS THE sha256 OF THE DUMP (.gsa) THAT YtkdinhlmghfpeaaGreatDoorProg.lean LOADS. Nothing in Lean hashes anything: it is a label: what it is worth is what the hold of that sum in a sandbox is worth. -/
noncomputable def Tryz.pinned : Pinned := { name := "ytkdinhlmghfpeaagreatdoor", sum := "f928b6302bb60d00070fca10d9eeeed998e239058c0add611717a92fba750fe0", checked := Tryz.checked }
namespace Rows
def none {H : Type} : Left H := { results := [], args := [] }

/- WHAT THE LISTED PACKAGE-LEVEL VARIABLES READ AS WHEN THE CALL BEGINS. Each datum BY PROGRAM (the guide's laid-datum.mjs) off the statement by which the dump's own 'gosem.cut.vars' lays the variable. In a bare row this is a premise. The card (YtkdinhlmghfpeaaGreatDoorCards.lean) ties it to the program's text. -/
def laid_ratline_mode_against {H : Type} : DataW H := .agg [.lit (.int .u8 0), .lit (.int .u8 64), .lit (.int .u8 120), .lit (.int .u8 84), .lit (.int .u8 124), .lit (.int .u8 116), .lit (.int .u8 126)]

/-- 'ratlinelaw10.FifoTurns': WHATEVER THE INPUT: true; the input reads as it did. -/
def fifoTurnsSpec : ChangeSpec := { name := "fifoTurns", fn := fun _ => fun
  | [d1, d2] => { results := [.lit (.bool true)], args := [d1, d2] }
  | _ => none }
def fifoTurnsRow : OpenClaim := { program := "ytkdinhlmghfpeaagreatdoor", sum := "f928b6302bb60d00070fca10d9eeeed998e239058c0add611717a92fba750fe0", func := "ratline/ratlinelaw10.FifoTurns", spec := "fifoTurns", inPlace := ["slices.overlaps[ratline/fifo.entry[ratline/api.Claim]]", "slices.overlaps[ratline/fifo.entry[ratline/api.Mode]]"], unfollowed := true, recurses := true, named := ["ratline/mode.against"], apart := false, laid := [("ratline/mode.against", laid_ratline_mode_against)] }
def FifoTurnsSaid : Prop := fifoTurnsRow.holds Tryz.pinned (OpenSpec.ofChange fifoTurnsSpec)

/-- ITS FALSE NEIGHBOUR: 'it returns false'. Refute it at one input. -/
def fifoTurnsWrong : ChangeSpec := { name := "fifoTurns", fn := fun _ => fun
  | [d1, d2] => { results := [.lit (.bool false)], args := [d1, d2] }
  | _ => none }
def FifoTurnsWrongFalsely : Prop := fifoTurnsRow.holds Tryz.pinned (OpenSpec.ofChange fifoTurnsWrong)

/-- 'ratlinelaw10.FifoModes': WHATEVER THE INPUT: true; the input reads as it did. -/
def fifoModesSpec : ChangeSpec := { name := "fifoModes", fn := fun _ => fun
  | [d1, d2] => { results := [.lit (.bool true)], args := [d1, d2] }
  | _ => none }
def fifoModesRow : OpenClaim := { program := "ytkdinhlmghfpeaagreatdoor", sum := "f928b6302bb60d00070fca10d9eeeed998e239058c0add611717a92fba750fe0", func := "ratline/ratlinelaw10.FifoModes", spec := "fifoModes", inPlace := ["slices.overlaps[ratline/fifo.entry[ratline/api.Claim]]", "slices.overlaps[ratline/fifo.entry[ratline/api.Mode]]"], unfollowed := true, recurses := true, named := ["ratline/mode.against"], apart := false, laid := [("ratline/mode.against", laid_ratline_mode_against)] }
def FifoModesSaid : Prop := fifoModesRow.holds Tryz.pinned (OpenSpec.ofChange fifoModesSpec)

/-- ITS FALSE NEIGHBOUR: 'it returns false'. Refute it at one input. -/
def fifoModesWrong : ChangeSpec := { name := "fifoModes", fn := fun _ => fun
  | [d1, d2] => { results := [.lit (.bool false)], args := [d1, d2] }
  | _ => none }
def FifoModesWrongFalsely : Prop := fifoModesRow.holds Tryz.pinned (OpenSpec.ofChange fifoModesWrong)

/-- 'ratlinelaw10.FifoApart': WHATEVER THE INPUT: true; the input reads as it did. -/
def fifoApartSpec : ChangeSpec := { name := "fifoApart", fn := fun _ => fun
  | [d] => { results := [.lit (.bool true)], args := [d] }
  | _ => none }
def fifoApartRow : OpenClaim := { program := "ytkdinhlmghfpeaagreatdoor", sum := "f928b6302bb60d00070fca10d9eeeed998e239058c0add611717a92fba750fe0", func := "ratline/ratlinelaw10.FifoApart", spec := "fifoApart", inPlace := ["slices.overlaps[ratline/fifo.entry[ratline/api.Claim]]"], unfollowed := true, recurses := true, named := ["ratline/mode.against"], loops := true, apart := false, laid := [("ratline/mode.against", laid_ratline_mode_against)] }
def FifoApartSaid : Prop := fifoApartRow.holds Tryz.pinned (OpenSpec.ofChange fifoApartSpec)

/-- ITS FALSE NEIGHBOUR: 'it returns false'. Refute it at one input. -/
def fifoApartWrong : ChangeSpec := { name := "fifoApart", fn := fun _ => fun
  | [d] => { results := [.lit (.bool false)], args := [d] }
  | _ => none }
def FifoApartWrongFalsely : Prop := fifoApartRow.holds Tryz.pinned (OpenSpec.ofChange fifoApartWrong)

/-- 'ratlinelaw10.FifoPlays': WHATEVER THE INPUT: true; the input reads as it did. -/
def fifoPlaysSpec : ChangeSpec := { name := "fifoPlays", fn := fun _ => fun
  | [d] => { results := [.lit (.bool true)], args := [d] }
  | _ => none }
def fifoPlaysRow : OpenClaim := { program := "ytkdinhlmghfpeaagreatdoor", sum := "f928b6302bb60d00070fca10d9eeeed998e239058c0add611717a92fba750fe0", func := "ratline/ratlinelaw10.FifoPlays", spec := "fifoPlays", inPlace := ["slices.overlaps[ratline/fifo.entry[ratline/api.Claim]]"], unfollowed := true, recurses := true, named := ["ratline/mode.against"], loops := true, apart := false, laid := [("ratline/mode.against", laid_ratline_mode_against)] }
def FifoPlaysSaid : Prop := fifoPlaysRow.holds Tryz.pinned (OpenSpec.ofChange fifoPlaysSpec)

/-- ITS FALSE NEIGHBOUR: 'it returns false'. Refute it at one input. -/
def fifoPlaysWrong : ChangeSpec := { name := "fifoPlays", fn := fun _ => fun
  | [d] => { results := [.lit (.bool false)], args := [d] }
  | _ => none }
def FifoPlaysWrongFalsely : Prop := fifoPlaysRow.holds Tryz.pinned (OpenSpec.ofChange fifoPlaysWrong)

/-- 'ratlinelaw10.FifoMoves': WHATEVER THE INPUT: true; the input reads as it did. -/
def fifoMovesSpec : ChangeSpec := { name := "fifoMoves", fn := fun _ => fun
  | [d] => { results := [.lit (.bool true)], args := [d] }
  | _ => none }
def fifoMovesRow : OpenClaim := { program := "ytkdinhlmghfpeaagreatdoor", sum := "f928b6302bb60d00070fca10d9eeeed998e239058c0add611717a92fba750fe0", func := "ratline/ratlinelaw10.FifoMoves", spec := "fifoMoves", inPlace := ["slices.overlaps[ratline/fifo.entry[ratline/api.Claim]]"], unfollowed := true, recurses := true, named := ["ratline/mode.against"], loops := true, apart := false, laid := [("ratline/mode.against", laid_ratline_mode_against)] }
def FifoMovesSaid : Prop := fifoMovesRow.holds Tryz.pinned (OpenSpec.ofChange fifoMovesSpec)

/-- ITS FALSE NEIGHBOUR: 'it returns false'. Refute it at one input. -/
def fifoMovesWrong : ChangeSpec := { name := "fifoMoves", fn := fun _ => fun
  | [d] => { results := [.lit (.bool false)], args := [d] }
  | _ => none }
def FifoMovesWrongFalsely : Prop := fifoMovesRow.holds Tryz.pinned (OpenSpec.ofChange fifoMovesWrong)

/-- 'ratlinelaw10.FifoEnds': WHATEVER THE INPUT: true; the input reads as it did. -/
def fifoEndsSpec : ChangeSpec := { name := "fifoEnds", fn := fun _ => fun
  | [d1, d2] => { results := [.lit (.bool true)], args := [d1, d2] }
  | _ => none }
def fifoEndsRow : OpenClaim := { program := "ytkdinhlmghfpeaagreatdoor", sum := "f928b6302bb60d00070fca10d9eeeed998e239058c0add611717a92fba750fe0", func := "ratline/ratlinelaw10.FifoEnds", spec := "fifoEnds", inPlace := ["slices.overlaps[ratline/fifo.entry[ratline/api.Claim]]"], unfollowed := true, recurses := true, named := ["ratline/mode.against"], loops := true, apart := false, laid := [("ratline/mode.against", laid_ratline_mode_against)] }
def FifoEndsSaid : Prop := fifoEndsRow.holds Tryz.pinned (OpenSpec.ofChange fifoEndsSpec)

/-- ITS FALSE NEIGHBOUR: 'it returns false'. Refute it at one input. -/
def fifoEndsWrong : ChangeSpec := { name := "fifoEnds", fn := fun _ => fun
  | [d1, d2] => { results := [.lit (.bool false)], args := [d1, d2] }
  | _ => none }
def FifoEndsWrongFalsely : Prop := fifoEndsRow.holds Tryz.pinned (OpenSpec.ofChange fifoEndsWrong)

/-- 'ratlinelaw10.FifoTries': WHATEVER THE INPUT: true; the input reads as it did. -/
def fifoTriesSpec : ChangeSpec := { name := "fifoTries", fn := fun _ => fun
  | [d1, d2, d3] => { results := [.lit (.bool true)], args := [d1, d2, d3] }
  | _ => none }
def fifoTriesRow : OpenClaim := { program := "ytkdinhlmghfpeaagreatdoor", sum := "f928b6302bb60d00070fca10d9eeeed998e239058c0add611717a92fba750fe0", func := "ratline/ratlinelaw10.FifoTries", spec := "fifoTries", inPlace := ["slices.overlaps[ratline/fifo.entry[ratline/api.Claim]]"], unfollowed := true, recurses := true, named := ["ratline/mode.against"], loops := true, apart := false, laid := [("ratline/mode.against", laid_ratline_mode_against)] }
def FifoTriesSaid : Prop := fifoTriesRow.holds Tryz.pinned (OpenSpec.ofChange fifoTriesSpec)

/-- ITS FALSE NEIGHBOUR: 'it returns false'. Refute it at one input. -/
def fifoTriesWrong : ChangeSpec := { name := "fifoTries", fn := fun _ => fun
  | [d1, d2, d3] => { results := [.lit (.bool false)], args := [d1, d2, d3] }
  | _ => none }
def FifoTriesWrongFalsely : Prop := fifoTriesRow.holds Tryz.pinned (OpenSpec.ofChange fifoTriesWrong)

/-- 'ratlinelaw10.FifoNone': WHATEVER THE INPUT: true; the input reads as it did. -/
def fifoNoneSpec : ChangeSpec := { name := "fifoNone", fn := fun _ => fun
  | [d1, d2] => { results := [.lit (.bool true)], args := [d1, d2] }
  | _ => none }
def fifoNoneRow : OpenClaim := { program := "ytkdinhlmghfpeaagreatdoor", sum := "f928b6302bb60d00070fca10d9eeeed998e239058c0add611717a92fba750fe0", func := "ratline/ratlinelaw10.FifoNone", spec := "fifoNone", inPlace := ["slices.overlaps[ratline/fifo.entry[ratline/api.Claim]]"], unfollowed := true, recurses := true, named := ["ratline/mode.against"], loops := true, apart := false, laid := [("ratline/mode.against", laid_ratline_mode_against)] }
def FifoNoneSaid : Prop := fifoNoneRow.holds Tryz.pinned (OpenSpec.ofChange fifoNoneSpec)

/-- ITS FALSE NEIGHBOUR: 'it returns false'. Refute it at one input. -/
def fifoNoneWrong : ChangeSpec := { name := "fifoNone", fn := fun _ => fun
  | [d1, d2] => { results := [.lit (.bool false)], args := [d1, d2] }
  | _ => none }
def FifoNoneWrongFalsely : Prop := fifoNoneRow.holds Tryz.pinned (OpenSpec.ofChange fifoNoneWrong)

/- THE SECOND FORM. 'bulk': how many values and letters a reading holds, each counted each time it is reached (what is shared counts as often as it is met; a slice's spare places count too). A statement '..UptoSaid' is the law's where the arguments, and the package variables that the reading takes, are together of bulk at most 1048576: NARROWER than '..Said'. Prove '..Said' where nothing that the law and all that it calls make is longer than what came in: it says more and counts as full. Else prove '..UptoSaid'. A law counts once. -/
mutual
def uptoBulk {H : Type} : DataW H → Nat
  | .lit (.string bytes) => bytes.length + 1
  | .lit _ => 1
  | .nil => 1
  | .ptr d => uptoBulk d + 1
  | .slice elems spare => uptoBulkAll elems + uptoBulkAll spare + 1
  | .agg parts => uptoBulkAll parts + 1
  | .iface _ d => uptoBulk d + 1
  | .map entries => uptoBulkEntries entries + 1
  | .held _ => 1
def uptoBulkAll {H : Type} : List (DataW H) → Nat
  | [] => 0
  | d :: r => uptoBulk d + uptoBulkAll r
def uptoBulkEntries {H : Type} : List (Lit × DataW H) → Nat
  | [] => 0
  | x :: r => uptoBulkEntry x + uptoBulkEntries r
def uptoBulkEntry {H : Type} : Lit × DataW H → Nat
  | (.string bytes, d) => bytes.length + uptoBulk d + 1
  | (_, d) => uptoBulk d + 1
 end
def uptoSmall : (H : Type) → List (DataW H) → Bool := fun _ ds => decide (uptoBulkAll ds ≤ 1048576)
def OpenSpec.upto (s : _root_.Go.ChangeSpec) : _root_.Go.OpenSpec := { _root_.Go.OpenSpec.ofChange s with cond := some uptoSmall }

/-- 'ratlinelaw10.FifoTurns', WHERE WHAT IT READS IS OF BULK AT MOST 1048576: true; the input reads as it did. -/
def fifoTurnsUptoRow : OpenClaim := { program := "ytkdinhlmghfpeaagreatdoor", sum := "f928b6302bb60d00070fca10d9eeeed998e239058c0add611717a92fba750fe0", func := "ratline/ratlinelaw10.FifoTurns", spec := "fifoTurns", inPlace := ["slices.overlaps[ratline/fifo.entry[ratline/api.Claim]]", "slices.overlaps[ratline/fifo.entry[ratline/api.Mode]]"], unfollowed := true, recurses := true, named := ["ratline/mode.against"], apart := false, laid := [("ratline/mode.against", laid_ratline_mode_against)], narrowed := true }
def FifoTurnsUptoSaid : Prop := fifoTurnsUptoRow.holds Tryz.pinned (OpenSpec.upto fifoTurnsSpec)

/-- 'ratlinelaw10.FifoModes', WHERE WHAT IT READS IS OF BULK AT MOST 1048576: true; the input reads as it did. -/
def fifoModesUptoRow : OpenClaim := { program := "ytkdinhlmghfpeaagreatdoor", sum := "f928b6302bb60d00070fca10d9eeeed998e239058c0add611717a92fba750fe0", func := "ratline/ratlinelaw10.FifoModes", spec := "fifoModes", inPlace := ["slices.overlaps[ratline/fifo.entry[ratline/api.Claim]]", "slices.overlaps[ratline/fifo.entry[ratline/api.Mode]]"], unfollowed := true, recurses := true, named := ["ratline/mode.against"], apart := false, laid := [("ratline/mode.against", laid_ratline_mode_against)], narrowed := true }
def FifoModesUptoSaid : Prop := fifoModesUptoRow.holds Tryz.pinned (OpenSpec.upto fifoModesSpec)

/-- 'ratlinelaw10.FifoApart', WHERE WHAT IT READS IS OF BULK AT MOST 1048576: true; the input reads as it did. -/
def fifoApartUptoRow : OpenClaim := { program := "ytkdinhlmghfpeaagreatdoor", sum := "f928b6302bb60d00070fca10d9eeeed998e239058c0add611717a92fba750fe0", func := "ratline/ratlinelaw10.FifoApart", spec := "fifoApart", inPlace := ["slices.overlaps[ratline/fifo.entry[ratline/api.Claim]]"], unfollowed := true, recurses := true, named := ["ratline/mode.against"], loops := true, apart := false, laid := [("ratline/mode.against", laid_ratline_mode_against)], narrowed := true }
def FifoApartUptoSaid : Prop := fifoApartUptoRow.holds Tryz.pinned (OpenSpec.upto fifoApartSpec)

/-- 'ratlinelaw10.FifoPlays', WHERE WHAT IT READS IS OF BULK AT MOST 1048576: true; the input reads as it did. -/
def fifoPlaysUptoRow : OpenClaim := { program := "ytkdinhlmghfpeaagreatdoor", sum := "f928b6302bb60d00070fca10d9eeeed998e239058c0add611717a92fba750fe0", func := "ratline/ratlinelaw10.FifoPlays", spec := "fifoPlays", inPlace := ["slices.overlaps[ratline/fifo.entry[ratline/api.Claim]]"], unfollowed := true, recurses := true, named := ["ratline/mode.against"], loops := true, apart := false, laid := [("ratline/mode.against", laid_ratline_mode_against)], narrowed := true }
def FifoPlaysUptoSaid : Prop := fifoPlaysUptoRow.holds Tryz.pinned (OpenSpec.upto fifoPlaysSpec)

/-- 'ratlinelaw10.FifoMoves', WHERE WHAT IT READS IS OF BULK AT MOST 1048576: true; the input reads as it did. -/
def fifoMovesUptoRow : OpenClaim := { program := "ytkdinhlmghfpeaagreatdoor", sum := "f928b6302bb60d00070fca10d9eeeed998e239058c0add611717a92fba750fe0", func := "ratline/ratlinelaw10.FifoMoves", spec := "fifoMoves", inPlace := ["slices.overlaps[ratline/fifo.entry[ratline/api.Claim]]"], unfollowed := true, recurses := true, named := ["ratline/mode.against"], loops := true, apart := false, laid := [("ratline/mode.against", laid_ratline_mode_against)], narrowed := true }
def FifoMovesUptoSaid : Prop := fifoMovesUptoRow.holds Tryz.pinned (OpenSpec.upto fifoMovesSpec)

/-- 'ratlinelaw10.FifoEnds', WHERE WHAT IT READS IS OF BULK AT MOST 1048576: true; the input reads as it did. -/
def fifoEndsUptoRow : OpenClaim := { program := "ytkdinhlmghfpeaagreatdoor", sum := "f928b6302bb60d00070fca10d9eeeed998e239058c0add611717a92fba750fe0", func := "ratline/ratlinelaw10.FifoEnds", spec := "fifoEnds", inPlace := ["slices.overlaps[ratline/fifo.entry[ratline/api.Claim]]"], unfollowed := true, recurses := true, named := ["ratline/mode.against"], loops := true, apart := false, laid := [("ratline/mode.against", laid_ratline_mode_against)], narrowed := true }
def FifoEndsUptoSaid : Prop := fifoEndsUptoRow.holds Tryz.pinned (OpenSpec.upto fifoEndsSpec)

/-- 'ratlinelaw10.FifoTries', WHERE WHAT IT READS IS OF BULK AT MOST 1048576: true; the input reads as it did. -/
def fifoTriesUptoRow : OpenClaim := { program := "ytkdinhlmghfpeaagreatdoor", sum := "f928b6302bb60d00070fca10d9eeeed998e239058c0add611717a92fba750fe0", func := "ratline/ratlinelaw10.FifoTries", spec := "fifoTries", inPlace := ["slices.overlaps[ratline/fifo.entry[ratline/api.Claim]]"], unfollowed := true, recurses := true, named := ["ratline/mode.against"], loops := true, apart := false, laid := [("ratline/mode.against", laid_ratline_mode_against)], narrowed := true }
def FifoTriesUptoSaid : Prop := fifoTriesUptoRow.holds Tryz.pinned (OpenSpec.upto fifoTriesSpec)

/-- 'ratlinelaw10.FifoNone', WHERE WHAT IT READS IS OF BULK AT MOST 1048576: true; the input reads as it did. -/
def fifoNoneUptoRow : OpenClaim := { program := "ytkdinhlmghfpeaagreatdoor", sum := "f928b6302bb60d00070fca10d9eeeed998e239058c0add611717a92fba750fe0", func := "ratline/ratlinelaw10.FifoNone", spec := "fifoNone", inPlace := ["slices.overlaps[ratline/fifo.entry[ratline/api.Claim]]"], unfollowed := true, recurses := true, named := ["ratline/mode.against"], loops := true, apart := false, laid := [("ratline/mode.against", laid_ratline_mode_against)], narrowed := true }
def FifoNoneUptoSaid : Prop := fifoNoneUptoRow.holds Tryz.pinned (OpenSpec.upto fifoNoneSpec)

end Rows
end Go.Proofs.YtkdinhlmghfpeaaGreatDoor

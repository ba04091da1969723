/-
  NARROWER THAN 'FOR EVERY INPUT', by the rows' own cells (each row's printed sentence says how): LocksHands: laid · LocksTables: loops, laid · LocksRoom: loops, laid · LocksShare: laid · LocksPlays: loops, laid · LocksApart: loops, laid · LocksStays: loops, laid · LocksNone: loops, laid.
  DERIVED. THE GIVEN ROWS OF THIS SEAT. 8 by the template 'for every input the law returns true; each argument reads behind the call as it read before'; 0 by the template 'total and deterministic' (their statements: YtgljdkjepdknnaaGreatDoorTotals.lean).
  GIVEN WITH THE SEED: the statements are not yours to turn. If you find one false, say at which input.
  Laid BY PROGRAM, IN A SANDBOX (cutbox-rows.mjs): the forced cells as the released guide's own fill.sh prints them over the translation 3cb8540c91979a11… (all of the seat's roots in one cut). By AI agents, Wed Nov 11 2026. No macro, syntax, notation, axiom, sorry.
-/
import Derived.Test.YtgljdkjepdknnaaGreatDoorChecked
import GoSem.Claim
import GoSem.ClaimJoined
import GoSem.ClaimMapViews
import Derived.JoinedTies
import Derived.KernelRfl
namespace Go.Proofs.YtgljdkjepdknnaaGreatDoor
/- THE CELL 'sum', in the pinned program and in every row, IS THE sha256 OF THE DUMP (.gsa) THAT YtgljdkjepdknnaaGreatDoorProg.lean LOADS. Nothing in Lean hashes anything: it is a label: what it is worth is what the hold of that sum in a sandbox is worth. -/
noncomputable def Tryz.pinned : Pinned := { name := "ytgljdkjepdknnaagreatdoor", sum := "3cb8540c91979a11617c9e28023281b1d0ee5ca528ea14433a86af8dadf6f079", checked := Tryz.checked }
namespace Rows
def none {H : Type} : Left H := { results := [], args := [] }

/- WHAT THE LISTED PACKAGE-LEVEL VARIABLES READ AS WHEN THE CALL BEGINS. Each datum BY PROGRAM (the guide's laid-datum.mjs) off the statement by which the dump's own 'gosem.cut.vars' lays the variable. In a bare row this is a premise. The card (YtgljdkjepdknnaaGreatDoorCards.lean) ties it to the program's text. -/
def laid_ratline_mode_against {H : Type} : DataW H := .agg [.lit (.int .u8 0), .lit (.int .u8 64), .lit (.int .u8 120), .lit (.int .u8 84), .lit (.int .u8 124), .lit (.int .u8 116), .lit (.int .u8 126)]

/-- 'ratlinelaw11.LocksHands': WHATEVER THE INPUT: true; the input reads as it did. -/
def locksHandsSpec : ChangeSpec := { name := "locksHands", fn := fun _ => fun
  | [d1, d2, d3] => { results := [.lit (.bool true)], args := [d1, d2, d3] }
  | _ => none }
def locksHandsRow : OpenClaim := { program := "ytgljdkjepdknnaagreatdoor", sum := "3cb8540c91979a11617c9e28023281b1d0ee5ca528ea14433a86af8dadf6f079", func := "ratline/ratlinelaw11.LocksHands", spec := "locksHands", inPlace := ["slices.overlaps[ratline/fifo.entry[ratline/api.Claim]]"], unfollowed := true, recurses := true, named := ["ratline/mode.against"], apart := false, laid := [("ratline/mode.against", laid_ratline_mode_against)] }
def LocksHandsSaid : Prop := locksHandsRow.holds Tryz.pinned (OpenSpec.ofChange locksHandsSpec)

/-- ITS FALSE NEIGHBOUR: 'it returns false'. Refute it at one input. -/
def locksHandsWrong : ChangeSpec := { name := "locksHands", fn := fun _ => fun
  | [d1, d2, d3] => { results := [.lit (.bool false)], args := [d1, d2, d3] }
  | _ => none }
def LocksHandsWrongFalsely : Prop := locksHandsRow.holds Tryz.pinned (OpenSpec.ofChange locksHandsWrong)

/-- 'ratlinelaw11.LocksTables': WHATEVER THE INPUT: true; the input reads as it did. -/
def locksTablesSpec : ChangeSpec := { name := "locksTables", fn := fun _ => fun
  | [d1, d2, d3] => { results := [.lit (.bool true)], args := [d1, d2, d3] }
  | _ => none }
def locksTablesRow : OpenClaim := { program := "ytgljdkjepdknnaagreatdoor", sum := "3cb8540c91979a11617c9e28023281b1d0ee5ca528ea14433a86af8dadf6f079", func := "ratline/ratlinelaw11.LocksTables", spec := "locksTables", inPlace := ["slices.overlaps[ratline/fifo.entry[ratline/api.Claim]]"], unfollowed := true, recurses := true, named := ["ratline/mode.against"], loops := true, apart := false, laid := [("ratline/mode.against", laid_ratline_mode_against)] }
def LocksTablesSaid : Prop := locksTablesRow.holds Tryz.pinned (OpenSpec.ofChange locksTablesSpec)

/-- ITS FALSE NEIGHBOUR: 'it returns false'. Refute it at one input. -/
def locksTablesWrong : ChangeSpec := { name := "locksTables", fn := fun _ => fun
  | [d1, d2, d3] => { results := [.lit (.bool false)], args := [d1, d2, d3] }
  | _ => none }
def LocksTablesWrongFalsely : Prop := locksTablesRow.holds Tryz.pinned (OpenSpec.ofChange locksTablesWrong)

/-- 'ratlinelaw11.LocksRoom': WHATEVER THE INPUT: true; the input reads as it did. -/
def locksRoomSpec : ChangeSpec := { name := "locksRoom", fn := fun _ => fun
  | [d1, d2, d3] => { results := [.lit (.bool true)], args := [d1, d2, d3] }
  | _ => none }
def locksRoomRow : OpenClaim := { program := "ytgljdkjepdknnaagreatdoor", sum := "3cb8540c91979a11617c9e28023281b1d0ee5ca528ea14433a86af8dadf6f079", func := "ratline/ratlinelaw11.LocksRoom", spec := "locksRoom", inPlace := ["slices.overlaps[ratline/fifo.entry[ratline/api.Claim]]"], unfollowed := true, recurses := true, named := ["ratline/mode.against"], loops := true, apart := false, laid := [("ratline/mode.against", laid_ratline_mode_against)] }
def LocksRoomSaid : Prop := locksRoomRow.holds Tryz.pinned (OpenSpec.ofChange locksRoomSpec)

/-- ITS FALSE NEIGHBOUR: 'it returns false'. Refute it at one input. -/
def locksRoomWrong : ChangeSpec := { name := "locksRoom", fn := fun _ => fun
  | [d1, d2, d3] => { results := [.lit (.bool false)], args := [d1, d2, d3] }
  | _ => none }
def LocksRoomWrongFalsely : Prop := locksRoomRow.holds Tryz.pinned (OpenSpec.ofChange locksRoomWrong)

/-- 'ratlinelaw11.LocksShare': WHATEVER THE INPUT: true; the input reads as it did. -/
def locksShareSpec : ChangeSpec := { name := "locksShare", fn := fun _ => fun
  | [d1, d2] => { results := [.lit (.bool true)], args := [d1, d2] }
  | _ => none }
def locksShareRow : OpenClaim := { program := "ytgljdkjepdknnaagreatdoor", sum := "3cb8540c91979a11617c9e28023281b1d0ee5ca528ea14433a86af8dadf6f079", func := "ratline/ratlinelaw11.LocksShare", spec := "locksShare", inPlace := ["slices.overlaps[ratline/fifo.entry[ratline/api.Claim]]"], unfollowed := true, recurses := true, named := ["ratline/mode.against"], apart := false, laid := [("ratline/mode.against", laid_ratline_mode_against)] }
def LocksShareSaid : Prop := locksShareRow.holds Tryz.pinned (OpenSpec.ofChange locksShareSpec)

/-- ITS FALSE NEIGHBOUR: 'it returns false'. Refute it at one input. -/
def locksShareWrong : ChangeSpec := { name := "locksShare", fn := fun _ => fun
  | [d1, d2] => { results := [.lit (.bool false)], args := [d1, d2] }
  | _ => none }
def LocksShareWrongFalsely : Prop := locksShareRow.holds Tryz.pinned (OpenSpec.ofChange locksShareWrong)

/-- 'ratlinelaw11.LocksPlays': WHATEVER THE INPUT: true; the input reads as it did. -/
def locksPlaysSpec : ChangeSpec := { name := "locksPlays", fn := fun _ => fun
  | [d1, d2, d3] => { results := [.lit (.bool true)], args := [d1, d2, d3] }
  | _ => none }
def locksPlaysRow : OpenClaim := { program := "ytgljdkjepdknnaagreatdoor", sum := "3cb8540c91979a11617c9e28023281b1d0ee5ca528ea14433a86af8dadf6f079", func := "ratline/ratlinelaw11.LocksPlays", spec := "locksPlays", inPlace := ["slices.overlaps[ratline/fifo.entry[ratline/api.Claim]]"], unfollowed := true, recurses := true, named := ["ratline/mode.against"], loops := true, apart := false, laid := [("ratline/mode.against", laid_ratline_mode_against)] }
def LocksPlaysSaid : Prop := locksPlaysRow.holds Tryz.pinned (OpenSpec.ofChange locksPlaysSpec)

/-- ITS FALSE NEIGHBOUR: 'it returns false'. Refute it at one input. -/
def locksPlaysWrong : ChangeSpec := { name := "locksPlays", fn := fun _ => fun
  | [d1, d2, d3] => { results := [.lit (.bool false)], args := [d1, d2, d3] }
  | _ => none }
def LocksPlaysWrongFalsely : Prop := locksPlaysRow.holds Tryz.pinned (OpenSpec.ofChange locksPlaysWrong)

/-- 'ratlinelaw11.LocksApart': WHATEVER THE INPUT: true; the input reads as it did. -/
def locksApartSpec : ChangeSpec := { name := "locksApart", fn := fun _ => fun
  | [d1, d2] => { results := [.lit (.bool true)], args := [d1, d2] }
  | _ => none }
def locksApartRow : OpenClaim := { program := "ytgljdkjepdknnaagreatdoor", sum := "3cb8540c91979a11617c9e28023281b1d0ee5ca528ea14433a86af8dadf6f079", func := "ratline/ratlinelaw11.LocksApart", spec := "locksApart", inPlace := ["slices.overlaps[ratline/fifo.entry[ratline/api.Claim]]"], unfollowed := true, recurses := true, named := ["ratline/mode.against"], loops := true, apart := false, laid := [("ratline/mode.against", laid_ratline_mode_against)] }
def LocksApartSaid : Prop := locksApartRow.holds Tryz.pinned (OpenSpec.ofChange locksApartSpec)

/-- ITS FALSE NEIGHBOUR: 'it returns false'. Refute it at one input. -/
def locksApartWrong : ChangeSpec := { name := "locksApart", fn := fun _ => fun
  | [d1, d2] => { results := [.lit (.bool false)], args := [d1, d2] }
  | _ => none }
def LocksApartWrongFalsely : Prop := locksApartRow.holds Tryz.pinned (OpenSpec.ofChange locksApartWrong)

/-- 'ratlinelaw11.LocksStays': WHATEVER THE INPUT: true; the input reads as it did. -/
def locksStaysSpec : ChangeSpec := { name := "locksStays", fn := fun _ => fun
  | [d1, d2, d3] => { results := [.lit (.bool true)], args := [d1, d2, d3] }
  | _ => none }
def locksStaysRow : OpenClaim := { program := "ytgljdkjepdknnaagreatdoor", sum := "3cb8540c91979a11617c9e28023281b1d0ee5ca528ea14433a86af8dadf6f079", func := "ratline/ratlinelaw11.LocksStays", spec := "locksStays", inPlace := ["slices.overlaps[ratline/fifo.entry[ratline/api.Claim]]"], unfollowed := true, recurses := true, named := ["ratline/mode.against"], loops := true, apart := false, laid := [("ratline/mode.against", laid_ratline_mode_against)] }
def LocksStaysSaid : Prop := locksStaysRow.holds Tryz.pinned (OpenSpec.ofChange locksStaysSpec)

/-- ITS FALSE NEIGHBOUR: 'it returns false'. Refute it at one input. -/
def locksStaysWrong : ChangeSpec := { name := "locksStays", fn := fun _ => fun
  | [d1, d2, d3] => { results := [.lit (.bool false)], args := [d1, d2, d3] }
  | _ => none }
def LocksStaysWrongFalsely : Prop := locksStaysRow.holds Tryz.pinned (OpenSpec.ofChange locksStaysWrong)

/-- 'ratlinelaw11.LocksNone': WHATEVER THE INPUT: true; the input reads as it did. -/
def locksNoneSpec : ChangeSpec := { name := "locksNone", fn := fun _ => fun
  | [d] => { results := [.lit (.bool true)], args := [d] }
  | _ => none }
def locksNoneRow : OpenClaim := { program := "ytgljdkjepdknnaagreatdoor", sum := "3cb8540c91979a11617c9e28023281b1d0ee5ca528ea14433a86af8dadf6f079", func := "ratline/ratlinelaw11.LocksNone", spec := "locksNone", inPlace := ["slices.overlaps[ratline/fifo.entry[ratline/api.Claim]]"], unfollowed := true, recurses := true, named := ["ratline/mode.against"], loops := true, apart := false, laid := [("ratline/mode.against", laid_ratline_mode_against)] }
def LocksNoneSaid : Prop := locksNoneRow.holds Tryz.pinned (OpenSpec.ofChange locksNoneSpec)

/-- ITS FALSE NEIGHBOUR: 'it returns false'. Refute it at one input. -/
def locksNoneWrong : ChangeSpec := { name := "locksNone", fn := fun _ => fun
  | [d] => { results := [.lit (.bool false)], args := [d] }
  | _ => none }
def LocksNoneWrongFalsely : Prop := locksNoneRow.holds Tryz.pinned (OpenSpec.ofChange locksNoneWrong)

/- THE SECOND FORM. 'bulk': how many values and letters a reading holds, each counted each time it is reached (what is shared counts as often as it is met; a slice's spare places count too). A statement '..UptoSaid' is the law's where the arguments, and the package variables that the reading takes, are together of bulk at most 1048576: NARROWER than '..Said'. Prove '..Said' where nothing that the law and all that it calls make is longer than what came in: it says more and counts as full. Else prove '..UptoSaid'. A law counts once. -/
mutual
def uptoBulk {H : Type} : DataW H → Nat
  | .lit (.string bytes) => bytes.length + 1
  | .lit _ => 1
  | .nil => 1
  | .ptr d => uptoBulk d + 1
  | .slice elems spare => uptoBulkAll elems + uptoBulkAll spare + 1
  | .agg parts => uptoBulkAll parts + 1
  | .iface _ d => uptoBulk d + 1
  | .map entries => uptoBulkEntries entries + 1
  | .held _ => 1
def uptoBulkAll {H : Type} : List (DataW H) → Nat
  | [] => 0
  | d :: r => uptoBulk d + uptoBulkAll r
def uptoBulkEntries {H : Type} : List (Lit × DataW H) → Nat
  | [] => 0
  | x :: r => uptoBulkEntry x + uptoBulkEntries r
def uptoBulkEntry {H : Type} : Lit × DataW H → Nat
  | (.string bytes, d) => bytes.length + uptoBulk d + 1
  | (_, d) => uptoBulk d + 1
 end
def uptoSmall : (H : Type) → List (DataW H) → Bool := fun _ ds => decide (uptoBulkAll ds ≤ 1048576)
def OpenSpec.upto (s : _root_.Go.ChangeSpec) : _root_.Go.OpenSpec := { _root_.Go.OpenSpec.ofChange s with cond := some uptoSmall }

/-- 'ratlinelaw11.LocksHands', WHERE WHAT IT READS IS OF BULK AT MOST 1048576: true; the input reads as it did. -/
def locksHandsUptoRow : OpenClaim := { program := "ytgljdkjepdknnaagreatdoor", sum := "3cb8540c91979a11617c9e28023281b1d0ee5ca528ea14433a86af8dadf6f079", func := "ratline/ratlinelaw11.LocksHands", spec := "locksHands", inPlace := ["slices.overlaps[ratline/fifo.entry[ratline/api.Claim]]"], unfollowed := true, recurses := true, named := ["ratline/mode.against"], apart := false, laid := [("ratline/mode.against", laid_ratline_mode_against)], narrowed := true }
def LocksHandsUptoSaid : Prop := locksHandsUptoRow.holds Tryz.pinned (OpenSpec.upto locksHandsSpec)

/-- 'ratlinelaw11.LocksTables', WHERE WHAT IT READS IS OF BULK AT MOST 1048576: true; the input reads as it did. -/
def locksTablesUptoRow : OpenClaim := { program := "ytgljdkjepdknnaagreatdoor", sum := "3cb8540c91979a11617c9e28023281b1d0ee5ca528ea14433a86af8dadf6f079", func := "ratline/ratlinelaw11.LocksTables", spec := "locksTables", inPlace := ["slices.overlaps[ratline/fifo.entry[ratline/api.Claim]]"], unfollowed := true, recurses := true, named := ["ratline/mode.against"], loops := true, apart := false, laid := [("ratline/mode.against", laid_ratline_mode_against)], narrowed := true }
def LocksTablesUptoSaid : Prop := locksTablesUptoRow.holds Tryz.pinned (OpenSpec.upto locksTablesSpec)

/-- 'ratlinelaw11.LocksRoom', WHERE WHAT IT READS IS OF BULK AT MOST 1048576: true; the input reads as it did. -/
def locksRoomUptoRow : OpenClaim := { program := "ytgljdkjepdknnaagreatdoor", sum := "3cb8540c91979a11617c9e28023281b1d0ee5ca528ea14433a86af8dadf6f079", func := "ratline/ratlinelaw11.LocksRoom", spec := "locksRoom", inPlace := ["slices.overlaps[ratline/fifo.entry[ratline/api.Claim]]"], unfollowed := true, recurses := true, named := ["ratline/mode.against"], loops := true, apart := false, laid := [("ratline/mode.against", laid_ratline_mode_against)], narrowed := true }
def LocksRoomUptoSaid : Prop := locksRoomUptoRow.holds Tryz.pinned (OpenSpec.upto locksRoomSpec)

/-- 'ratlinelaw11.LocksShare', WHERE WHAT IT READS IS OF BULK AT MOST 1048576: true; the input reads as it did. -/
def locksShareUptoRow : OpenClaim := { program := "ytgljdkjepdknnaagreatdoor", sum := "3cb8540c91979a11617c9e28023281b1d0ee5ca528ea14433a86af8dadf6f079", func := "ratline/ratlinelaw11.LocksShare", spec := "locksShare", inPlace := ["slices.overlaps[ratline/fifo.entry[ratline/api.Claim]]"], unfollowed := true, recurses := true, named := ["ratline/mode.against"], apart := false, laid := [("ratline/mode.against", laid_ratline_mode_against)], narrowed := true }
def LocksShareUptoSaid : Prop := locksShareUptoRow.holds Tryz.pinned (OpenSpec.upto locksShareSpec)

/-- 'ratlinelaw11.LocksPlays', WHERE WHAT IT READS IS OF BULK AT MOST 1048576: true; the input reads as it did. -/
def locksPlaysUptoRow : OpenClaim := { program := "ytgljdkjepdknnaagreatdoor", sum := "3cb8540c91979a11617c9e28023281b1d0ee5ca528ea14433a86af8dadf6f079", func := "ratline/ratlinelaw11.LocksPlays", spec := "locksPlays", inPlace := ["slices.overlaps[ratline/fifo.entry[ratline/api.Claim]]"], unfollowed := true, recurses := true, named := ["ratline/mode.against"], loops := true, apart := false, laid := [("ratline/mode.against", laid_ratline_mode_against)], narrowed := true }
def LocksPlaysUptoSaid : Prop := locksPlaysUptoRow.holds Tryz.pinned (OpenSpec.upto locksPlaysSpec)

/-- 'ratlinelaw11.LocksApart', WHERE WHAT IT READS IS OF BULK AT MOST 1048576: true; the input reads as it did. -/
def locksApartUptoRow : OpenClaim := { program := "ytgljdkjepdknnaagreatdoor", sum := "3cb8540c91979a11617c9e28023281b1d0ee5ca528ea14433a86af8dadf6f079", func := "ratline/ratlinelaw11.LocksApart", spec := "locksApart", inPlace := ["slices.overlaps[ratline/fifo.entry[ratline/api.Claim]]"], unfollowed := true, recurses := true, named := ["ratline/mode.against"], loops := true, apart := false, laid := [("ratline/mode.against", laid_ratline_mode_against)], narrowed := true }
def LocksApartUptoSaid : Prop := locksApartUptoRow.holds Tryz.pinned (OpenSpec.upto locksApartSpec)

/-- 'ratlinelaw11.LocksStays', WHERE WHAT IT READS IS OF BULK AT MOST 1048576: true; the input reads as it did. -/
def locksStaysUptoRow : OpenClaim := { program := "ytgljdkjepdknnaagreatdoor", sum := "3cb8540c91979a11617c9e28023281b1d0ee5ca528ea14433a86af8dadf6f079", func := "ratline/ratlinelaw11.LocksStays", spec := "locksStays", inPlace := ["slices.overlaps[ratline/fifo.entry[ratline/api.Claim]]"], unfollowed := true, recurses := true, named := ["ratline/mode.against"], loops := true, apart := false, laid := [("ratline/mode.against", laid_ratline_mode_against)], narrowed := true }
def LocksStaysUptoSaid : Prop := locksStaysUptoRow.holds Tryz.pinned (OpenSpec.upto locksStaysSpec)

/-- 'ratlinelaw11.LocksNone', WHERE WHAT IT READS IS OF BULK AT MOST 1048576: true; the input reads as it did. -/
def locksNoneUptoRow : OpenClaim := { program := "ytgljdkjepdknnaagreatdoor", sum := "3cb8540c91979a11617c9e28023281b1d0ee5ca528ea14433a86af8dadf6f079", func := "ratline/ratlinelaw11.LocksNone", spec := "locksNone", inPlace := ["slices.overlaps[ratline/fifo.entry[ratline/api.Claim]]"], unfollowed := true, recurses := true, named := ["ratline/mode.against"], loops := true, apart := false, laid := [("ratline/mode.against", laid_ratline_mode_against)], narrowed := true }
def LocksNoneUptoSaid : Prop := locksNoneUptoRow.holds Tryz.pinned (OpenSpec.upto locksNoneSpec)

end Rows
end Go.Proofs.YtgljdkjepdknnaaGreatDoor

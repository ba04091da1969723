/-
  No cell of these rows narrows 'for every input' (looked for: loops, veiled, ifaces, maps, wideKeys, modest, calm, conditions, laid).
  DERIVED. THE GIVEN ROWS OF THIS SEAT. 7 by the template 'for every input the law returns true; each argument reads behind the call as it read before'; 0 by the template 'total and deterministic' (their statements: YtjijemeabfiipaaTotals.lean).
  GIVEN WITH THE SEED: the statements are not yours to turn. If you find one false, say at which input.
  Laid BY PROGRAM, IN A SANDBOX (cutbox-rows.mjs): the forced cells as the released guide's own fill.sh prints them over the translation bd8cadb07b8fba25… (all of the seat's roots in one cut). By AI agents, Wed Nov 11 2026. No macro, syntax, notation, axiom, sorry.
-/
import Derived.Test.YtjijemeabfiipaaChecked
import GoSem.Claim
import GoSem.ClaimJoined
import GoSem.ClaimMapViews
import Derived.JoinedTies
import Derived.KernelRfl
namespace Go.Proofs.Ytjijemeabfiipaa
/- THE CELL 'sum', in the pinned program and in every row, IS THE sha256 OF THE DUMP (.gsa) THAT YtjijemeabfiipaaProg.lean LOADS. Nothing in Lean hashes anything: it is a label: what it is worth is what the hold of that sum in a sandbox is worth. -/
noncomputable def Try.pinned : Pinned := { name := "ytjijemeabfiipaa", sum := "bd8cadb07b8fba25c47a893aae2fac48e5edb57082d2a387c54dc532cbf18924", checked := Try.checked }
namespace Rows
def none {H : Type} : Left H := { results := [], args := [] }

/-- 'ratlinelaw05.TreeStops': WHATEVER THE INPUT: true; the input reads as it did. -/
def treeStopsSpec : ChangeSpec := { name := "treeStops", fn := fun _ => fun
  | [d1, d2, d3] => { results := [.lit (.bool true)], args := [d1, d2, d3] }
  | _ => none }
def treeStopsRow : OpenClaim := { program := "ytjijemeabfiipaa", sum := "bd8cadb07b8fba25c47a893aae2fac48e5edb57082d2a387c54dc532cbf18924", func := "ratline/ratlinelaw05.TreeStops", spec := "treeStops", inPlace := ["slices.overlaps[ratline/api.Value]", "slices.overlaps[int]"], unfollowed := true, recurses := true, apart := false }
def TreeStopsSaid : Prop := treeStopsRow.holds Try.pinned (OpenSpec.ofChange treeStopsSpec)

/-- ITS FALSE NEIGHBOUR: 'it returns false'. Refute it at one input. -/
def treeStopsWrong : ChangeSpec := { name := "treeStops", fn := fun _ => fun
  | [d1, d2, d3] => { results := [.lit (.bool false)], args := [d1, d2, d3] }
  | _ => none }
def TreeStopsWrongFalsely : Prop := treeStopsRow.holds Try.pinned (OpenSpec.ofChange treeStopsWrong)

/-- 'ratlinelaw05.TreeRanges': WHATEVER THE INPUT: true; the input reads as it did. -/
def treeRangesSpec : ChangeSpec := { name := "treeRanges", fn := fun _ => fun
  | [d1, d2] => { results := [.lit (.bool true)], args := [d1, d2] }
  | _ => none }
def treeRangesRow : OpenClaim := { program := "ytjijemeabfiipaa", sum := "bd8cadb07b8fba25c47a893aae2fac48e5edb57082d2a387c54dc532cbf18924", func := "ratline/ratlinelaw05.TreeRanges", spec := "treeRanges", inPlace := ["slices.overlaps[ratline/api.Value]", "slices.overlaps[int]"], unfollowed := true, recurses := true, apart := false }
def TreeRangesSaid : Prop := treeRangesRow.holds Try.pinned (OpenSpec.ofChange treeRangesSpec)

/-- ITS FALSE NEIGHBOUR: 'it returns false'. Refute it at one input. -/
def treeRangesWrong : ChangeSpec := { name := "treeRanges", fn := fun _ => fun
  | [d1, d2] => { results := [.lit (.bool false)], args := [d1, d2] }
  | _ => none }
def TreeRangesWrongFalsely : Prop := treeRangesRow.holds Try.pinned (OpenSpec.ofChange treeRangesWrong)

/-- 'ratlinelaw05.TreeOrders': WHATEVER THE INPUT: true; the input reads as it did. -/
def treeOrdersSpec : ChangeSpec := { name := "treeOrders", fn := fun _ => fun
  | [d1, d2] => { results := [.lit (.bool true)], args := [d1, d2] }
  | _ => none }
def treeOrdersRow : OpenClaim := { program := "ytjijemeabfiipaa", sum := "bd8cadb07b8fba25c47a893aae2fac48e5edb57082d2a387c54dc532cbf18924", func := "ratline/ratlinelaw05.TreeOrders", spec := "treeOrders", inPlace := ["slices.overlaps[ratline/api.Value]", "slices.overlaps[int]"], unfollowed := true, recurses := true, apart := false }
def TreeOrdersSaid : Prop := treeOrdersRow.holds Try.pinned (OpenSpec.ofChange treeOrdersSpec)

/-- ITS FALSE NEIGHBOUR: 'it returns false'. Refute it at one input. -/
def treeOrdersWrong : ChangeSpec := { name := "treeOrders", fn := fun _ => fun
  | [d1, d2] => { results := [.lit (.bool false)], args := [d1, d2] }
  | _ => none }
def TreeOrdersWrongFalsely : Prop := treeOrdersRow.holds Try.pinned (OpenSpec.ofChange treeOrdersWrong)

/-- 'ratlinelaw05.TreeShapes': WHATEVER THE INPUT: true; the input reads as it did. -/
def treeShapesSpec : ChangeSpec := { name := "treeShapes", fn := fun _ => fun
  | [d] => { results := [.lit (.bool true)], args := [d] }
  | _ => none }
def treeShapesRow : OpenClaim := { program := "ytjijemeabfiipaa", sum := "bd8cadb07b8fba25c47a893aae2fac48e5edb57082d2a387c54dc532cbf18924", func := "ratline/ratlinelaw05.TreeShapes", spec := "treeShapes", inPlace := ["slices.overlaps[ratline/api.Value]", "slices.overlaps[int]"], unfollowed := true, recurses := true, apart := false }
def TreeShapesSaid : Prop := treeShapesRow.holds Try.pinned (OpenSpec.ofChange treeShapesSpec)

/-- ITS FALSE NEIGHBOUR: 'it returns false'. Refute it at one input. -/
def treeShapesWrong : ChangeSpec := { name := "treeShapes", fn := fun _ => fun
  | [d] => { results := [.lit (.bool false)], args := [d] }
  | _ => none }
def TreeShapesWrongFalsely : Prop := treeShapesRow.holds Try.pinned (OpenSpec.ofChange treeShapesWrong)

/-- 'ratlinelaw05.TreePlays': WHATEVER THE INPUT: true; the input reads as it did. -/
def treePlaysSpec : ChangeSpec := { name := "treePlays", fn := fun _ => fun
  | [d] => { results := [.lit (.bool true)], args := [d] }
  | _ => none }
def treePlaysRow : OpenClaim := { program := "ytjijemeabfiipaa", sum := "bd8cadb07b8fba25c47a893aae2fac48e5edb57082d2a387c54dc532cbf18924", func := "ratline/ratlinelaw05.TreePlays", spec := "treePlays", inPlace := ["slices.overlaps[ratline/api.Value]", "slices.overlaps[int]"], unfollowed := true, recurses := true, apart := false }
def TreePlaysSaid : Prop := treePlaysRow.holds Try.pinned (OpenSpec.ofChange treePlaysSpec)

/-- ITS FALSE NEIGHBOUR: 'it returns false'. Refute it at one input. -/
def treePlaysWrong : ChangeSpec := { name := "treePlays", fn := fun _ => fun
  | [d] => { results := [.lit (.bool false)], args := [d] }
  | _ => none }
def TreePlaysWrongFalsely : Prop := treePlaysRow.holds Try.pinned (OpenSpec.ofChange treePlaysWrong)

/-- 'ratlinelaw05.TreeChanges': WHATEVER THE INPUT: true; the input reads as it did. -/
def treeChangesSpec : ChangeSpec := { name := "treeChanges", fn := fun _ => fun
  | [d1, d2, d3] => { results := [.lit (.bool true)], args := [d1, d2, d3] }
  | _ => none }
def treeChangesRow : OpenClaim := { program := "ytjijemeabfiipaa", sum := "bd8cadb07b8fba25c47a893aae2fac48e5edb57082d2a387c54dc532cbf18924", func := "ratline/ratlinelaw05.TreeChanges", spec := "treeChanges", inPlace := ["slices.overlaps[ratline/api.Value]", "slices.overlaps[int]"], unfollowed := true, recurses := true, apart := false }
def TreeChangesSaid : Prop := treeChangesRow.holds Try.pinned (OpenSpec.ofChange treeChangesSpec)

/-- ITS FALSE NEIGHBOUR: 'it returns false'. Refute it at one input. -/
def treeChangesWrong : ChangeSpec := { name := "treeChanges", fn := fun _ => fun
  | [d1, d2, d3] => { results := [.lit (.bool false)], args := [d1, d2, d3] }
  | _ => none }
def TreeChangesWrongFalsely : Prop := treeChangesRow.holds Try.pinned (OpenSpec.ofChange treeChangesWrong)

/-- 'ratlinelaw05.TreeNone': WHATEVER THE INPUT: true; the input reads as it did. -/
def treeNoneSpec : ChangeSpec := { name := "treeNone", fn := fun _ => fun
  | [d1, d2] => { results := [.lit (.bool true)], args := [d1, d2] }
  | _ => none }
def treeNoneRow : OpenClaim := { program := "ytjijemeabfiipaa", sum := "bd8cadb07b8fba25c47a893aae2fac48e5edb57082d2a387c54dc532cbf18924", func := "ratline/ratlinelaw05.TreeNone", spec := "treeNone", inPlace := ["slices.overlaps[ratline/api.Value]", "slices.overlaps[int]"], unfollowed := true, recurses := true, apart := false }
def TreeNoneSaid : Prop := treeNoneRow.holds Try.pinned (OpenSpec.ofChange treeNoneSpec)

/-- ITS FALSE NEIGHBOUR: 'it returns false'. Refute it at one input. -/
def treeNoneWrong : ChangeSpec := { name := "treeNone", fn := fun _ => fun
  | [d1, d2] => { results := [.lit (.bool false)], args := [d1, d2] }
  | _ => none }
def TreeNoneWrongFalsely : Prop := treeNoneRow.holds Try.pinned (OpenSpec.ofChange treeNoneWrong)

/- THE SECOND FORM. 'bulk': how many values and letters a reading holds, each counted each time it is reached (what is shared counts as often as it is met; a slice's spare places count too). A statement '..UptoSaid' is the law's where the arguments, and the package variables that the reading takes, are together of bulk at most 1048576: NARROWER than '..Said'. Prove '..Said' where nothing that the law and all that it calls make is longer than what came in: it says more and counts as full. Else prove '..UptoSaid'. A law counts once. -/
mutual
def uptoBulk {H : Type} : DataW H → Nat
  | .lit (.string bytes) => bytes.length + 1
  | .lit _ => 1
  | .nil => 1
  | .ptr d => uptoBulk d + 1
  | .slice elems spare => uptoBulkAll elems + uptoBulkAll spare + 1
  | .agg parts => uptoBulkAll parts + 1
  | .iface _ d => uptoBulk d + 1
  | .map entries => uptoBulkEntries entries + 1
  | .held _ => 1
def uptoBulkAll {H : Type} : List (DataW H) → Nat
  | [] => 0
  | d :: r => uptoBulk d + uptoBulkAll r
def uptoBulkEntries {H : Type} : List (Lit × DataW H) → Nat
  | [] => 0
  | x :: r => uptoBulkEntry x + uptoBulkEntries r
def uptoBulkEntry {H : Type} : Lit × DataW H → Nat
  | (.string bytes, d) => bytes.length + uptoBulk d + 1
  | (_, d) => uptoBulk d + 1
 end
def uptoSmall : (H : Type) → List (DataW H) → Bool := fun _ ds => decide (uptoBulkAll ds ≤ 1048576)
def OpenSpec.upto (s : _root_.Go.ChangeSpec) : _root_.Go.OpenSpec := { _root_.Go.OpenSpec.ofChange s with cond := some uptoSmall }

/-- 'ratlinelaw05.TreeStops', WHERE WHAT IT READS IS OF BULK AT MOST 1048576: true; the input reads as it did. -/
def treeStopsUptoRow : OpenClaim := { program := "ytjijemeabfiipaa", sum := "bd8cadb07b8fba25c47a893aae2fac48e5edb57082d2a387c54dc532cbf18924", func := "ratline/ratlinelaw05.TreeStops", spec := "treeStops", inPlace := ["slices.overlaps[ratline/api.Value]", "slices.overlaps[int]"], unfollowed := true, recurses := true, apart := false, narrowed := true }
def TreeStopsUptoSaid : Prop := treeStopsUptoRow.holds Try.pinned (OpenSpec.upto treeStopsSpec)

/-- 'ratlinelaw05.TreeRanges', WHERE WHAT IT READS IS OF BULK AT MOST 1048576: true; the input reads as it did. -/
def treeRangesUptoRow : OpenClaim := { program := "ytjijemeabfiipaa", sum := "bd8cadb07b8fba25c47a893aae2fac48e5edb57082d2a387c54dc532cbf18924", func := "ratline/ratlinelaw05.TreeRanges", spec := "treeRanges", inPlace := ["slices.overlaps[ratline/api.Value]", "slices.overlaps[int]"], unfollowed := true, recurses := true, apart := false, narrowed := true }
def TreeRangesUptoSaid : Prop := treeRangesUptoRow.holds Try.pinned (OpenSpec.upto treeRangesSpec)

/-- 'ratlinelaw05.TreeOrders', WHERE WHAT IT READS IS OF BULK AT MOST 1048576: true; the input reads as it did. -/
def treeOrdersUptoRow : OpenClaim := { program := "ytjijemeabfiipaa", sum := "bd8cadb07b8fba25c47a893aae2fac48e5edb57082d2a387c54dc532cbf18924", func := "ratline/ratlinelaw05.TreeOrders", spec := "treeOrders", inPlace := ["slices.overlaps[ratline/api.Value]", "slices.overlaps[int]"], unfollowed := true, recurses := true, apart := false, narrowed := true }
def TreeOrdersUptoSaid : Prop := treeOrdersUptoRow.holds Try.pinned (OpenSpec.upto treeOrdersSpec)

/-- 'ratlinelaw05.TreeShapes', WHERE WHAT IT READS IS OF BULK AT MOST 1048576: true; the input reads as it did. -/
def treeShapesUptoRow : OpenClaim := { program := "ytjijemeabfiipaa", sum := "bd8cadb07b8fba25c47a893aae2fac48e5edb57082d2a387c54dc532cbf18924", func := "ratline/ratlinelaw05.TreeShapes", spec := "treeShapes", inPlace := ["slices.overlaps[ratline/api.Value]", "slices.overlaps[int]"], unfollowed := true, recurses := true, apart := false, narrowed := true }
def TreeShapesUptoSaid : Prop := treeShapesUptoRow.holds Try.pinned (OpenSpec.upto treeShapesSpec)

/-- 'ratlinelaw05.TreePlays', WHERE WHAT IT READS IS OF BULK AT MOST 1048576: true; the input reads as it did. -/
def treePlaysUptoRow : OpenClaim := { program := "ytjijemeabfiipaa", sum := "bd8cadb07b8fba25c47a893aae2fac48e5edb57082d2a387c54dc532cbf18924", func := "ratline/ratlinelaw05.TreePlays", spec := "treePlays", inPlace := ["slices.overlaps[ratline/api.Value]", "slices.overlaps[int]"], unfollowed := true, recurses := true, apart := false, narrowed := true }
def TreePlaysUptoSaid : Prop := treePlaysUptoRow.holds Try.pinned (OpenSpec.upto treePlaysSpec)

/-- 'ratlinelaw05.TreeChanges', WHERE WHAT IT READS IS OF BULK AT MOST 1048576: true; the input reads as it did. -/
def treeChangesUptoRow : OpenClaim := { program := "ytjijemeabfiipaa", sum := "bd8cadb07b8fba25c47a893aae2fac48e5edb57082d2a387c54dc532cbf18924", func := "ratline/ratlinelaw05.TreeChanges", spec := "treeChanges", inPlace := ["slices.overlaps[ratline/api.Value]", "slices.overlaps[int]"], unfollowed := true, recurses := true, apart := false, narrowed := true }
def TreeChangesUptoSaid : Prop := treeChangesUptoRow.holds Try.pinned (OpenSpec.upto treeChangesSpec)

/-- 'ratlinelaw05.TreeNone', WHERE WHAT IT READS IS OF BULK AT MOST 1048576: true; the input reads as it did. -/
def treeNoneUptoRow : OpenClaim := { program := "ytjijemeabfiipaa", sum := "bd8cadb07b8fba25c47a893aae2fac48e5edb57082d2a387c54dc532cbf18924", func := "ratline/ratlinelaw05.TreeNone", spec := "treeNone", inPlace := ["slices.overlaps[ratline/api.Value]", "slices.overlaps[int]"], unfollowed := true, recurses := true, apart := false, narrowed := true }
def TreeNoneUptoSaid : Prop := treeNoneUptoRow.holds Try.pinned (OpenSpec.upto treeNoneSpec)

end Rows
end Go.Proofs.Ytjijemeabfiipaa

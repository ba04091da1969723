/-
  No cell of these rows narrows 'for every input' (looked for: loops, veiled, ifaces, maps, wideKeys, modest, calm, conditions, laid).
  DERIVED. THE GIVEN ROWS OF THIS SEAT. 6 by the template 'for every input the law returns true; each argument reads behind the call as it read before'; 0 by the template 'total and deterministic' (their statements: YtcbklkcpjldcjaaTotals.lean).
  GIVEN WITH THE SEED: the statements are not yours to turn. If you find one false, say at which input.
  Laid BY PROGRAM, IN A SANDBOX (cutbox-rows.mjs): the forced cells as the released guide's own fill.sh prints them over the translation 200e64f1f10fa059… (all of the seat's roots in one cut). By AI agents, Wed Nov 11 2026. No macro, syntax, notation, axiom, sorry.
-/
import Derived.Test.YtcbklkcpjldcjaaChecked
import GoSem.Claim
import GoSem.ClaimJoined
import GoSem.ClaimMapViews
import Derived.JoinedTies
import Derived.KernelRfl
namespace Go.Proofs.Ytcbklkcpjldcjaa
/- THE CELL 'sum', in the pinned program and in every row, IS THE sha256 OF THE DUMP (.gsa) THAT YtcbklkcpjldcjaaProg.lean LOADS. Nothing in Lean hashes anything: it is a label: what it is worth is what the hold of that sum in a sandbox is worth. -/
noncomputable def Try.pinned : Pinned := { name := "ytcbklkcpjldcjaa", sum := "200e64f1f10fa0593440666dd6ef6670f923b1a4bb6f6e32c9bb7dbdfbb9ff99", checked := Try.checked }
namespace Rows
def none {H : Type} : Left H := { results := [], args := [] }

/-- 'ratlinelaw06.StoreOwn': WHATEVER THE INPUT: true; the input reads as it did. -/
def storeOwnSpec : ChangeSpec := { name := "storeOwn", fn := fun _ => fun
  | [d1, d2] => { results := [.lit (.bool true)], args := [d1, d2] }
  | _ => none }
def storeOwnRow : OpenClaim := { program := "ytcbklkcpjldcjaa", sum := "200e64f1f10fa0593440666dd6ef6670f923b1a4bb6f6e32c9bb7dbdfbb9ff99", func := "ratline/ratlinelaw06.StoreOwn", spec := "storeOwn", inPlace := ["slices.overlaps[ratline/api.Value]", "slices.overlaps[ratline/store.slot]", "slices.overlaps[int]"], unfollowed := true, recurses := true, apart := false }
def StoreOwnSaid : Prop := storeOwnRow.holds Try.pinned (OpenSpec.ofChange storeOwnSpec)

/-- ITS FALSE NEIGHBOUR: 'it returns false'. Refute it at one input. -/
def storeOwnWrong : ChangeSpec := { name := "storeOwn", fn := fun _ => fun
  | [d1, d2] => { results := [.lit (.bool false)], args := [d1, d2] }
  | _ => none }
def StoreOwnWrongFalsely : Prop := storeOwnRow.holds Try.pinned (OpenSpec.ofChange storeOwnWrong)

/-- 'ratlinelaw06.StoreTraces': WHATEVER THE INPUT: true; the input reads as it did. -/
def storeTracesSpec : ChangeSpec := { name := "storeTraces", fn := fun _ => fun
  | [d1, d2, d3] => { results := [.lit (.bool true)], args := [d1, d2, d3] }
  | _ => none }
def storeTracesRow : OpenClaim := { program := "ytcbklkcpjldcjaa", sum := "200e64f1f10fa0593440666dd6ef6670f923b1a4bb6f6e32c9bb7dbdfbb9ff99", func := "ratline/ratlinelaw06.StoreTraces", spec := "storeTraces", inPlace := ["slices.overlaps[ratline/api.Value]", "slices.overlaps[ratline/store.slot]", "slices.overlaps[int]"], unfollowed := true, recurses := true, apart := false }
def StoreTracesSaid : Prop := storeTracesRow.holds Try.pinned (OpenSpec.ofChange storeTracesSpec)

/-- ITS FALSE NEIGHBOUR: 'it returns false'. Refute it at one input. -/
def storeTracesWrong : ChangeSpec := { name := "storeTraces", fn := fun _ => fun
  | [d1, d2, d3] => { results := [.lit (.bool false)], args := [d1, d2, d3] }
  | _ => none }
def StoreTracesWrongFalsely : Prop := storeTracesRow.holds Try.pinned (OpenSpec.ofChange storeTracesWrong)

/-- 'ratlinelaw06.StorePlays': WHATEVER THE INPUT: true; the input reads as it did. -/
def storePlaysSpec : ChangeSpec := { name := "storePlays", fn := fun _ => fun
  | [d1, d2, d3] => { results := [.lit (.bool true)], args := [d1, d2, d3] }
  | _ => none }
def storePlaysRow : OpenClaim := { program := "ytcbklkcpjldcjaa", sum := "200e64f1f10fa0593440666dd6ef6670f923b1a4bb6f6e32c9bb7dbdfbb9ff99", func := "ratline/ratlinelaw06.StorePlays", spec := "storePlays", inPlace := ["slices.overlaps[ratline/api.Value]", "slices.overlaps[ratline/store.slot]", "slices.overlaps[int]"], unfollowed := true, recurses := true, apart := false }
def StorePlaysSaid : Prop := storePlaysRow.holds Try.pinned (OpenSpec.ofChange storePlaysSpec)

/-- ITS FALSE NEIGHBOUR: 'it returns false'. Refute it at one input. -/
def storePlaysWrong : ChangeSpec := { name := "storePlays", fn := fun _ => fun
  | [d1, d2, d3] => { results := [.lit (.bool false)], args := [d1, d2, d3] }
  | _ => none }
def StorePlaysWrongFalsely : Prop := storePlaysRow.holds Try.pinned (OpenSpec.ofChange storePlaysWrong)

/-- 'ratlinelaw06.StoreRoom': WHATEVER THE INPUT: true; the input reads as it did. -/
def storeRoomSpec : ChangeSpec := { name := "storeRoom", fn := fun _ => fun
  | [d1, d2, d3] => { results := [.lit (.bool true)], args := [d1, d2, d3] }
  | _ => none }
def storeRoomRow : OpenClaim := { program := "ytcbklkcpjldcjaa", sum := "200e64f1f10fa0593440666dd6ef6670f923b1a4bb6f6e32c9bb7dbdfbb9ff99", func := "ratline/ratlinelaw06.StoreRoom", spec := "storeRoom", inPlace := ["slices.overlaps[ratline/api.Value]", "slices.overlaps[ratline/store.slot]", "slices.overlaps[int]"], unfollowed := true, recurses := true, apart := false }
def StoreRoomSaid : Prop := storeRoomRow.holds Try.pinned (OpenSpec.ofChange storeRoomSpec)

/-- ITS FALSE NEIGHBOUR: 'it returns false'. Refute it at one input. -/
def storeRoomWrong : ChangeSpec := { name := "storeRoom", fn := fun _ => fun
  | [d1, d2, d3] => { results := [.lit (.bool false)], args := [d1, d2, d3] }
  | _ => none }
def StoreRoomWrongFalsely : Prop := storeRoomRow.holds Try.pinned (OpenSpec.ofChange storeRoomWrong)

/-- 'ratlinelaw06.StoreOrders': WHATEVER THE INPUT: true; the input reads as it did. -/
def storeOrdersSpec : ChangeSpec := { name := "storeOrders", fn := fun _ => fun
  | [d1, d2, d3] => { results := [.lit (.bool true)], args := [d1, d2, d3] }
  | _ => none }
def storeOrdersRow : OpenClaim := { program := "ytcbklkcpjldcjaa", sum := "200e64f1f10fa0593440666dd6ef6670f923b1a4bb6f6e32c9bb7dbdfbb9ff99", func := "ratline/ratlinelaw06.StoreOrders", spec := "storeOrders", inPlace := ["slices.overlaps[ratline/api.Value]", "slices.overlaps[ratline/store.slot]", "slices.overlaps[int]"], unfollowed := true, recurses := true, apart := false }
def StoreOrdersSaid : Prop := storeOrdersRow.holds Try.pinned (OpenSpec.ofChange storeOrdersSpec)

/-- ITS FALSE NEIGHBOUR: 'it returns false'. Refute it at one input. -/
def storeOrdersWrong : ChangeSpec := { name := "storeOrders", fn := fun _ => fun
  | [d1, d2, d3] => { results := [.lit (.bool false)], args := [d1, d2, d3] }
  | _ => none }
def StoreOrdersWrongFalsely : Prop := storeOrdersRow.holds Try.pinned (OpenSpec.ofChange storeOrdersWrong)

/-- 'ratlinelaw06.StoreNumbers': WHATEVER THE INPUT: true; the input reads as it did. -/
def storeNumbersSpec : ChangeSpec := { name := "storeNumbers", fn := fun _ => fun
  | [d1, d2, d3] => { results := [.lit (.bool true)], args := [d1, d2, d3] }
  | _ => none }
def storeNumbersRow : OpenClaim := { program := "ytcbklkcpjldcjaa", sum := "200e64f1f10fa0593440666dd6ef6670f923b1a4bb6f6e32c9bb7dbdfbb9ff99", func := "ratline/ratlinelaw06.StoreNumbers", spec := "storeNumbers", inPlace := ["slices.overlaps[ratline/api.Value]", "slices.overlaps[ratline/store.slot]", "slices.overlaps[int]"], unfollowed := true, recurses := true, apart := false }
def StoreNumbersSaid : Prop := storeNumbersRow.holds Try.pinned (OpenSpec.ofChange storeNumbersSpec)

/-- ITS FALSE NEIGHBOUR: 'it returns false'. Refute it at one input. -/
def storeNumbersWrong : ChangeSpec := { name := "storeNumbers", fn := fun _ => fun
  | [d1, d2, d3] => { results := [.lit (.bool false)], args := [d1, d2, d3] }
  | _ => none }
def StoreNumbersWrongFalsely : Prop := storeNumbersRow.holds Try.pinned (OpenSpec.ofChange storeNumbersWrong)

/- THE SECOND FORM. 'bulk': how many values and letters a reading holds, each counted each time it is reached (what is shared counts as often as it is met; a slice's spare places count too). A statement '..UptoSaid' is the law's where the arguments, and the package variables that the reading takes, are together of bulk at most 1048576: NARROWER than '..Said'. Prove '..Said' where nothing that the law and all that it calls make is longer than what came in: it says more and counts as full. Else prove '..UptoSaid'. A law counts once. -/
mutual
def uptoBulk {H : Type} : DataW H → Nat
  | .lit (.string bytes) => bytes.length + 1
  | .lit _ => 1
  | .nil => 1
  | .ptr d => uptoBulk d + 1
  | .slice elems spare => uptoBulkAll elems + uptoBulkAll spare + 1
  | .agg parts => uptoBulkAll parts + 1
  | .iface _ d => uptoBulk d + 1
  | .map entries => uptoBulkEntries entries + 1
  | .held _ => 1
def uptoBulkAll {H : Type} : List (DataW H) → Nat
  | [] => 0
  | d :: r => uptoBulk d + uptoBulkAll r
def uptoBulkEntries {H : Type} : List (Lit × DataW H) → Nat
  | [] => 0
  | x :: r => uptoBulkEntry x + uptoBulkEntries r
def uptoBulkEntry {H : Type} : Lit × DataW H → Nat
  | (.string bytes, d) => bytes.length + uptoBulk d + 1
  | (_, d) => uptoBulk d + 1
 end
def uptoSmall : (H : Type) → List (DataW H) → Bool := fun _ ds => decide (uptoBulkAll ds ≤ 1048576)
def OpenSpec.upto (s : _root_.Go.ChangeSpec) : _root_.Go.OpenSpec := { _root_.Go.OpenSpec.ofChange s with cond := some uptoSmall }

/-- 'ratlinelaw06.StoreOwn', WHERE WHAT IT READS IS OF BULK AT MOST 1048576: true; the input reads as it did. -/
def storeOwnUptoRow : OpenClaim := { program := "ytcbklkcpjldcjaa", sum := "200e64f1f10fa0593440666dd6ef6670f923b1a4bb6f6e32c9bb7dbdfbb9ff99", func := "ratline/ratlinelaw06.StoreOwn", spec := "storeOwn", inPlace := ["slices.overlaps[ratline/api.Value]", "slices.overlaps[ratline/store.slot]", "slices.overlaps[int]"], unfollowed := true, recurses := true, apart := false, narrowed := true }
def StoreOwnUptoSaid : Prop := storeOwnUptoRow.holds Try.pinned (OpenSpec.upto storeOwnSpec)

/-- 'ratlinelaw06.StoreTraces', WHERE WHAT IT READS IS OF BULK AT MOST 1048576: true; the input reads as it did. -/
def storeTracesUptoRow : OpenClaim := { program := "ytcbklkcpjldcjaa", sum := "200e64f1f10fa0593440666dd6ef6670f923b1a4bb6f6e32c9bb7dbdfbb9ff99", func := "ratline/ratlinelaw06.StoreTraces", spec := "storeTraces", inPlace := ["slices.overlaps[ratline/api.Value]", "slices.overlaps[ratline/store.slot]", "slices.overlaps[int]"], unfollowed := true, recurses := true, apart := false, narrowed := true }
def StoreTracesUptoSaid : Prop := storeTracesUptoRow.holds Try.pinned (OpenSpec.upto storeTracesSpec)

/-- 'ratlinelaw06.StorePlays', WHERE WHAT IT READS IS OF BULK AT MOST 1048576: true; the input reads as it did. -/
def storePlaysUptoRow : OpenClaim := { program := "ytcbklkcpjldcjaa", sum := "200e64f1f10fa0593440666dd6ef6670f923b1a4bb6f6e32c9bb7dbdfbb9ff99", func := "ratline/ratlinelaw06.StorePlays", spec := "storePlays", inPlace := ["slices.overlaps[ratline/api.Value]", "slices.overlaps[ratline/store.slot]", "slices.overlaps[int]"], unfollowed := true, recurses := true, apart := false, narrowed := true }
def StorePlaysUptoSaid : Prop := storePlaysUptoRow.holds Try.pinned (OpenSpec.upto storePlaysSpec)

/-- 'ratlinelaw06.StoreRoom', WHERE WHAT IT READS IS OF BULK AT MOST 1048576: true; the input reads as it did. -/
def storeRoomUptoRow : OpenClaim := { program := "ytcbklkcpjldcjaa", sum := "200e64f1f10fa0593440666dd6ef6670f923b1a4bb6f6e32c9bb7dbdfbb9ff99", func := "ratline/ratlinelaw06.StoreRoom", spec := "storeRoom", inPlace := ["slices.overlaps[ratline/api.Value]", "slices.overlaps[ratline/store.slot]", "slices.overlaps[int]"], unfollowed := true, recurses := true, apart := false, narrowed := true }
def StoreRoomUptoSaid : Prop := storeRoomUptoRow.holds Try.pinned (OpenSpec.upto storeRoomSpec)

/-- 'ratlinelaw06.StoreOrders', WHERE WHAT IT READS IS OF BULK AT MOST 1048576: true; the input reads as it did. -/
def storeOrdersUptoRow : OpenClaim := { program := "ytcbklkcpjldcjaa", sum := "200e64f1f10fa0593440666dd6ef6670f923b1a4bb6f6e32c9bb7dbdfbb9ff99", func := "ratline/ratlinelaw06.StoreOrders", spec := "storeOrders", inPlace := ["slices.overlaps[ratline/api.Value]", "slices.overlaps[ratline/store.slot]", "slices.overlaps[int]"], unfollowed := true, recurses := true, apart := false, narrowed := true }
def StoreOrdersUptoSaid : Prop := storeOrdersUptoRow.holds Try.pinned (OpenSpec.upto storeOrdersSpec)

/-- 'ratlinelaw06.StoreNumbers', WHERE WHAT IT READS IS OF BULK AT MOST 1048576: true; the input reads as it did. -/
def storeNumbersUptoRow : OpenClaim := { program := "ytcbklkcpjldcjaa", sum := "200e64f1f10fa0593440666dd6ef6670f923b1a4bb6f6e32c9bb7dbdfbb9ff99", func := "ratline/ratlinelaw06.StoreNumbers", spec := "storeNumbers", inPlace := ["slices.overlaps[ratline/api.Value]", "slices.overlaps[ratline/store.slot]", "slices.overlaps[int]"], unfollowed := true, recurses := true, apart := false, narrowed := true }
def StoreNumbersUptoSaid : Prop := storeNumbersUptoRow.holds Try.pinned (OpenSpec.upto storeNumbersSpec)

end Rows
end Go.Proofs.Ytcbklkcpjldcjaa

/-
  No cell of these rows narrows 'for every input' (looked for: loops, veiled, ifaces, maps, wideKeys, modest, calm, conditions, laid).
  DERIVED. THE GIVEN ROWS OF THIS SEAT. 5 by the template 'for every input the law returns true; each argument reads behind the call as it read before'; 0 by the template 'total and deterministic' (their statements: YtokcpmeoiblpfaaTotals.lean).
  GIVEN WITH THE SEED: the statements are not yours to turn. If you find one false, say at which input.
  Laid BY PROGRAM, IN A SANDBOX (cutbox-rows.mjs): the forced cells as the released guide's own fill.sh prints them over the translation 117f041751afe2b8… (all of the seat's roots in one cut). By AI agents, Wed Nov 11 2026. No macro, syntax, notation, axiom, sorry.
-/
import Derived.Test.YtokcpmeoiblpfaaChecked
import GoSem.Claim
import GoSem.ClaimJoined
import GoSem.ClaimMapViews
import Derived.JoinedTies
import Derived.KernelRfl
namespace Go.Proofs.Ytokcpmeoiblpfaa
/- THE CELL 'sum', in the pinned program and in every row, IS THE sha256 OF THE DUMP (.gsa) THAT YtokcpmeoiblpfaaProg.lean LOADS. Nothing in Lean hashes anything: it is a label: what it is worth is what the hold of that sum in a sandbox is worth. -/
noncomputable def Try.pinned : Pinned := { name := "ytokcpmeoiblpfaa", sum := "117f041751afe2b81a5aaafdb929d5b0e2a1f8c5db69735f8c487a0d19b238c6", checked := Try.checked }
namespace Rows
def none {H : Type} : Left H := { results := [], args := [] }

/-- 'ratlinelaw07.UndoSaves': WHATEVER THE INPUT: true; the input reads as it did. -/
def undoSavesSpec : ChangeSpec := { name := "undoSaves", fn := fun _ => fun
  | [d1, d2, d3] => { results := [.lit (.bool true)], args := [d1, d2, d3] }
  | _ => none }
def undoSavesRow : OpenClaim := { program := "ytokcpmeoiblpfaa", sum := "117f041751afe2b81a5aaafdb929d5b0e2a1f8c5db69735f8c487a0d19b238c6", func := "ratline/ratlinelaw07.UndoSaves", spec := "undoSaves", plainKeys := false, apart := false }
def UndoSavesSaid : Prop := undoSavesRow.holds Try.pinned (OpenSpec.ofChange undoSavesSpec)

/-- ITS FALSE NEIGHBOUR: 'it returns false'. Refute it at one input. -/
def undoSavesWrong : ChangeSpec := { name := "undoSaves", fn := fun _ => fun
  | [d1, d2, d3] => { results := [.lit (.bool false)], args := [d1, d2, d3] }
  | _ => none }
def UndoSavesWrongFalsely : Prop := undoSavesRow.holds Try.pinned (OpenSpec.ofChange undoSavesWrong)

/-- 'ratlinelaw07.UndoFull': WHATEVER THE INPUT: true; the input reads as it did. -/
def undoFullSpec : ChangeSpec := { name := "undoFull", fn := fun _ => fun
  | [d1, d2] => { results := [.lit (.bool true)], args := [d1, d2] }
  | _ => none }
def undoFullRow : OpenClaim := { program := "ytokcpmeoiblpfaa", sum := "117f041751afe2b81a5aaafdb929d5b0e2a1f8c5db69735f8c487a0d19b238c6", func := "ratline/ratlinelaw07.UndoFull", spec := "undoFull", plainKeys := false, apart := false }
def UndoFullSaid : Prop := undoFullRow.holds Try.pinned (OpenSpec.ofChange undoFullSpec)

/-- ITS FALSE NEIGHBOUR: 'it returns false'. Refute it at one input. -/
def undoFullWrong : ChangeSpec := { name := "undoFull", fn := fun _ => fun
  | [d1, d2] => { results := [.lit (.bool false)], args := [d1, d2] }
  | _ => none }
def UndoFullWrongFalsely : Prop := undoFullRow.holds Try.pinned (OpenSpec.ofChange undoFullWrong)

/-- 'ratlinelaw07.UndoMeets': WHATEVER THE INPUT: true; the input reads as it did. -/
def undoMeetsSpec : ChangeSpec := { name := "undoMeets", fn := fun _ => fun
  | [d1, d2] => { results := [.lit (.bool true)], args := [d1, d2] }
  | _ => none }
def undoMeetsRow : OpenClaim := { program := "ytokcpmeoiblpfaa", sum := "117f041751afe2b81a5aaafdb929d5b0e2a1f8c5db69735f8c487a0d19b238c6", func := "ratline/ratlinelaw07.UndoMeets", spec := "undoMeets", plainKeys := false, apart := false }
def UndoMeetsSaid : Prop := undoMeetsRow.holds Try.pinned (OpenSpec.ofChange undoMeetsSpec)

/-- ITS FALSE NEIGHBOUR: 'it returns false'. Refute it at one input. -/
def undoMeetsWrong : ChangeSpec := { name := "undoMeets", fn := fun _ => fun
  | [d1, d2] => { results := [.lit (.bool false)], args := [d1, d2] }
  | _ => none }
def UndoMeetsWrongFalsely : Prop := undoMeetsRow.holds Try.pinned (OpenSpec.ofChange undoMeetsWrong)

/-- 'ratlinelaw07.UndoPlays': WHATEVER THE INPUT: true; the input reads as it did. -/
def undoPlaysSpec : ChangeSpec := { name := "undoPlays", fn := fun _ => fun
  | [d1, d2] => { results := [.lit (.bool true)], args := [d1, d2] }
  | _ => none }
def undoPlaysRow : OpenClaim := { program := "ytokcpmeoiblpfaa", sum := "117f041751afe2b81a5aaafdb929d5b0e2a1f8c5db69735f8c487a0d19b238c6", func := "ratline/ratlinelaw07.UndoPlays", spec := "undoPlays", plainKeys := false, apart := false }
def UndoPlaysSaid : Prop := undoPlaysRow.holds Try.pinned (OpenSpec.ofChange undoPlaysSpec)

/-- ITS FALSE NEIGHBOUR: 'it returns false'. Refute it at one input. -/
def undoPlaysWrong : ChangeSpec := { name := "undoPlays", fn := fun _ => fun
  | [d1, d2] => { results := [.lit (.bool false)], args := [d1, d2] }
  | _ => none }
def UndoPlaysWrongFalsely : Prop := undoPlaysRow.holds Try.pinned (OpenSpec.ofChange undoPlaysWrong)

/-- 'ratlinelaw07.UndoTurns': WHATEVER THE INPUT: true; the input reads as it did. -/
def undoTurnsSpec : ChangeSpec := { name := "undoTurns", fn := fun _ => fun
  | [d1, d2, d3] => { results := [.lit (.bool true)], args := [d1, d2, d3] }
  | _ => none }
def undoTurnsRow : OpenClaim := { program := "ytokcpmeoiblpfaa", sum := "117f041751afe2b81a5aaafdb929d5b0e2a1f8c5db69735f8c487a0d19b238c6", func := "ratline/ratlinelaw07.UndoTurns", spec := "undoTurns", plainKeys := false, apart := false }
def UndoTurnsSaid : Prop := undoTurnsRow.holds Try.pinned (OpenSpec.ofChange undoTurnsSpec)

/-- ITS FALSE NEIGHBOUR: 'it returns false'. Refute it at one input. -/
def undoTurnsWrong : ChangeSpec := { name := "undoTurns", fn := fun _ => fun
  | [d1, d2, d3] => { results := [.lit (.bool false)], args := [d1, d2, d3] }
  | _ => none }
def UndoTurnsWrongFalsely : Prop := undoTurnsRow.holds Try.pinned (OpenSpec.ofChange undoTurnsWrong)

/- THE SECOND FORM. 'bulk': how many values and letters a reading holds, each counted each time it is reached (what is shared counts as often as it is met; a slice's spare places count too). A statement '..UptoSaid' is the law's where the arguments, and the package variables that the reading takes, are together of bulk at most 1048576: NARROWER than '..Said'. Prove '..Said' where nothing that the law and all that it calls make is longer than what came in: it says more and counts as full. Else prove '..UptoSaid'. A law counts once. -/
mutual
def uptoBulk {H : Type} : DataW H → Nat
  | .lit (.string bytes) => bytes.length + 1
  | .lit _ => 1
  | .nil => 1
  | .ptr d => uptoBulk d + 1
  | .slice elems spare => uptoBulkAll elems + uptoBulkAll spare + 1
  | .agg parts => uptoBulkAll parts + 1
  | .iface _ d => uptoBulk d + 1
  | .map entries => uptoBulkEntries entries + 1
  | .held _ => 1
def uptoBulkAll {H : Type} : List (DataW H) → Nat
  | [] => 0
  | d :: r => uptoBulk d + uptoBulkAll r
def uptoBulkEntries {H : Type} : List (Lit × DataW H) → Nat
  | [] => 0
  | x :: r => uptoBulkEntry x + uptoBulkEntries r
def uptoBulkEntry {H : Type} : Lit × DataW H → Nat
  | (.string bytes, d) => bytes.length + uptoBulk d + 1
  | (_, d) => uptoBulk d + 1
 end
def uptoSmall : (H : Type) → List (DataW H) → Bool := fun _ ds => decide (uptoBulkAll ds ≤ 1048576)
def OpenSpec.upto (s : _root_.Go.ChangeSpec) : _root_.Go.OpenSpec := { _root_.Go.OpenSpec.ofChange s with cond := some uptoSmall }

/-- 'ratlinelaw07.UndoSaves', WHERE WHAT IT READS IS OF BULK AT MOST 1048576: true; the input reads as it did. -/
def undoSavesUptoRow : OpenClaim := { program := "ytokcpmeoiblpfaa", sum := "117f041751afe2b81a5aaafdb929d5b0e2a1f8c5db69735f8c487a0d19b238c6", func := "ratline/ratlinelaw07.UndoSaves", spec := "undoSaves", plainKeys := false, apart := false, narrowed := true }
def UndoSavesUptoSaid : Prop := undoSavesUptoRow.holds Try.pinned (OpenSpec.upto undoSavesSpec)

/-- 'ratlinelaw07.UndoFull', WHERE WHAT IT READS IS OF BULK AT MOST 1048576: true; the input reads as it did. -/
def undoFullUptoRow : OpenClaim := { program := "ytokcpmeoiblpfaa", sum := "117f041751afe2b81a5aaafdb929d5b0e2a1f8c5db69735f8c487a0d19b238c6", func := "ratline/ratlinelaw07.UndoFull", spec := "undoFull", plainKeys := false, apart := false, narrowed := true }
def UndoFullUptoSaid : Prop := undoFullUptoRow.holds Try.pinned (OpenSpec.upto undoFullSpec)

/-- 'ratlinelaw07.UndoMeets', WHERE WHAT IT READS IS OF BULK AT MOST 1048576: true; the input reads as it did. -/
def undoMeetsUptoRow : OpenClaim := { program := "ytokcpmeoiblpfaa", sum := "117f041751afe2b81a5aaafdb929d5b0e2a1f8c5db69735f8c487a0d19b238c6", func := "ratline/ratlinelaw07.UndoMeets", spec := "undoMeets", plainKeys := false, apart := false, narrowed := true }
def UndoMeetsUptoSaid : Prop := undoMeetsUptoRow.holds Try.pinned (OpenSpec.upto undoMeetsSpec)

/-- 'ratlinelaw07.UndoPlays', WHERE WHAT IT READS IS OF BULK AT MOST 1048576: true; the input reads as it did. -/
def undoPlaysUptoRow : OpenClaim := { program := "ytokcpmeoiblpfaa", sum := "117f041751afe2b81a5aaafdb929d5b0e2a1f8c5db69735f8c487a0d19b238c6", func := "ratline/ratlinelaw07.UndoPlays", spec := "undoPlays", plainKeys := false, apart := false, narrowed := true }
def UndoPlaysUptoSaid : Prop := undoPlaysUptoRow.holds Try.pinned (OpenSpec.upto undoPlaysSpec)

/-- 'ratlinelaw07.UndoTurns', WHERE WHAT IT READS IS OF BULK AT MOST 1048576: true; the input reads as it did. -/
def undoTurnsUptoRow : OpenClaim := { program := "ytokcpmeoiblpfaa", sum := "117f041751afe2b81a5aaafdb929d5b0e2a1f8c5db69735f8c487a0d19b238c6", func := "ratline/ratlinelaw07.UndoTurns", spec := "undoTurns", plainKeys := false, apart := false, narrowed := true }
def UndoTurnsUptoSaid : Prop := undoTurnsUptoRow.holds Try.pinned (OpenSpec.upto undoTurnsSpec)

end Rows
end Go.Proofs.Ytokcpmeoiblpfaa

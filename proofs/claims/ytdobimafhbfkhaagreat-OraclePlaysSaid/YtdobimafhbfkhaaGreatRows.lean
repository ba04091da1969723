/-
  NARROWER THAN 'FOR EVERY INPUT', by the rows' own cells (each row's printed sentence says how): OracleChecks: loops · OraclePlays: loops · OracleBacks: loops · OracleErrors: loops · OracleNone: loops · OracleSplits: loops.
  DERIVED. THE GIVEN ROWS OF THIS SEAT. 6 by the template 'for every input the law returns true; each argument reads behind the call as it read before'; 0 by the template 'total and deterministic' (their statements: YtdobimafhbfkhaaGreatTotals.lean).
  GIVEN WITH THE SEED: the statements are not yours to turn. If you find one false, say at which input.
  Laid BY PROGRAM, IN A SANDBOX (cutbox-rows.mjs): the forced cells as the released guide's own fill.sh prints them over the translation cd31c0300c27bdfa… (all of the seat's roots in one cut). By AI agents, Wed Nov 11 2026. No macro, syntax, notation, axiom, sorry.
-/
import Derived.Test.YtdobimafhbfkhaaGreatChecked
import GoSem.Claim
import GoSem.ClaimJoined
import GoSem.ClaimMapViews
import Derived.JoinedTies
import Derived.KernelRfl
namespace Go.Proofs.YtdobimafhbfkhaaGreat
/- THE CELL 'sum', in the pinned program and in every row, IS THE sha256 OF THE DUMP (.gsa) THAT YtdobimafhbfkhaaGreatProg.lean LOADS. Nothing in Lean hashes anything: it is a label: what it is worth is what the hold of that sum in a sandbox is worth. -/
noncomputable def Tryz.pinned : Pinned := { name := "ytdobimafhbfkhaagreat", sum := "cd31c0300c27bdfa272718fa6f162da36ce11c644aae85fa93e0aa6ca3a7fb0f", checked := Tryz.checked }
namespace Rows
def none {H : Type} : Left H := { results := [], args := [] }

/-- 'ratlinelaw15.OracleChecks': WHATEVER THE INPUT: true; the input reads as it did. -/
def oracleChecksSpec : ChangeSpec := { name := "oracleChecks", fn := fun _ => fun
  | [d1, d2] => { results := [.lit (.bool true)], args := [d1, d2] }
  | _ => none }
def oracleChecksRow : OpenClaim := { program := "ytdobimafhbfkhaagreat", sum := "cd31c0300c27bdfa272718fa6f162da36ce11c644aae85fa93e0aa6ca3a7fb0f", func := "ratline/ratlinelaw15.OracleChecks", spec := "oracleChecks", inPlace := ["slices.overlaps[ratline/api.Value]", "slices.overlaps[ratline/api.Row]", "slices.overlaps[int]"], unfollowed := true, recurses := true, loops := true, apart := false }
def OracleChecksSaid : Prop := oracleChecksRow.holds Tryz.pinned (OpenSpec.ofChange oracleChecksSpec)

/-- ITS FALSE NEIGHBOUR: 'it returns false'. Refute it at one input. -/
def oracleChecksWrong : ChangeSpec := { name := "oracleChecks", fn := fun _ => fun
  | [d1, d2] => { results := [.lit (.bool false)], args := [d1, d2] }
  | _ => none }
def OracleChecksWrongFalsely : Prop := oracleChecksRow.holds Tryz.pinned (OpenSpec.ofChange oracleChecksWrong)

/-- 'ratlinelaw15.OraclePlays': WHATEVER THE INPUT: true; the input reads as it did. -/
def oraclePlaysSpec : ChangeSpec := { name := "oraclePlays", fn := fun _ => fun
  | [d1, d2] => { results := [.lit (.bool true)], args := [d1, d2] }
  | _ => none }
def oraclePlaysRow : OpenClaim := { program := "ytdobimafhbfkhaagreat", sum := "cd31c0300c27bdfa272718fa6f162da36ce11c644aae85fa93e0aa6ca3a7fb0f", func := "ratline/ratlinelaw15.OraclePlays", spec := "oraclePlays", inPlace := ["slices.overlaps[ratline/api.Value]", "slices.overlaps[ratline/api.Row]", "slices.overlaps[int]"], unfollowed := true, recurses := true, loops := true, apart := false }
def OraclePlaysSaid : Prop := oraclePlaysRow.holds Tryz.pinned (OpenSpec.ofChange oraclePlaysSpec)

/-- ITS FALSE NEIGHBOUR: 'it returns false'. Refute it at one input. -/
def oraclePlaysWrong : ChangeSpec := { name := "oraclePlays", fn := fun _ => fun
  | [d1, d2] => { results := [.lit (.bool false)], args := [d1, d2] }
  | _ => none }
def OraclePlaysWrongFalsely : Prop := oraclePlaysRow.holds Tryz.pinned (OpenSpec.ofChange oraclePlaysWrong)

/-- 'ratlinelaw15.OracleBacks': WHATEVER THE INPUT: true; the input reads as it did. -/
def oracleBacksSpec : ChangeSpec := { name := "oracleBacks", fn := fun _ => fun
  | [d1, d2, d3] => { results := [.lit (.bool true)], args := [d1, d2, d3] }
  | _ => none }
def oracleBacksRow : OpenClaim := { program := "ytdobimafhbfkhaagreat", sum := "cd31c0300c27bdfa272718fa6f162da36ce11c644aae85fa93e0aa6ca3a7fb0f", func := "ratline/ratlinelaw15.OracleBacks", spec := "oracleBacks", inPlace := ["slices.overlaps[ratline/api.Value]", "slices.overlaps[ratline/api.Row]", "slices.overlaps[int]"], unfollowed := true, recurses := true, loops := true, apart := false }
def OracleBacksSaid : Prop := oracleBacksRow.holds Tryz.pinned (OpenSpec.ofChange oracleBacksSpec)

/-- ITS FALSE NEIGHBOUR: 'it returns false'. Refute it at one input. -/
def oracleBacksWrong : ChangeSpec := { name := "oracleBacks", fn := fun _ => fun
  | [d1, d2, d3] => { results := [.lit (.bool false)], args := [d1, d2, d3] }
  | _ => none }
def OracleBacksWrongFalsely : Prop := oracleBacksRow.holds Tryz.pinned (OpenSpec.ofChange oracleBacksWrong)

/-- 'ratlinelaw15.OracleErrors': WHATEVER THE INPUT: true; the input reads as it did. -/
def oracleErrorsSpec : ChangeSpec := { name := "oracleErrors", fn := fun _ => fun
  | [d1, d2, d3] => { results := [.lit (.bool true)], args := [d1, d2, d3] }
  | _ => none }
def oracleErrorsRow : OpenClaim := { program := "ytdobimafhbfkhaagreat", sum := "cd31c0300c27bdfa272718fa6f162da36ce11c644aae85fa93e0aa6ca3a7fb0f", func := "ratline/ratlinelaw15.OracleErrors", spec := "oracleErrors", inPlace := ["slices.overlaps[ratline/api.Value]", "slices.overlaps[ratline/api.Row]", "slices.overlaps[int]"], unfollowed := true, recurses := true, loops := true, apart := false }
def OracleErrorsSaid : Prop := oracleErrorsRow.holds Tryz.pinned (OpenSpec.ofChange oracleErrorsSpec)

/-- ITS FALSE NEIGHBOUR: 'it returns false'. Refute it at one input. -/
def oracleErrorsWrong : ChangeSpec := { name := "oracleErrors", fn := fun _ => fun
  | [d1, d2, d3] => { results := [.lit (.bool false)], args := [d1, d2, d3] }
  | _ => none }
def OracleErrorsWrongFalsely : Prop := oracleErrorsRow.holds Tryz.pinned (OpenSpec.ofChange oracleErrorsWrong)

/-- 'ratlinelaw15.OracleNone': WHATEVER THE INPUT: true; the input reads as it did. -/
def oracleNoneSpec : ChangeSpec := { name := "oracleNone", fn := fun _ => fun
  | [d1, d2] => { results := [.lit (.bool true)], args := [d1, d2] }
  | _ => none }
def oracleNoneRow : OpenClaim := { program := "ytdobimafhbfkhaagreat", sum := "cd31c0300c27bdfa272718fa6f162da36ce11c644aae85fa93e0aa6ca3a7fb0f", func := "ratline/ratlinelaw15.OracleNone", spec := "oracleNone", inPlace := ["slices.overlaps[ratline/api.Value]", "slices.overlaps[ratline/api.Row]", "slices.overlaps[int]"], unfollowed := true, recurses := true, loops := true, apart := false }
def OracleNoneSaid : Prop := oracleNoneRow.holds Tryz.pinned (OpenSpec.ofChange oracleNoneSpec)

/-- ITS FALSE NEIGHBOUR: 'it returns false'. Refute it at one input. -/
def oracleNoneWrong : ChangeSpec := { name := "oracleNone", fn := fun _ => fun
  | [d1, d2] => { results := [.lit (.bool false)], args := [d1, d2] }
  | _ => none }
def OracleNoneWrongFalsely : Prop := oracleNoneRow.holds Tryz.pinned (OpenSpec.ofChange oracleNoneWrong)

/-- 'ratlinelaw15.OracleSplits': WHATEVER THE INPUT: true; the input reads as it did. -/
def oracleSplitsSpec : ChangeSpec := { name := "oracleSplits", fn := fun _ => fun
  | [d1, d2] => { results := [.lit (.bool true)], args := [d1, d2] }
  | _ => none }
def oracleSplitsRow : OpenClaim := { program := "ytdobimafhbfkhaagreat", sum := "cd31c0300c27bdfa272718fa6f162da36ce11c644aae85fa93e0aa6ca3a7fb0f", func := "ratline/ratlinelaw15.OracleSplits", spec := "oracleSplits", inPlace := ["slices.overlaps[ratline/api.Value]", "slices.overlaps[ratline/api.Row]", "slices.overlaps[int]"], unfollowed := true, recurses := true, loops := true, apart := false }
def OracleSplitsSaid : Prop := oracleSplitsRow.holds Tryz.pinned (OpenSpec.ofChange oracleSplitsSpec)

/-- ITS FALSE NEIGHBOUR: 'it returns false'. Refute it at one input. -/
def oracleSplitsWrong : ChangeSpec := { name := "oracleSplits", fn := fun _ => fun
  | [d1, d2] => { results := [.lit (.bool false)], args := [d1, d2] }
  | _ => none }
def OracleSplitsWrongFalsely : Prop := oracleSplitsRow.holds Tryz.pinned (OpenSpec.ofChange oracleSplitsWrong)

/- THE SECOND FORM. 'bulk': how many values and letters a reading holds, each counted each time it is reached (what is shared counts as often as it is met; a slice's spare places count too). A statement '..UptoSaid' is the law's where the arguments, and the package variables that the reading takes, are together of bulk at most 1048576: NARROWER than '..Said'. Prove '..Said' where nothing that the law and all that it calls make is longer than what came in: it says more and counts as full. Else prove '..UptoSaid'. A law counts once. -/
mutual
def uptoBulk {H : Type} : DataW H → Nat
  | .lit (.string bytes) => bytes.length + 1
  | .lit _ => 1
  | .nil => 1
  | .ptr d => uptoBulk d + 1
  | .slice elems spare => uptoBulkAll elems + uptoBulkAll spare + 1
  | .agg parts => uptoBulkAll parts + 1
  | .iface _ d => uptoBulk d + 1
  | .map entries => uptoBulkEntries entries + 1
  | .held _ => 1
def uptoBulkAll {H : Type} : List (DataW H) → Nat
  | [] => 0
  | d :: r => uptoBulk d + uptoBulkAll r
def uptoBulkEntries {H : Type} : List (Lit × DataW H) → Nat
  | [] => 0
  | x :: r => uptoBulkEntry x + uptoBulkEntries r
def uptoBulkEntry {H : Type} : Lit × DataW H → Nat
  | (.string bytes, d) => bytes.length + uptoBulk d + 1
  | (_, d) => uptoBulk d + 1
 end
def uptoSmall : (H : Type) → List (DataW H) → Bool := fun _ ds => decide (uptoBulkAll ds ≤ 1048576)
def OpenSpec.upto (s : _root_.Go.ChangeSpec) : _root_.Go.OpenSpec := { _root_.Go.OpenSpec.ofChange s with cond := some uptoSmall }

/-- 'ratlinelaw15.OracleChecks', WHERE WHAT IT READS IS OF BULK AT MOST 1048576: true; the input reads as it did. -/
def oracleChecksUptoRow : OpenClaim := { program := "ytdobimafhbfkhaagreat", sum := "cd31c0300c27bdfa272718fa6f162da36ce11c644aae85fa93e0aa6ca3a7fb0f", func := "ratline/ratlinelaw15.OracleChecks", spec := "oracleChecks", inPlace := ["slices.overlaps[ratline/api.Value]", "slices.overlaps[ratline/api.Row]", "slices.overlaps[int]"], unfollowed := true, recurses := true, loops := true, apart := false, narrowed := true }
def OracleChecksUptoSaid : Prop := oracleChecksUptoRow.holds Tryz.pinned (OpenSpec.upto oracleChecksSpec)

/-- 'ratlinelaw15.OraclePlays', WHERE WHAT IT READS IS OF BULK AT MOST 1048576: true; the input reads as it did. -/
def oraclePlaysUptoRow : OpenClaim := { program := "ytdobimafhbfkhaagreat", sum := "cd31c0300c27bdfa272718fa6f162da36ce11c644aae85fa93e0aa6ca3a7fb0f", func := "ratline/ratlinelaw15.OraclePlays", spec := "oraclePlays", inPlace := ["slices.overlaps[ratline/api.Value]", "slices.overlaps[ratline/api.Row]", "slices.overlaps[int]"], unfollowed := true, recurses := true, loops := true, apart := false, narrowed := true }
def OraclePlaysUptoSaid : Prop := oraclePlaysUptoRow.holds Tryz.pinned (OpenSpec.upto oraclePlaysSpec)

/-- 'ratlinelaw15.OracleBacks', WHERE WHAT IT READS IS OF BULK AT MOST 1048576: true; the input reads as it did. -/
def oracleBacksUptoRow : OpenClaim := { program := "ytdobimafhbfkhaagreat", sum := "cd31c0300c27bdfa272718fa6f162da36ce11c644aae85fa93e0aa6ca3a7fb0f", func := "ratline/ratlinelaw15.OracleBacks", spec := "oracleBacks", inPlace := ["slices.overlaps[ratline/api.Value]", "slices.overlaps[ratline/api.Row]", "slices.overlaps[int]"], unfollowed := true, recurses := true, loops := true, apart := false, narrowed := true }
def OracleBacksUptoSaid : Prop := oracleBacksUptoRow.holds Tryz.pinned (OpenSpec.upto oracleBacksSpec)

/-- 'ratlinelaw15.OracleErrors', WHERE WHAT IT READS IS OF BULK AT MOST 1048576: true; the input reads as it did. -/
def oracleErrorsUptoRow : OpenClaim := { program := "ytdobimafhbfkhaagreat", sum := "cd31c0300c27bdfa272718fa6f162da36ce11c644aae85fa93e0aa6ca3a7fb0f", func := "ratline/ratlinelaw15.OracleErrors", spec := "oracleErrors", inPlace := ["slices.overlaps[ratline/api.Value]", "slices.overlaps[ratline/api.Row]", "slices.overlaps[int]"], unfollowed := true, recurses := true, loops := true, apart := false, narrowed := true }
def OracleErrorsUptoSaid : Prop := oracleErrorsUptoRow.holds Tryz.pinned (OpenSpec.upto oracleErrorsSpec)

/-- 'ratlinelaw15.OracleNone', WHERE WHAT IT READS IS OF BULK AT MOST 1048576: true; the input reads as it did. -/
def oracleNoneUptoRow : OpenClaim := { program := "ytdobimafhbfkhaagreat", sum := "cd31c0300c27bdfa272718fa6f162da36ce11c644aae85fa93e0aa6ca3a7fb0f", func := "ratline/ratlinelaw15.OracleNone", spec := "oracleNone", inPlace := ["slices.overlaps[ratline/api.Value]", "slices.overlaps[ratline/api.Row]", "slices.overlaps[int]"], unfollowed := true, recurses := true, loops := true, apart := false, narrowed := true }
def OracleNoneUptoSaid : Prop := oracleNoneUptoRow.holds Tryz.pinned (OpenSpec.upto oracleNoneSpec)

/-- 'ratlinelaw15.OracleSplits', WHERE WHAT IT READS IS OF BULK AT MOST 1048576: true; the input reads as it did. -/
def oracleSplitsUptoRow : OpenClaim := { program := "ytdobimafhbfkhaagreat", sum := "cd31c0300c27bdfa272718fa6f162da36ce11c644aae85fa93e0aa6ca3a7fb0f", func := "ratline/ratlinelaw15.OracleSplits", spec := "oracleSplits", inPlace := ["slices.overlaps[ratline/api.Value]", "slices.overlaps[ratline/api.Row]", "slices.overlaps[int]"], unfollowed := true, recurses := true, loops := true, apart := false, narrowed := true }
def OracleSplitsUptoSaid : Prop := oracleSplitsUptoRow.holds Tryz.pinned (OpenSpec.upto oracleSplitsSpec)

end Rows
end Go.Proofs.YtdobimafhbfkhaaGreat

/- Nothing is proved here of the program: the imports that all texts of this claim share, and a few small lemmas. -/
import Derived.Test.YtokcpmeoiblpfaaDoorProg
import Derived.WalkKit
import Derived.ProofKit
import Derived.WalkLawsBesides
import Derived.WalkSpells
import Derived.Lib.Hide
import Derived.Deep.LoopGhost
import Derived.Deep.DeepMust
import Derived.Deep.QuietTactic
import Derived.BigQuiet
import Derived.RegionTactic
namespace Go.Proofs.YtokcpmeoiblpfaaDoor
open Go.ChangeShapes Go.WideShapes Go.ChangeAt Go.RowKit

attribute [go_sem] Instr.field asAgg

theorem ret_int {k : IntKind} {a b : Int} (h : a = b) : Ending.returned (.int k a) = .returned (.int k b) := by rw [h]
theorem ret_bool {a b : Bool} (h : a = b) : Ending.returned (.bool a) = .returned (.bool b) := by rw [h]
end Go.Proofs.YtokcpmeoiblpfaaDoor

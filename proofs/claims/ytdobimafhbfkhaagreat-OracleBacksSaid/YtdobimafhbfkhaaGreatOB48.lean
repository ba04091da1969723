/- The document's Right, May of a table, Fits (ratlineref01, ratlineref02). (printed by genlk.py) -/
import Derived.Test.YtdobimafhbfkhaaGreatOB25
import Derived.Test.YtdobimafhbfkhaaGreatOB9
namespace Go.Proofs.YtdobimafhbfkhaaGreat
open Go.ChangeShapes Go.WideShapes Go.ChangeAt Go.RowKit
set_option maxRecDepth 100000
set_option linter.unusedSimpArgs false
end Go.Proofs.YtdobimafhbfkhaaGreat

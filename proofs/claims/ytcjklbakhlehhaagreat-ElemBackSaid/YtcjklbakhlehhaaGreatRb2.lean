/- The document's balls: Point, Recast, Shift. -/
import Derived.Test.YtcjklbakhlehhaaGreatRb1
set_option linter.unusedVariables false
set_option linter.unusedSimpArgs false
namespace Go.Proofs.YtcjklbakhlehhaaGreat
open Go.RowKit
open L (val dig nth)
end Go.Proofs.YtcjklbakhlehhaaGreat

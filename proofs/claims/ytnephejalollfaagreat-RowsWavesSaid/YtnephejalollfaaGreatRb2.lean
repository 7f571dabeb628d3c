/- The document's balls: Point, Recast, Shift. -/
import Derived.Test.YtnephejalollfaaGreatRb1
set_option linter.unusedVariables false
set_option linter.unusedSimpArgs false
namespace Go.Proofs.YtnephejalollfaaGreat
open Go.RowKit
open L (val dig nth)

end Go.Proofs.YtnephejalollfaaGreat

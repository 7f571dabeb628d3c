/- The document's balls: Point, Recast, Shift. -/
import Derived.Test.YtnephejalollfaaRb1
set_option linter.unusedVariables false
set_option linter.unusedSimpArgs false
namespace Go.Proofs.Ytnephejalollfaa
open Go.RowKit
open L (val dig nth)

end Go.Proofs.Ytnephejalollfaa

/- The document's balls: Point, Recast, Shift. -/
import Derived.Test.YtnfbngiabdlclaaRb1
set_option linter.unusedVariables false
set_option linter.unusedSimpArgs false
namespace Go.Proofs.Ytnfbngiabdlclaa
open Go.RowKit
open L (val dig nth)

end Go.Proofs.Ytnfbngiabdlclaa

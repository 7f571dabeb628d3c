/- ball: Recast, Shift. -/
import Derived.Test.YtnfbngiabdlclaaBa7
set_option linter.unusedVariables false
set_option linter.unusedSimpArgs false
namespace Go.Proofs.Ytnfbngiabdlclaa
open Go.RowKit
open L (val dig nth)

end Go.Proofs.Ytnfbngiabdlclaa

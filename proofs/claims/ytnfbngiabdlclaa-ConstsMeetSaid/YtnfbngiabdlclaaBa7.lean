/- ball: Mul, Div. -/
import Derived.Test.YtnfbngiabdlclaaBa6
set_option linter.unusedVariables false
set_option linter.unusedSimpArgs false
namespace Go.Proofs.Ytnfbngiabdlclaa
open Go.RowKit
open L (val dig nth)

end Go.Proofs.Ytnfbngiabdlclaa

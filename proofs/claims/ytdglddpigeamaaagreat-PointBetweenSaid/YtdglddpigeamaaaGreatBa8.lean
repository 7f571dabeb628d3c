/- ball: Recast, Shift. -/
import Derived.Test.YtdglddpigeamaaaGreatBa7
set_option linter.unusedVariables false
set_option linter.unusedSimpArgs false
namespace Go.Proofs.YtdglddpigeamaaaGreat
open Go.RowKit
open L (val dig nth)
end Go.Proofs.YtdglddpigeamaaaGreat

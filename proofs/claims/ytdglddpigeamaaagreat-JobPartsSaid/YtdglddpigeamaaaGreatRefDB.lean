/- The document's dyads: Floor Ceil. The document's dyads: Neg Shift. The document's dyads: Mul. -/
import Derived.Test.YtdglddpigeamaaaGreatRefDA
import Derived.Test.YtdglddpigeamaaaGreatLaws
section
set_option linter.unusedVariables false
set_option linter.unusedSimpArgs false
namespace Go.Proofs.YtdglddpigeamaaaGreat
open Go.RowKit
open L (val dig nth)
end Go.Proofs.YtdglddpigeamaaaGreat
end
section
set_option linter.unusedVariables false
set_option linter.unusedSimpArgs false
namespace Go.Proofs.YtdglddpigeamaaaGreat
open Go.RowKit
open L (val dig nth)
end Go.Proofs.YtdglddpigeamaaaGreat
end
section
set_option linter.unusedVariables false
set_option linter.unusedSimpArgs false
namespace Go.Proofs.YtdglddpigeamaaaGreat
open Go.RowKit
open L (val dig nth)
end Go.Proofs.YtdglddpigeamaaaGreat
end

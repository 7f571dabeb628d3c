/- The document's dyads: Add Sub. The document's dyads: Sub. The document's dyads: Cmp. -/
import Derived.Test.YtdglddpigeamaaaGreatRefDB
section
set_option linter.unusedVariables false
set_option linter.unusedSimpArgs false
namespace Go.Proofs.YtdglddpigeamaaaGreat
open Go.RowKit
open L (val dig nth)
end Go.Proofs.YtdglddpigeamaaaGreat
end
section
set_option linter.unusedVariables false
set_option linter.unusedSimpArgs false
namespace Go.Proofs.YtdglddpigeamaaaGreat
open Go.RowKit
open L (val dig nth)
end Go.Proofs.YtdglddpigeamaaaGreat
end
section
set_option linter.unusedVariables false
set_option linter.unusedSimpArgs false
namespace Go.Proofs.YtdglddpigeamaaaGreat
open Go.RowKit
open L (val dig nth)
end Go.Proofs.YtdglddpigeamaaaGreat
end

/- The document's dyads: Add Sub. The document's dyads: Sub. The document's dyads: Cmp. -/
import Derived.Test.YtnephejalollfaaGreatRefDB
section
set_option linter.unusedVariables false
set_option linter.unusedSimpArgs false
namespace Go.Proofs.YtnephejalollfaaGreat
open Go.RowKit
open L (val dig nth)

end Go.Proofs.YtnephejalollfaaGreat
end
section
set_option linter.unusedVariables false
set_option linter.unusedSimpArgs false
namespace Go.Proofs.YtnephejalollfaaGreat
open Go.RowKit
open L (val dig nth)

end Go.Proofs.YtnephejalollfaaGreat
end
section
set_option linter.unusedVariables false
set_option linter.unusedSimpArgs false
namespace Go.Proofs.YtnephejalollfaaGreat
open Go.RowKit
open L (val dig nth)

end Go.Proofs.YtnephejalollfaaGreat
end

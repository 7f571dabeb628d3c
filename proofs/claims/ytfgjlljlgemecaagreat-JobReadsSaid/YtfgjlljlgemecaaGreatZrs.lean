/- The document's integers: Make Norm Neg BitLen Sign Mul Shl. The document's integers: Sign Add Sub. The document's integers: Sub Shr. -/
import Derived.Test.YtfgjlljlgemecaaGreatZeds
import Derived.Test.YtfgjlljlgemecaaGreatRefs
import Derived.Test.YtfgjlljlgemecaaGreatDyadA
import Derived.Test.YtfgjlljlgemecaaGreatDyadB
section
set_option linter.unusedVariables false
set_option linter.unusedSimpArgs false
namespace Go.Proofs.YtfgjlljlgemecaaGreat
open Go.RowKit
open L (val dig nth)
end Go.Proofs.YtfgjlljlgemecaaGreat
end
section
set_option linter.unusedVariables false
set_option linter.unusedSimpArgs false
namespace Go.Proofs.YtfgjlljlgemecaaGreat
open Go.RowKit
open L (val dig nth)
end Go.Proofs.YtfgjlljlgemecaaGreat
end
section
set_option linter.unusedVariables false
set_option linter.unusedSimpArgs false
namespace Go.Proofs.YtfgjlljlgemecaaGreat
open Go.RowKit
open L (val dig nth)
end Go.Proofs.YtfgjlljlgemecaaGreat
end

/- The document's balls: Down, Over, Cmp, Right. -/
import Derived.Test.YtcjklbakhlehhaaGreatBa6
import Derived.Test.YtcjklbakhlehhaaGreatRefDC
set_option linter.unusedVariables false
set_option linter.unusedSimpArgs false
namespace Go.Proofs.YtcjklbakhlehhaaGreat
open Go.RowKit
open L (val dig nth)
section
variable {w:World} {k k':Nat} {n m:Bool} {A A':Option Addr} {len cap len' cap':Nat} {z y:Int}
end
end Go.Proofs.YtcjklbakhlehhaaGreat

/- ball.corners with ball.Div's two functions. -/
import Derived.Test.YtnfbngiabdlclaaBa3
import Derived.Test.YtnfbngiabdlclaaBa4
set_option linter.unusedVariables false
set_option linter.unusedSimpArgs false
namespace Go.Proofs.Ytnfbngiabdlclaa
open Go.RowKit
open L (val dig nth)

/-- A quotient of an integer times a power of two, rounded down; up. -/
def vLo (q x y : Int) : Int := -vUp (-(x * 2 ^ q.toNat)) y
def vHi (q x y : Int) : Int := vUp (x * 2 ^ q.toNat) y
end Go.Proofs.Ytnfbngiabdlclaa

/- hairlineref02: Of, Abs, DivMod, floor, Up. hairlineref02.Up; hairlineref05: floor, both, Add, Sub. -/
import Derived.Test.YtfgjlljlgemecaaGreatDm
import Derived.Test.YtfgjlljlgemecaaGreatZrs
import Derived.Test.YtfgjlljlgemecaaGreatZe
import Derived.Test.YtfgjlljlgemecaaGreatRb1
import Derived.Test.YtfgjlljlgemecaaGreatFree
import Derived.Test.YtfgjlljlgemecaaGreatBa7
section
set_option linter.unusedVariables false
set_option linter.unusedSimpArgs false
namespace Go.Proofs.YtfgjlljlgemecaaGreat
open Go.RowKit
open L (val dig nth)
end Go.Proofs.YtfgjlljlgemecaaGreat
end
section
set_option linter.unusedVariables false
set_option linter.unusedSimpArgs false
namespace Go.Proofs.YtfgjlljlgemecaaGreat
open Go.RowKit
open L (val dig nth)
theorem vUp_lt {z y : Int} {k : Nat} (hy : y ≠ 0) (hz : z.natAbs < W ^ k) : (vUp z y).natAbs < W ^ k := by
  unfold vUp; rw [Int.natAbs_neg]; exact vDown_lt hy (by rw [Int.natAbs_neg]; exact hz)
end Go.Proofs.YtfgjlljlgemecaaGreat
end

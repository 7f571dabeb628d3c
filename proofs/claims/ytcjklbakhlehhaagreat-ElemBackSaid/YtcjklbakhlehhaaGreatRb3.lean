/- The document's balls: least, greatest, Times. -/
import Derived.Test.YtcjklbakhlehhaaGreatRb2
set_option linter.unusedVariables false
set_option linter.unusedSimpArgs false
namespace Go.Proofs.YtcjklbakhlehhaaGreat
open Go.RowKit
open L (val dig nth)
theorem Ints.two {w:World} {k B g:Nat} {t:TypeId} {n0 n1:Bool} {A0 A1:Option Addr} {l0 l1 c0 c1:Nat} {z0 z1:Int}
    (h:Blk w g t #[.bool n0,.slice A0 l0 c0,.bool n1,.slice A1 l1 c1]) (h0:QB w B k n0 A0 l0 c0 z0) (h1:QB w B k n1 A1 l1 c1 z1) :
    Ints w k B g 2 (pick n0 n1 n1 n1) (pick A0 A1 A1 A1) (pick l0 l1 l1 l1) (pick c0 c1 c1 c1) (pick z0 z1 z1 z1):=by
  refine ⟨h.lt,fun i hi=>?_,fun i hi=>?_,fun i hi=>?_⟩
  all_goals obtain rfl | rfl:i=0∨i=1:=by omega
  · exact h.cell 0
  · exact h.cell 2
  · exact h.cell 1
  · exact h.cell 3
  · exact h0
  · exact h1
end Go.Proofs.YtcjklbakhlehhaaGreat

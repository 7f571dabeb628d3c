/- The document's balls: least, greatest, Times. hairlineref02: Of, Abs, DivMod, floor, Up. hairlineref02.Up; hairlineref05: floor, both, Add, Sub. -/
import Derived.Test.YtllgjggkchgpbaaGreatDm
import Derived.Test.YtllgjggkchgpbaaGreatBa6
import Derived.Test.YtllgjggkchgpbaaGreatZe
import Derived.Test.YtllgjggkchgpbaaGreatFree
set_option linter.unusedVariables false
set_option linter.unusedSimpArgs false
namespace Go.Proofs.YtllgjggkchgpbaaGreat
section
section
open Go.RowKit
open L (val dig nth)
theorem Ints.two {w:World} {k B g:Nat} {t:TypeId} {n0 n1:Bool} {A0 A1:Option Addr} {l0 l1 c0 c1:Nat} {z0 z1:Int}
    (h:Blk w g t #[.bool n0,.slice A0 l0 c0,.bool n1,.slice A1 l1 c1]) (h0:QB w B k n0 A0 l0 c0 z0) (h1:QB w B k n1 A1 l1 c1 z1) :
    Ints w k B g 2 (pick n0 n1 n1 n1) (pick A0 A1 A1 A1) (pick l0 l1 l1 l1) (pick c0 c1 c1 c1) (pick z0 z1 z1 z1):=by
  refine ⟨h.lt,fun i hi=>?_,fun i hi=>?_,fun i hi=>?_⟩
  all_goals obtain rfl | rfl:i=0∨i=1:=by omega
  · exact h.cell 0
  · exact h.cell 2
  · exact h.cell 1
  · exact h.cell 3
  · exact h0
  · exact h1
end
end
section
section
section
open Go.RowKit
open L (val dig nth)
end
end
section
section
open Go.RowKit
open L (val dig nth)
theorem j13 {z y:Int} {k:Nat} (hy:y≠0) (hz:z.natAbs<W^k):(vUp z y).natAbs<W^k:=by
  unfold vUp;rw [Int.natAbs_neg];exact jdj hy (by rw [Int.natAbs_neg];exact hz)
end
end
end
end Go.Proofs.YtllgjggkchgpbaaGreat
/- The document's dyads: Add Sub. The document's dyads: Sub. The document's dyads: Cmp. -/
import Derived.Test.YtnephejalollfaaRefDB
section
set_option linter.unusedVariables false
set_option linter.unusedSimpArgs false
namespace Go.Proofs.Ytnephejalollfaa
open Go.RowKit
open L (val dig nth)

theorem sumR (w : World) (P Q S : Int) (B C : Nat) (v u : Value) (p q : List Nat) (hp : Nums w B v p) (hq : Nums w C u q) (hpl : p.length ≤ 60000) (hql : q.length ≤ 60000) (hd : Canon p P.natAbs) (hd' : Canon q Q.natAbs) (hS : P + Q = S) :
    Calls Try.prog 35 #[.agg #[.bool (decide (P < 0)), v], .agg #[.bool (decide (Q < 0)), u]] w fun e w' => Below w.heap.size w w' ∧ RetZ w.heap.size S e w' := by
  have := zaddR_calls w (decide (P < 0)) (decide (Q < 0)) _ _ _ _ p q hp hq hpl hql
  rwa [hd.val, hd'.val, ival_self, ival_self, hS] at this
end Go.Proofs.Ytnephejalollfaa
end
section
set_option linter.unusedVariables false
set_option linter.unusedSimpArgs false
namespace Go.Proofs.Ytnephejalollfaa
open Go.RowKit
open L (val dig nth)

end Go.Proofs.Ytnephejalollfaa
end
section
set_option linter.unusedVariables false
set_option linter.unusedSimpArgs false
namespace Go.Proofs.Ytnephejalollfaa
open Go.RowKit
open L (val dig nth)

end Go.Proofs.Ytnephejalollfaa
end

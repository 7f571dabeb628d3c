/- ball.corners: what comes of the ends of two balls. -/
import Derived.Test.YtnfbngiabdlclaaBa2
set_option linter.unusedVariables false
set_option linter.unusedSimpArgs false
namespace Go.Proofs.Ytnfbngiabdlclaa
open Go.RowKit
open L (val dig nth)

def pick {α : Type} (a b c d : α) (i : Nat) : α := if i = 0 then a else if i = 1 then b else if i = 2 then c else d
def min4 (a b c d : Int) : Int := min (min a b) (min c d)
def max4 (a b c d : Int) : Int := max (max a b) (max c d)
/-- Two integers are handed back. -/
def RetII (B k : Nat) (x y : Int) (e : Ending) (w : World) : Prop := ∃ n A l c n' A' l' c', e = .returned (.tuple #[.agg #[.bool n, .slice A l c], .agg #[.bool n', .slice A' l' c']]) ∧ QB w B k n A l c x ∧ QB w B k n' A' l' c' y

end Go.Proofs.Ytnfbngiabdlclaa

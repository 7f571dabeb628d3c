/- ball: results that are balls; pair, Point. -/
import Derived.Test.YtnfbngiabdlclaaBa5
import Derived.Test.YtnfbngiabdlclaaRefC
set_option linter.unusedVariables false
set_option linter.unusedSimpArgs false
namespace Go.Proofs.Ytnfbngiabdlclaa
open Go.RowKit
open L (val dig nth)

/-- A ball is handed back, and an error. -/
def RetB (B k : Nat) (x y q err : Int) (e : Ending) (w : World) : Prop := ∃ n A l c n' A' l' c', e = .returned (.tuple #[.agg #[.bool n, .slice A l c, .bool n', .slice A' l' c', .int .i64 q], .int .i64 err]) ∧ QB w B k n A l c x ∧ QB w B k n' A' l' c' y
/-- .. where that may be; else none. -/
def RetE (B k : Nat) (ok : Bool) (x y q err : Int) (e : Ending) (w : World) : Prop := RetB B k (if ok then x else 0) (if ok then y else 0) (if ok then q else 0) (if ok then 0 else err) e w
theorem RetE.yes {B k : Nat} {x y q err : Int} {e : Ending} {w : World} (h : RetB B k x y q 0 e w) : RetE B k true x y q err e w := h
theorem RetE.no {B k : Nat} {x y q err : Int} {w : World} : RetE B k false x y q err (.returned (.tuple #[.agg #[.bool false, .slice none 0 0, .bool false, .slice none 0 0, .int .i64 0], .int .i64 err])) w :=
  ⟨_, _, _, _, _, _, _, _, rfl, QB.zero _ _ _, QB.zero _ _ _⟩

/-- May two balls be reckoned with? -/
def pairB (x y q x' y' q' : Int) : Bool := rightB x y q && rightB x' y' q' && (q == q')
end Go.Proofs.Ytnfbngiabdlclaa

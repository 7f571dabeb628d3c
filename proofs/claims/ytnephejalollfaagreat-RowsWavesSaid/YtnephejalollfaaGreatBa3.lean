/- ball.corners: what comes of the ends of two balls. -/
import Derived.Test.YtnephejalollfaaGreatBa2
set_option linter.unusedVariables false
set_option linter.unusedSimpArgs false
namespace Go.Proofs.YtnephejalollfaaGreat
open Go.RowKit
open L (val dig nth)

def pick {α : Type} (a b c d : α) (i : Nat) : α := if i = 0 then a else if i = 1 then b else if i = 2 then c else d
theorem Ints.four {w : World} {k B g : Nat} {t : TypeId} {n0 n1 n2 n3 : Bool} {A0 A1 A2 A3 : Option Addr} {l0 l1 l2 l3 c0 c1 c2 c3 : Nat} {z0 z1 z2 z3 : Int}
    (h : Blk w g t #[.bool n0, .slice A0 l0 c0, .bool n1, .slice A1 l1 c1, .bool n2, .slice A2 l2 c2, .bool n3, .slice A3 l3 c3]) (h0 : QB w B k n0 A0 l0 c0 z0) (h1 : QB w B k n1 A1 l1 c1 z1) (h2 : QB w B k n2 A2 l2 c2 z2) (h3 : QB w B k n3 A3 l3 c3 z3) :
    Ints w k B g 4 (pick n0 n1 n2 n3) (pick A0 A1 A2 A3) (pick l0 l1 l2 l3) (pick c0 c1 c2 c3) (pick z0 z1 z2 z3) := by
  refine ⟨h.lt, fun i hi => ?_, fun i hi => ?_, fun i hi => ?_⟩
  all_goals obtain rfl | rfl | rfl | rfl : i = 0 ∨ i = 1 ∨ i = 2 ∨ i = 3 := by omega
  · exact h.cell 0
  · exact h.cell 2
  · exact h.cell 4
  · exact h.cell 6
  · exact h.cell 1
  · exact h.cell 3
  · exact h.cell 5
  · exact h.cell 7
  · exact h0
  · exact h1
  · exact h2
  · exact h3
def min4 (a b c d : Int) : Int := min (min a b) (min c d)
def max4 (a b c d : Int) : Int := max (max a b) (max c d)
theorem results_int_int {fn : Func} {p q : Tmp} (h : fn.results = #[.cell p 24, .cell q 24]) (tmps : Array Value) (w : World) (r r' : Nat) (t t' : TypeId) (a b c d : Value)
    (hp : tmps.getD p undef = .pointer (some ⟨r, 0, none⟩)) (hb : Blk w r t #[a, b]) (hq : tmps.getD q undef = .pointer (some ⟨r', 0, none⟩)) (hb' : Blk w r' t' #[c, d]) :
    (results fn tmps).run Tryz.prog w = .ok (.tuple #[.agg #[a, b], .agg #[c, d]]) w := by
  simp only [results, h]; simp only [Array.getD_eq_getD_getElem?] at hp hq; simp [Sem.run_bind, Result.andThen, asAddr, hp, load_int hb, hq, load_int hb']
/-- Two integers are handed back. -/
def RetII (B k : Nat) (x y : Int) (e : Ending) (w : World) : Prop := ∃ n A l c n' A' l' c', e = .returned (.tuple #[.agg #[.bool n, .slice A l c], .agg #[.bool n', .slice A' l' c']]) ∧ QB w B k n A l c x ∧ QB w B k n' A' l' c' y

end Go.Proofs.YtnephejalollfaaGreat

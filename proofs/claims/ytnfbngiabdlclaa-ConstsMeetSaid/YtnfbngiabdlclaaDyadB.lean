/- dyad: Neg, Shift, Floor, Ceil. dyad: level, Cmp, Add, Sub, Mul. dyad: Cmp, Add, Sub, Mul. -/
import Derived.Test.YtnfbngiabdlclaaDyadA
section
set_option linter.unusedVariables false
namespace Go.Proofs.Ytnfbngiabdlclaa
open Go.RowKit
open L (val dig nth)

/-- An integer times a power of two, rounded down, and up. -/
def scF (m e : Int) : Int := if 0 ≤ e then m * 2 ^ e.toNat else m / 2 ^ (-e).toNat
def scC (m e : Int) : Int := if 0 ≤ e then m * 2 ^ e.toNat else -((-m) / 2 ^ (-e).toNat)

end Go.Proofs.Ytnfbngiabdlclaa
end
section
set_option linter.unusedVariables false
namespace Go.Proofs.Ytnfbngiabdlclaa
open Go.RowKit
open L (val dig nth)

theorem start4 (w : World) (t t' t'' t3 : TypeId) (a b c d : Array Value) : ∃ W0, W0 = (((w.alloc (.cells a t)).alloc (.cells b t')).alloc (.cells c t'')).alloc (.cells d t3) ∧ Blk W0 w.heap.size t a ∧ Blk W0 (w.heap.size + 1) t' b ∧
    Blk W0 (w.heap.size + 2) t'' c ∧ Blk W0 (w.heap.size + 3) t3 d ∧ Below w.heap.size w W0 ∧ W0.heap.size = w.heap.size + 4 := by
  obtain ⟨W1, h1, b1, b2, b3, hb, hs⟩ := start3 w t t' t'' a b c; obtain ⟨W2, h2, b4, hb2, hs2⟩ := start1 W1 t3 d; refine ⟨W2, by rw [h2, h1], b1.below hb2 (by omega), b2.below hb2 (by omega), b3.below hb2 (by omega), by rw [← hs]; exact b4, hb.trans (hb2.mono (by omega)), by omega⟩

/-- Two integers with one exponent are handed back. -/
def RetL (B : Nat) (X Y low : Int) (e : Ending) (w : World) : Prop :=
  ∃ u1 d1 u2 d2, e = .returned (.tuple #[.agg #[.bool (decide (X < 0)), u1], .agg #[.bool (decide (Y < 0)), u2], .int .i64 low]) ∧ Nums w B u1 d1 ∧ Canon d1 X.natAbs ∧ Nums w B u2 d2 ∧ Canon d2 Y.natAbs
/-- An integer raised from its exponent to a lower one. -/
def lift (z x low : Int) : Int := cM z x * 2 ^ (cE z x - low).toNat
def lowE (z x z' x' : Int) : Int := min (cE z x) (cE z' x')

end Go.Proofs.Ytnfbngiabdlclaa
end
section
set_option linter.unusedVariables false
namespace Go.Proofs.Ytnfbngiabdlclaa
open Go.RowKit
open L (val dig nth)

theorem cM_le (z x : Int) : (cM z x).natAbs ≤ z.natAbs := by unfold cM; split <;> simp
end Go.Proofs.Ytnfbngiabdlclaa
end

/- slices.MinFunc and slices.MaxFunc of integers. -/
import Derived.Test.YtnfbngiabdlclaaBa1
set_option linter.unusedVariables false
set_option linter.unusedSimpArgs false
namespace Go.Proofs.Ytnfbngiabdlclaa
open Go.RowKit
open L (val dig nth)

/-- As QC; the cells lie in blocks from B on. -/
def QB (w : World) (B k : Nat) (n : Bool) (A : Option Addr) (len cap : Nat) (z : Int) : Prop := ∃ d, Nums w B (.slice A len cap) d ∧ d.length ≤ k ∧ Canon d z.natAbs ∧ n = decide (z < 0)
section
variable {w w' : World} {B k : Nat} {n : Bool} {A : Option Addr} {len cap : Nat} {z : Int}
theorem QB.qc (h : QB w B k n A len cap z) : QC w k n A len cap z := by
  obtain ⟨d, h1, h2, h3, h4⟩ := h; exact ⟨d, h1.mono (Nat.zero_le _), h2, h3, h4⟩
theorem QB.q (h : QB w B k n A len cap z) : Q w k n A len cap z := h.qc.q
theorem QB.below (h : QB w B k n A len cap z) (hb : Below w.heap.size w w') : QB w' B k n A len cap z := by
  obtain ⟨d, h1, h2, h3⟩ := h; exact ⟨d, h1.below hb, h2, h3⟩
theorem QB.drew (h : QB w B k n A len cap z) : QB w.drew B k n A len cap z := h
theorem QB.mono {B' : Nat} (h : QB w B k n A len cap z) (hB : B' ≤ B) : QB w B' k n A len cap z := by
  obtain ⟨d, h1, h2, h3⟩ := h; exact ⟨d, h1.mono hB, h2, h3⟩
theorem QB.low (h : QB w B k n A len cap z) {p : Addr} (hr : p.block < B) (x : Value) : QB (w.setCell p x) B k n A len cap z := by
  obtain ⟨d, h1, h2, h3⟩ := h; exact ⟨d, h1.set_low hr x, h2, h3⟩
theorem QB.zero (w : World) (B k : Nat) : QB w B k false none 0 0 0 := ⟨[], Nums.nil _ _, Nat.zero_le _, (L.dig_zero W).symm, rfl⟩
theorem QB.up (h : QB w B k n A len cap z) {k' : Nat} (hk : k ≤ k') : QB w B k' n A len cap z := by
  obtain ⟨d, h1, h2, h3⟩ := h; exact ⟨d, h1, Nat.le_trans h2 hk, h3⟩
end
theorem RetZ.qb {w : World} {B k : Nat} {A : Option Addr} {c : Nat} {z : Int} {d : List Nat} (hu : Nums w B (.slice A d.length c) d) (hd : Canon d z.natAbs) (hz : z.natAbs < W ^ k) : QB w B k (decide (z < 0)) A d.length c z :=
  ⟨d, hu, by rw [hd.len]; exact hz, hd, rfl⟩
/-- m integers lie in block g. -/
structure Ints (w : World) (k B g m : Nat) (N : Nat → Bool) (As : Nat → Option Addr) (ls cs : Nat → Nat) (zs : Nat → Int) : Prop where
  lt : g < w.heap.size
  c0 : ∀ i, i < m → w.cell? ⟨g, i * 2, none⟩ = some (.bool (N i))
  c1 : ∀ i, i < m → w.cell? ⟨g, i * 2 + 1, none⟩ = some (.slice (As i) (ls i) (cs i))
  q : ∀ i, i < m → QB w B k (N i) (As i) (ls i) (cs i) (zs i)
theorem Ints.below {w w' : World} {k B g m : Nat} {N : Nat → Bool} {As : Nat → Option Addr} {ls cs : Nat → Nat} {zs : Nat → Int} (h : Ints w k B g m N As ls cs zs) (hb : Below w.heap.size w w') : Ints w' k B g m N As ls cs zs :=
  ⟨Nat.lt_of_lt_of_le h.lt hb.size, fun i hi => (hb.cell (p := ⟨g, i * 2, none⟩) h.lt).trans (h.c0 i hi), fun i hi => (hb.cell (p := ⟨g, i * 2 + 1, none⟩) h.lt).trans (h.c1 i hi), fun i hi => (h.q i hi).below hb⟩

end Go.Proofs.Ytnfbngiabdlclaa

/- ball: may, Right, down, up. -/
import Derived.Test.YtnfbngiabdlclaaZe
set_option linter.unusedVariables false
set_option linter.unusedSimpArgs false
namespace Go.Proofs.Ytnfbngiabdlclaa
open Go.RowKit
open L (val dig nth)

theorem Blk.five {w : World} {g : Nat} {t : TypeId} {a b c d e : Value} (h : Blk w g t #[a, b, c, d, e]) :
    w.cell? ⟨g, 0, none⟩ = some a ∧ w.cell? ⟨g, 1, none⟩ = some b ∧ w.cell? ⟨g, 2, none⟩ = some c ∧ w.cell? ⟨g, 3, none⟩ = some d ∧ w.cell? ⟨g, 4, none⟩ = some e ∧
    w.frozen? ⟨g, 0, none⟩ = false ∧ w.frozen? ⟨g, 1, none⟩ = false ∧ w.frozen? ⟨g, 2, none⟩ = false ∧ w.frozen? ⟨g, 3, none⟩ = false ∧ w.frozen? ⟨g, 4, none⟩ = false :=
  ⟨h.cell 0, h.cell 1, h.cell 2, h.cell 3, h.cell 4, h.frozen 0, h.frozen 1, h.frozen 2, h.frozen 3, h.frozen 4⟩

/-- May a number of places be? -/
def mayQ (q : Int) : Bool := decide (0 ≤ q ∧ q ≤ 2048)
def rightB (x y q : Int) : Bool := mayQ q && decide (x ≤ y)
theorem cmpZ_le (x y : Int) : (cmpZ x y ≤ 0) ↔ x ≤ y := by
  rw [cmpZ_sub]
  constructor
  · intro h
    rcases Int.lt_or_le y x with h1 | h1
    · have := Int.sign_eq_one_of_pos (show 0 < x - y by omega); omega
    · exact h1
  · intro h
    rcases Int.lt_or_eq_of_le h with h1 | h1
    · have := Int.sign_eq_neg_one_of_neg (show x - y < 0 by omega); omega
    · subst h1; rw [Int.sub_self]; decide

theorem c_shl2 {w : World} {k : Nat} {n : Bool} {A : Option Addr} {len cap : Nat} {z : Int} (h : Q w k n A len cap z) (hk : k ≤ 30000) (c : Nat) (hc : c ≤ 8000) :
    Calls Try.prog 59 #[.agg #[.bool n, .slice A len cap], .int .i64 (c : Nat)] w fun e w' => Below w.heap.size w w' ∧ RetZ w.heap.size (z * 2 ^ c) e w' := z_shl h (by omega) c hc
/-- An integer divided by a power of two, downwards; upwards. -/
def vDn (z n : Int) : Int := if n ≤ 0 then z * 2 ^ (-n).toNat else z / 2 ^ n.toNat
def vOv (z n : Int) : Int := -vDn (-z) n
/-- What a result stands for. -/
theorem RetZ.q {w : World} {B k : Nat} {A : Option Addr} {c : Nat} {z : Int} {d : List Nat} (hu : Nums w B (.slice A d.length c) d) (hd : Canon d z.natAbs) (hz : z.natAbs < W ^ k) : Q w k (decide (z < 0)) A d.length c z :=
  ⟨d, hu.mono (Nat.zero_le _), by rw [hd.len]; exact hz, by rw [hd.val, ival_self]⟩

end Go.Proofs.Ytnfbngiabdlclaa

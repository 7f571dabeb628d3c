/- The place of a value's top bit. Plain facts. -/
import Derived.Test.YtnkembnachhicaaFl
set_option linter.unusedVariables false
namespace Go.Proofs.Ytnkembnachhicaa
open Go.RowKit
open L (val dig nth)

theorem sv_one (K : Nat) (n : Int) : sv K 1 n = ((2 ^ (n + K).toNat : Nat) : Int) := by unfold sv; rw [Int.one_mul, natpow]
section
variable {K J : Nat} {V V' lo hi : Int}
theorem InV.lg (h : InV K lo hi V) (h0 : V ≠ 0) : lo ≤ Proofs.Ytnkembnachhicaa.lg K V ∧ Proofs.Ytnkembnachhicaa.lg K V < hi := by
  obtain ⟨a, b, ⟨u, hu⟩, c⟩ := h
  refine ⟨(lg_le h0 a).2 ?_, (lg_lt h0 b).2 c⟩
  rw [hu, sv_natAbs]
  have : u ≠ 0 := by rintro rfl; exact h0 (by rw [hu, sv_zero])
  exact Nat.le_mul_of_pos_left _ (by omega)
theorem lg_low (h0 : V ≠ 0) (hn : 0 ≤ lg K V + K) : 2 ^ (lg K V + K).toNat ≤ V.natAbs := (lg_le h0 hn).1 (Int.le_refl _)
theorem lg_high (h0 : V ≠ 0) (hn : 0 ≤ lg K V + K) : V.natAbs < 2 ^ (lg K V + 1 + K).toNat := (lg_lt h0 (by omega)).1 (by omega)
theorem lg_mul (h0 : V ≠ 0) (h0' : V' ≠ 0) (hn : 0 ≤ lg K V + K) (hn' : 0 ≤ lg J V' + J) : lg (K + J) (V * V') = lg K V + lg J V' ∨ lg (K + J) (V * V') = lg K V + lg J V' + 1 := by
  have hp : V * V' ≠ 0 := fun h => by rcases Int.mul_eq_zero.1 h with h | h; exact h0 h; exact h0' h
  have h1 := Nat.mul_le_mul (lg_low h0 hn) (lg_low h0' hn')
  have h2 := Nat.mul_lt_mul'' (lg_high h0 hn) (lg_high h0' hn')
  rw [← Int.natAbs_mul, ← Nat.pow_add] at h1 h2
  have e1 : lg K V + lg J V' ≤ lg (K + J) (V * V') := (lg_le hp (by omega)).2 (by rw [show (lg K V + lg J V' + ((K + J : Nat) : Int)).toNat = (lg K V + K).toNat + (lg J V' + J).toNat from by omega]; exact h1)
  have e2 : lg (K + J) (V * V') < lg K V + lg J V' + 2 := (lg_lt hp (by omega)).2 (by rw [show (lg K V + lg J V' + 2 + ((K + J : Nat) : Int)).toNat = (lg K V + 1 + K).toNat + (lg J V' + 1 + J).toNat from by omega]; exact h2)
  omega
/-- A power of two against a value without its sign. -/
theorem lg_cmp1 (h0 : V ≠ 0) (hn : 0 ≤ lg K V + K) {T : Int} (hT : T = V.natAbs) : cmpZ (sv K 1 (lg K V)) T ≤ 0 := by
  refine cmpZ_nonpos ?_
  have := lg_low h0 hn
  rw [sv_one, hT]; omega
theorem lg_cmp2 (h0 : V ≠ 0) (hn : 0 ≤ lg K V + K) {T : Int} (hT : T = V.natAbs) : cmpZ T (sv K 1 (lg K V + 1)) = -1 := by
  refine cmpZ_neg ?_
  have := lg_high h0 hn
  rw [sv_one, hT]; omega
end
theorem e_negB {w : World} {k : Nat} {n : Bool} {A : Option Addr} {len cap : Nat} {z x V zz xx : Int} (K : Nat) (h : Q w k n A len cap z) (hK : 4000 ≤ K) (hk : k ≤ 9000) (hx : -100000 ≤ x ∧ x ≤ 100000) (hV : av K z x = V) (hz : pM (-V) = zz) (hxx : pE (-V) (-K) = xx) :
    Calls Try.prog 56 #[.agg #[.bool n, .slice A len cap, .int .i64 x]] w fun e w' => Below w.heap.size w w' ∧ RetQ w.heap.size zz xx e w' ∧ zz.natAbs < W ^ k := by
  have hl := h.lt
  obtain ⟨d, h1, h2, rfl⟩ := h
  refine (neg_dyad_calls w n 0 _ d x h1 (by omega) (by omega) (by omega)).mono ?_
  rintro e w' ⟨hb, h⟩
  rw [neg_eqM K, neg_eqE K hK, hV, hz, hxx] at h
  refine ⟨hb, h, ?_⟩
  rw [← hz, ← hV, ← neg_eqM K]
  exact pM_lt (by rw [Int.natAbs_neg]; exact Nat.lt_of_le_of_lt (cM_le _ x) hl)
end Go.Proofs.Ytnkembnachhicaa

/- Floor and Ceil stand below and above a value. Plain facts. -/
import Derived.Test.YtnkembnachhicaaEv
set_option linter.unusedVariables false
namespace Go.Proofs.Ytnkembnachhicaa
open Go.RowKit
open L (val dig nth)

theorem cmpZ_nonpos {a b : Int} (h : a ≤ b) : cmpZ a b ≤ 0 := by
  unfold cmpZ; split
  · omega
  · rw [if_neg (by omega)]; omega
theorem cmpZ_neg {a b : Int} (h : a < b) : cmpZ a b = -1 := by unfold cmpZ; rw [if_pos h]
theorem cmpZ_zero {a b : Int} : cmpZ a b = 0 ↔ a = b := by
  constructor
  · intro h
    rcases Int.lt_trichotomy a b with h1 | h1 | h1
    · rw [cmpZ_neg h1] at h; omega
    · exact h1
    · unfold cmpZ at h; rw [if_neg (by omega), if_pos h1] at h; omega
  · rintro rfl; exact cmpZ_self _
theorem floor_sv {K J : Nat} {V p : Int} (hKJ : K ≤ J) (hp : 0 ≤ p - K + J) : vFloor K V p = sv J V (p - K) / 2 ^ J := by
  have hq : ∀ (t : Int) (i j : Nat), t * 2 ^ i / 2 ^ (i + j) = t / 2 ^ j := by
    intro t i j
    rw [Int.pow_add, Int.mul_comm t]
    exact Int.mul_ediv_mul_of_pos _ _ (two_pow_int i)
  unfold vFloor sv
  by_cases h : 0 ≤ p
  · rw [if_pos h, show (p - K + J).toNat = p.toNat + (J - K) from by omega, Int.pow_add, ← Int.mul_assoc]
    conv => rhs; rw [show J = (J - K) + K from by omega]
    rw [show J - K + K - K = J - K from by omega, hq]
  · rw [if_neg h]
    conv => rhs; rw [show J = (p - K + J).toNat + (K + (-p).toNat) from by omega]
    rw [show (p - K + ((p - K + J).toNat + (K + (-p).toNat) : Nat)).toNat = (p - K + J).toNat from by omega, hq]
theorem ceil_sv {K J : Nat} {V p : Int} (hKJ : K ≤ J) (hp : 0 ≤ p - K + J) : vCeil K V p = -(-sv J V (p - K) / 2 ^ J) := by
  unfold vCeil; rw [floor_sv hKJ hp, sv_neg]
section
variable {X D f c : Int} (hD : 0 < D) (hf : f = X / D) (hc : c = -(-X / D))
include hD hf hc
theorem fl_le : f * D ≤ X ∧ X ≤ c * D ∧ 0 ≤ c - f ∧ c - f ≤ 1 ∧ (c - f = 0 ↔ f * D = X) ∧ X < f * D + D ∧ c * D < X + D := by
  have h1 := Int.mul_ediv_add_emod X D
  have h2 := Int.emod_nonneg X (show D ≠ 0 by omega)
  have h3 := Int.emod_lt_of_pos X hD
  have h4 := Int.mul_ediv_add_emod (-X) D
  have h5 := Int.emod_nonneg (-X) (show D ≠ 0 by omega)
  have h6 := Int.emod_lt_of_pos (-X) hD
  rw [← hf, Int.mul_comm] at h1
  rw [show -X / D = -c from by omega, Int.mul_neg, Int.mul_comm] at h4
  have h7 : (c - f) * D = X % D + -X % D := by rw [Int.sub_mul]; omega
  have h8 : 0 ≤ c - f := by
    rcases Int.lt_or_le (c - f) 0 with h | h
    · have : (c - f) * D < 0 := Int.mul_neg_of_neg_of_pos h hD
      omega
    · exact h
  have h9 : c - f ≤ 1 := by
    rcases Int.lt_or_le 1 (c - f) with h | h
    · have : 2 * D ≤ (c - f) * D := Int.mul_le_mul_of_nonneg_right (by omega) (by omega)
      omega
    · exact h
  refine ⟨by omega, by omega, h8, h9, ?_, by omega, by omega⟩
  constructor
  · intro h; rw [h, Int.zero_mul] at h7; omega
  · intro h
    have h10 : (c - f) * D < 1 * D := by omega
    have := Int.lt_of_mul_lt_mul_right h10 (by omega)
    omega
end
section
variable {K J : Nat} {lo hi V p : Int}
theorem InV.shift (h : InV K lo hi V) (hp : 0 ≤ p - K + J) (hl : 0 ≤ lo + p + J) : InV J (lo + p) (hi + p) (sv J V (p - K)) := by
  obtain ⟨a, b, ⟨u, hu⟩, c⟩ := h
  have hpos : 0 ≤ hi + p + J := by omega
  refine ⟨hl, hpos, ⟨u, ?_⟩, ?_⟩
  · rw [hu]; unfold sv
    rw [Int.mul_assoc, ← Int.pow_add]; congr 2; omega
  · rw [sv_natAbs, show (hi + p + J).toNat = (hi + K).toNat + (p - K + J).toNat from by omega, Nat.pow_add]
    exact Nat.mul_lt_mul_of_pos_right c (Nat.two_pow_pos _)
theorem InV.of_near {X L : Int} {h : Int} (hh : 0 ≤ h) (hX : X.natAbs < 2 ^ (h + J).toNat) (hL : (L - X).natAbs < 2 ^ J) : L.natAbs < 2 ^ (h + 1 + J).toNat := by
  have h1 : 2 ^ J ≤ 2 ^ (h + J).toNat := Nat.pow_le_pow_right (by omega) (by omega)
  rw [show (h + 1 + (J : Int)).toNat = (h + J).toNat + 1 from by omega, Nat.pow_succ]
  omega
theorem InV.floor (h : InV K lo hi V) (hKJ : K ≤ J) (hp : 0 ≤ p - K + J) (hl : 0 ≤ lo + p + J) (hh : 0 ≤ hi + p) : InV J 0 (hi + p + 1) (sv J (vFloor K V p) 0) ∧ InV J 0 (hi + p + 1) (sv J (vCeil K V p) 0) := by
  have hX := h.shift hp hl
  have hD : (0 : Int) < 2 ^ J := two_pow_int J
  have hfl := fl_le (X := sv J V (p - K)) hD (floor_sv hKJ hp) (ceil_sv hKJ hp)
  have hs : ∀ u, sv J u 0 = u * 2 ^ J := by intro u; unfold sv; rw [show (0 + (J : Int)).toNat = J from by omega]
  have hDn : ((2 : Int) ^ J) = ((2 ^ J : Nat) : Int) := natpow J
  refine ⟨⟨by omega, by omega, ⟨_, rfl⟩, ?_⟩, ⟨by omega, by omega, ⟨_, rfl⟩, ?_⟩⟩
  · exact InV.of_near hh hX.2.2.2 (by rw [hs]; omega)
  · exact InV.of_near hh hX.2.2.2 (by rw [hs]; omega)
end
end Go.Proofs.Ytnkembnachhicaa

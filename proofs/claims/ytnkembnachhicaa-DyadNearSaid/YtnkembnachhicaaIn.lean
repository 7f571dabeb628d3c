/- How far values reach: sums and products of small dyads count. Plain facts. -/
import Derived.Test.YtnkembnachhicaaEq
set_option linter.unusedVariables false
namespace Go.Proofs.Ytnkembnachhicaa
open Go.RowKit
open L (val dig nth)

/-- A value of whole places of 2^lo, below 2^hi. -/
def InV (K : Nat) (lo hi V : Int) : Prop := 0 ≤ lo + K ∧ 0 ≤ hi + K ∧ (∃ u : Int, V = sv K u lo) ∧ V.natAbs < 2 ^ (hi + K).toNat
section
variable {K J : Nat} {lo hi lo' hi' V V' : Int}
theorem InV.mono (h : InV K lo hi V) (h1 : lo' ≤ lo) (h2 : 0 ≤ lo' + K) (h3 : hi ≤ hi') : InV K lo' hi' V := by
  obtain ⟨a, b, ⟨u, hu⟩, c⟩ := h
  refine ⟨h2, by omega, ⟨u * 2 ^ (lo - lo').toNat, ?_⟩, Nat.lt_of_lt_of_le c (Nat.pow_le_pow_right (by omega) (by omega))⟩
  rw [sv_low K u lo lo' h1 h2]; exact hu
theorem two_pow_step {a b : Nat} {e : Int} (he : 0 ≤ e) (ha : a < 2 ^ e.toNat) (hb : b < 2 ^ e.toNat) : a + b < 2 ^ (e + 1).toNat := by
  rw [show (e + 1).toNat = e.toNat + 1 from by omega, Nat.pow_succ]; omega
theorem InV.add (h : InV K lo hi V) (h' : InV K lo hi V') : InV K lo (hi + 1) (V + V') := by
  obtain ⟨a, b, ⟨u, hu⟩, c⟩ := h
  obtain ⟨a', b', ⟨u', hu'⟩, c'⟩ := h'
  refine ⟨a, by omega, ⟨u + u', by rw [sv_add, ← hu, ← hu']⟩, Nat.lt_of_le_of_lt (Int.natAbs_add_le _ _) ?_⟩
  rw [show hi + 1 + (K : Int) = hi + K + 1 from by omega]
  exact two_pow_step b c c'
theorem InV.neg (h : InV K lo hi V) : InV K lo hi (-V) := by
  obtain ⟨a, b, ⟨u, hu⟩, c⟩ := h
  exact ⟨a, b, ⟨-u, by rw [sv_neg, ← hu]⟩, by rw [Int.natAbs_neg]; exact c⟩
theorem InV.sub (h : InV K lo hi V) (h' : InV K lo hi V') : InV K lo (hi + 1) (V - V') := by
  rw [Int.sub_eq_add_neg]; exact h.add h'.neg
theorem InV.mul (h : InV K lo hi V) (h' : InV J lo' hi' V') : InV (K + J) (lo + lo') (hi + hi') (V * V') := by
  obtain ⟨a, b, ⟨u, hu⟩, c⟩ := h
  obtain ⟨a', b', ⟨u', hu'⟩, c'⟩ := h'
  refine ⟨by omega, by omega, ⟨u * u', by rw [sv_mul K J _ _ _ _ a a', ← hu, ← hu']⟩, ?_⟩
  rw [Int.natAbs_mul, show (hi + hi' + ((K + J : Nat) : Int)).toNat = (hi + K).toNat + (hi' + J).toNat from by omega, Nat.pow_add]
  exact Nat.mul_lt_mul'' c c'
theorem InV.pE (h : InV K lo hi V) : V = 0 ∧ pE V (-K) = 0 ∨ lo ≤ pE V (-K) ∧ pE V (-K) ≤ hi := by
  by_cases h0 : V = 0
  · left; subst h0; exact ⟨rfl, pE_zero _⟩
  · right
    obtain ⟨a, b, hu, c⟩ := h
    exact pE_bounds' h0 hu a c b
theorem sv_self (K : Nat) (V : Int) : sv K V (-K) = V := by
  unfold sv; rw [show (-(K : Int) + K).toNat = 0 from by omega, Int.pow_zero, Int.mul_one]
/-- What is answered, handed in again, counts. -/
theorem InV.av (h : InV K lo hi V) (h1 : -4000 ≤ lo) (h2 : hi ≤ 4000) : Proofs.Ytnkembnachhicaa.av K (pM V) (Proofs.Ytnkembnachhicaa.pE V (-K)) = V := by
  have hb := h.pE
  rw [av_of (by omega) (by omega), sv_plain K V _ (by omega), sv_self]
theorem InV.bd (h : InV K lo hi V) (h1 : -4000 ≤ lo) (h2 : hi ≤ 4000) : -4000 ≤ Proofs.Ytnkembnachhicaa.pE V (-K) ∧ Proofs.Ytnkembnachhicaa.pE V (-K) ≤ 4000 := by
  have hb := h.pE
  omega
end
theorem InV.small {K : Nat} (hK : 4000 ≤ K) {z x : Int} {k : Nat} {m : Int} (hz : z.natAbs < W ^ k) (hx : -m ≤ x ∧ x ≤ m) (hm : m ≤ 4000) (hm0 : 0 ≤ m) : InV K (-m) (64 * k + m) (Proofs.Ytnkembnachhicaa.av K z x) := by
  rw [av_of (by omega) (by omega)]
  refine ⟨by omega, by omega, ⟨z * 2 ^ (x - -m).toNat, by rw [sv_low K z x (-m) (by omega) (by omega)]⟩, ?_⟩
  rw [sv_natAbs, show (64 * (k : Int) + m + K).toNat = 64 * k + (m + K).toNat from by omega, Nat.pow_add]
  rw [W_pow] at hz
  exact Nat.lt_of_lt_of_le (Nat.mul_lt_mul_of_pos_right hz (Nat.two_pow_pos _)) (Nat.mul_le_mul_left _ (Nat.pow_le_pow_right (by omega) (by omega)))
theorem tmod_bd (x : Int) (m : Nat) (hm : 0 < m) : -((m : Int) - 1) ≤ x.tmod m ∧ x.tmod m ≤ (m : Int) - 1 := by
  have h1 := Int.natAbs_tmod x m
  rw [Int.natAbs_natCast] at h1
  have h2 := Nat.mod_lt x.natAbs hm
  omega
theorem cmpZ_sub (a b : Int) : cmpZ a b = (a - b).sign := by
  unfold cmpZ
  rcases sign_cases (a - b) with ⟨h, h'⟩ | ⟨h, h'⟩ | ⟨h, h'⟩ <;> rw [h]
  · rw [if_pos (by omega)]
  · rw [if_neg (by omega), if_neg (by omega)]
  · rw [if_neg (by omega), if_pos (by omega)]
end Go.Proofs.Ytnkembnachhicaa

/- dyad.Mul; zed.Shl, Sub, Sign, Cmp in the values' words. Contracts of dyad and zed whose results are canonical. The references' Equal: are two integers, two dyads the very same? How far values reach: sums and products of small dyads count. Plain facts. Contracts of dyad with what they come to named by equations: for the laws' walks. -/
import Derived.Test.YtnfbngiabdlclaaLaws
import Derived.Test.YtnfbngiabdlclaaRefs
section
set_option linter.unusedVariables false
set_option linter.unusedSimpArgs false
namespace Go.Proofs.Ytnfbngiabdlclaa
open Go.RowKit
open L (val dig nth)

section
variable {w : World} {k k' : Nat} {n m : Bool} {A A' : Option Addr} {len cap len' cap' : Nat} {z z' x y : Int}
theorem c_zsign (h : Q w k n A len cap z) (hk : k ≤ 50000) :
    Calls Try.prog 33 #[.agg #[.bool n, .slice A len cap]] w fun e w' => Below w.heap.size w w' ∧ e = .returned (.int .i64 z.sign) := by
  obtain ⟨d, h1, h2, h3⟩ := h; exact zsign_eq w n 0 _ d z.sign (by rw [h3]) h1 (by omega)
theorem c_zcmp (h : Q w k n A len cap z) (h' : Q w k' m A' len' cap' z') (hk : k ≤ 50000) (hk' : k' ≤ 50000) :
    Calls Try.prog 10 #[.agg #[.bool n, .slice A len cap], .agg #[.bool m, .slice A' len' cap']] w fun e w' => Below w.heap.size w w' ∧ e = .returned (.int .i64 (cmpZ z z')) := by
  obtain ⟨d, h1, h2, rfl⟩ := h; obtain ⟨d', h1', h2', rfl⟩ := h'; exact zcmp_calls w n m 0 0 _ _ d d' h1 h1' (by omega) (by omega)
end
end Go.Proofs.Ytnfbngiabdlclaa
end
section
set_option linter.unusedVariables false
set_option linter.unusedSimpArgs false
namespace Go.Proofs.Ytnfbngiabdlclaa
open Go.RowKit
open L (val dig nth)

/-- A struct's sign and slice are just the integer z as it is answered. -/
def QC (w : World) (k : Nat) (n : Bool) (A : Option Addr) (len cap : Nat) (z : Int) : Prop := ∃ d, Nums w 0 (.slice A len cap) d ∧ d.length ≤ k ∧ Canon d z.natAbs ∧ n = decide (z < 0)
section
variable {w w' : World} {k : Nat} {n : Bool} {A : Option Addr} {len cap : Nat} {z : Int}
theorem QC.q (h : QC w k n A len cap z) : Q w k n A len cap z := by
  obtain ⟨d, h1, h2, h3, rfl⟩ := h; exact ⟨d, h1, h2, by rw [h3.val, ival_self]⟩
theorem QC.below (h : QC w k n A len cap z) (hb : Below w.heap.size w w') : QC w' k n A len cap z := by
  obtain ⟨d, h1, h2⟩ := h; exact ⟨d, h1.below hb, h2⟩
theorem QC.drew (h : QC w k n A len cap z) : QC w.drew k n A len cap z := h
theorem QC.drewN (h : QC w k n A len cap z) (m : Nat) : QC (w.drewN m) k n A len cap z := h
end
def RetDC (k : Nat) (z x : Int) (e : Ending) (w : World) : Prop := ∃ n A len cap, e = .returned (.agg #[.bool n, .slice A len cap, .int .i64 x]) ∧ QC w k n A len cap z
def RetIC (k : Nat) (z : Int) (e : Ending) (w : World) : Prop := ∃ n A len cap, e = .returned (.agg #[.bool n, .slice A len cap]) ∧ QC w k n A len cap z
section
variable {w : World} {k k' : Nat} {n m : Bool} {A A' : Option Addr} {len cap len' cap' : Nat} {z z' x y : Int}
end
end Go.Proofs.Ytnfbngiabdlclaa
end
section
set_option linter.unusedVariables false
set_option linter.unusedSimpArgs false
namespace Go.Proofs.Ytnfbngiabdlclaa
open Go.RowKit
open L (val dig nth)

end Go.Proofs.Ytnfbngiabdlclaa
end
section
set_option linter.unusedVariables false
namespace Go.Proofs.Ytnfbngiabdlclaa
open Go.RowKit
open L (val dig nth)

/-- A value of whole places of 2^lo, below 2^hi. -/
def InV (K : Nat) (lo hi V : Int) : Prop := 0 ≤ lo + K ∧ 0 ≤ hi + K ∧ (∃ u : Int, V = sv K u lo) ∧ V.natAbs < 2 ^ (hi + K).toNat
section
variable {K J : Nat} {lo hi lo' hi' V V' : Int}
theorem InV.mono (h : InV K lo hi V) (h1 : lo' ≤ lo) (h2 : 0 ≤ lo' + K) (h3 : hi ≤ hi') : InV K lo' hi' V := by
  obtain ⟨a, b, ⟨u, hu⟩, c⟩ := h; refine ⟨h2, by omega, ⟨u * 2 ^ (lo - lo').toNat, ?_⟩, Nat.lt_of_lt_of_le c (Nat.pow_le_pow_right (by omega) (by omega))⟩; rw [sv_low K u lo lo' h1 h2]; exact hu
theorem two_pow_step {a b : Nat} {e : Int} (he : 0 ≤ e) (ha : a < 2 ^ e.toNat) (hb : b < 2 ^ e.toNat) : a + b < 2 ^ (e + 1).toNat := by
  rw [show (e + 1).toNat = e.toNat + 1 from by omega, Nat.pow_succ]; omega
theorem InV.add (h : InV K lo hi V) (h' : InV K lo hi V') : InV K lo (hi + 1) (V + V') := by
  obtain ⟨a, b, ⟨u, hu⟩, c⟩ := h; obtain ⟨a', b', ⟨u', hu'⟩, c'⟩ := h'; refine ⟨a, by omega, ⟨u + u', by rw [sv_add, ← hu, ← hu']⟩, Nat.lt_of_le_of_lt (Int.natAbs_add_le _ _) ?_⟩; rw [show hi + 1 + (K : Int) = hi + K + 1 from by omega]; exact two_pow_step b c c'
theorem InV.neg (h : InV K lo hi V) : InV K lo hi (-V) := by
  obtain ⟨a, b, ⟨u, hu⟩, c⟩ := h; exact ⟨a, b, ⟨-u, by rw [sv_neg, ← hu]⟩, by rw [Int.natAbs_neg]; exact c⟩
theorem InV.sub (h : InV K lo hi V) (h' : InV K lo hi V') : InV K lo (hi + 1) (V - V') := by
  rw [Int.sub_eq_add_neg]; exact h.add h'.neg
theorem InV.mul (h : InV K lo hi V) (h' : InV J lo' hi' V') : InV (K + J) (lo + lo') (hi + hi') (V * V') := by
  obtain ⟨a, b, ⟨u, hu⟩, c⟩ := h; obtain ⟨a', b', ⟨u', hu'⟩, c'⟩ := h'; refine ⟨by omega, by omega, ⟨u * u', by rw [sv_mul K J _ _ _ _ a a', ← hu, ← hu']⟩, ?_⟩; rw [Int.natAbs_mul, show (hi + hi' + ((K + J : Nat) : Int)).toNat = (hi + K).toNat + (hi' + J).toNat from by omega, Nat.pow_add]; exact Nat.mul_lt_mul'' c c'
theorem InV.pE (h : InV K lo hi V) : V = 0 ∧ pE V (-K) = 0 ∨ lo ≤ pE V (-K) ∧ pE V (-K) ≤ hi := by
  by_cases h0 : V = 0
  · left; subst h0; exact ⟨rfl, pE_zero _⟩
  · right
    obtain ⟨a, b, hu, c⟩ := h; exact pE_bounds' h0 hu a c b
theorem sv_self (K : Nat) (V : Int) : sv K V (-K) = V := by
  unfold sv; rw [show (-(K : Int) + K).toNat = 0 from by omega, Int.pow_zero, Int.mul_one]
/-- What is answered, handed in again, counts. -/
theorem InV.av (h : InV K lo hi V) (h1 : -4000 ≤ lo) (h2 : hi ≤ 4000) : Proofs.Ytnfbngiabdlclaa.av K (pM V) (Proofs.Ytnfbngiabdlclaa.pE V (-K)) = V := by
  have hb := h.pE; rw [av_of (by omega) (by omega), sv_plain K V _ (by omega), sv_self]
theorem InV.bd (h : InV K lo hi V) (h1 : -4000 ≤ lo) (h2 : hi ≤ 4000) : -4000 ≤ Proofs.Ytnfbngiabdlclaa.pE V (-K) ∧ Proofs.Ytnfbngiabdlclaa.pE V (-K) ≤ 4000 := by
  have hb := h.pE
  omega
end
theorem InV.small {K : Nat} (hK : 4000 ≤ K) {z x : Int} {k : Nat} {m : Int} (hz : z.natAbs < W ^ k) (hx : -m ≤ x ∧ x ≤ m) (hm : m ≤ 4000) (hm0 : 0 ≤ m) : InV K (-m) (64 * k + m) (Proofs.Ytnfbngiabdlclaa.av K z x) := by
  rw [av_of (by omega) (by omega)]; refine ⟨by omega, by omega, ⟨z * 2 ^ (x - -m).toNat, by rw [sv_low K z x (-m) (by omega) (by omega)]⟩, ?_⟩; rw [sv_natAbs, show (64 * (k : Int) + m + K).toNat = 64 * k + (m + K).toNat from by omega, Nat.pow_add]; rw [W_pow] at hz; exact Nat.lt_of_lt_of_le (Nat.mul_lt_mul_of_pos_right hz (Nat.two_pow_pos _)) (Nat.mul_le_mul_left _ (Nat.pow_le_pow_right (by omega) (by omega)))
theorem cmpZ_sub (a b : Int) : cmpZ a b = (a - b).sign := by
  unfold cmpZ
  rcases sign_cases (a - b) with ⟨h, h'⟩ | ⟨h, h'⟩ | ⟨h, h'⟩ <;> rw [h]
  · rw [if_pos (by omega)]
  · rw [if_neg (by omega), if_neg (by omega)]
  · rw [if_neg (by omega), if_pos (by omega)]
end Go.Proofs.Ytnfbngiabdlclaa
end
section
set_option linter.unusedVariables false
set_option linter.unusedSimpArgs false
namespace Go.Proofs.Ytnfbngiabdlclaa
open Go.RowKit
open L (val dig nth)

theorem z_shl_lt {z : Int} {k c t : Nat} (hz : z.natAbs < W ^ k) (hc : c ≤ 64 * t) : (z * 2 ^ c).natAbs < W ^ (k + t) := by
  have := len_mul2 (d := dig W (z * 2 ^ c).natAbs) (k := k) (n := c) (t := t) (z := z) rfl hz hc
  rwa [L.dig_len W_gt] at this
theorem z_shl {w : World} {k : Nat} {n : Bool} {A : Option Addr} {len cap : Nat} {z : Int} (h : Q w k n A len cap z) (hk : k ≤ 50000) (c : Nat) (hc : c ≤ 8000) :
    Calls Try.prog 59 #[.agg #[.bool n, .slice A len cap], .int .i64 (c : Nat)] w fun e w' => Below w.heap.size w w' ∧ RetZ w.heap.size (z * 2 ^ c) e w' := by
  obtain ⟨d, h1, h2, rfl⟩ := h; exact zshl_eq w n 0 _ d c c _ h1 (by omega) (by omega) (by omega) rfl rfl
section
variable {w : World} {k k' : Nat} {n m : Bool} {A A' : Option Addr} {len cap len' cap' : Nat} {z z' x y V V' zz xx : Int}
end
end Go.Proofs.Ytnfbngiabdlclaa
end

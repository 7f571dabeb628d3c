/- The document's numbers: digits of thirty-two bits: Trim, Digits, Limbs, Norm. The document's numbers: sums, differences of digits. The document's numbers: differences of digits, comparing, a digit's multiple. The document's numbers: products of digits. The document's numbers: Add, Sub, Mul, Shl, Shr, BitLen, Same. The document's numbers: Shl, Shr, BitLen. -/
import Derived.Test.YtnfbngiabdlclaaNats
section
set_option linter.unusedVariables false
namespace Go.Proofs.Ytnfbngiabdlclaa
open Go.RowKit
open L (val dig nth)

/-- The base of the digits. -/
def B32 : Nat := 4294967296
theorem B32_gt : 1 < B32 := by unfold B32; omega
theorem B32_pos : 0 < B32 := by unfold B32; omega
theorem B32_lt : B32 ≤ W := by unfold B32 W; omega
theorem W_B32 : W = B32 * B32 := rfl

/-- The digits d are those of the number N, without noughts on top. -/
def CanonD (d : List Nat) (N : Nat) : Prop := d = dig B32 N
theorem CanonD.val {d : List Nat} {N : Nat} (h : CanonD d N) : L.val B32 d = N := by rw [show d = dig B32 N from h, L.val_dig B32_gt]
theorem CanonD.lt {d : List Nat} {N : Nat} (h : CanonD d N) : ∀ x ∈ d, x < B32 := by rw [show d = dig B32 N from h]; exact L.dig_lt B32_gt N
theorem CanonD.len {d : List Nat} {N m : Nat} (h : CanonD d N) : d.length ≤ m ↔ N < B32 ^ m := by rw [show d = dig B32 N from h]; exact L.dig_len B32_gt N m
def RetG (B N : Nat) (e : Ending) (w : World) : Prop := ∃ u d, e = .returned u ∧ Nums w B u d ∧ CanonD d N
theorem nthD_lt {l : List Nat} (h : ∀ x ∈ l, x < B32) (i : Nat) : nth l i < 4294967296 := L.lt_of_getD B32_pos l h i

theorem B32_pow (k : Nat) : B32 ^ (2 * k) = W ^ k := by rw [Nat.pow_mul, W_B32, Nat.pow_two]

theorem dig_of_ge {b : Nat} (hb : 1 < b) (l : List Nat) (hl : ∀ x ∈ l, x < b) (hge : l.length = 0 ∨ b ^ (l.length - 1) ≤ val b l) : dig b (val b l) = l := by
  refine L.dig_val hb l hl ?_
  intro x hx h0
  have hp : 0 < l.length := by
    rcases Nat.eq_zero_or_pos l.length with h | h
    · rw [List.eq_nil_of_length_eq_zero h] at hx; cases hx
    · exact h
  rcases hge with hge | hge
  · omega
  · have e := L.val_take_step b l (l.length - 1)
    rw [List.take_of_length_le (by omega)] at e
    have hn : nth l (l.length - 1) = 0 := by
      rw [L.nth_def, List.getD_eq_getElem?_getD, ← List.getLast?_eq_getElem?, hx, h0]; rfl
    rw [hn] at e
    have h1 := L.val_lt (b := b) (l.take (l.length - 1)) (fun x hx => hl x (List.mem_of_mem_take hx))
    rw [List.length_take, Nat.min_eq_left (by omega)] at h1
    omega

theorem limbs_step (d o : List Nat) (k x : Nat) (ho : o.length = k) (h : val W o = val B32 (d.take (2 * k))) (hx : x = nth d (2 * k) + B32 * nth d (2 * k + 1)) :
    val W (o ++ [x]) = val B32 (d.take (2 * (k + 1))) := by
  rw [L.val_append, ho, h, show 2 * (k + 1) = 2 * k + 1 + 1 from by omega, L.val_take_step B32 d (2 * k + 1), L.val_take_step B32 d (2 * k), Nat.pow_succ, B32_pow, L.val_cons, L.val_nil, hx]
  rw [Nat.mul_zero, Nat.add_zero, Nat.mul_add, Nat.mul_assoc]
  omega

end Go.Proofs.Ytnfbngiabdlclaa
end
section
set_option linter.unusedVariables false
namespace Go.Proofs.Ytnfbngiabdlclaa
open Go.RowKit
open L (val dig nth)

/-- What is handed back reads as digits that stand for N, at most m of them. -/
def RetV (B N m : Nat) (e : Ending) (w : World) : Prop := ∃ u o, e = .returned u ∧ Nums w B u o ∧ (∀ x ∈ o, x < B32) ∧ val B32 o = N ∧ o.length ≤ m

end Go.Proofs.Ytnfbngiabdlclaa
end
section
set_option linter.unusedVariables false
namespace Go.Proofs.Ytnfbngiabdlclaa
open Go.RowKit
open L (val dig nth)

end Go.Proofs.Ytnfbngiabdlclaa
end
section
set_option linter.unusedVariables false
namespace Go.Proofs.Ytnfbngiabdlclaa
open Go.RowKit
open L (val dig nth)

end Go.Proofs.Ytnfbngiabdlclaa
end
section
set_option linter.unusedVariables false
namespace Go.Proofs.Ytnfbngiabdlclaa
open Go.RowKit
open L (val dig nth)

theorem digits_len {d l : List Nat} (hd : CanonD d (val W l)) (hl : ∀ x ∈ l, x < W) : d.length ≤ 2 * l.length := by
  rw [hd.len]
  have h1 := L.val_lt l hl
  rwa [← B32_pow] at h1

end Go.Proofs.Ytnfbngiabdlclaa
end
section
set_option linter.unusedVariables false
namespace Go.Proofs.Ytnfbngiabdlclaa
open Go.RowKit
open L (val dig nth)

theorem pow2_lt {s : Nat} (hs : s < 32) : 2 ^ s < 4294967296 := by
  have : 2 ^ s ≤ 2 ^ 31 := Nat.pow_le_pow_right (by omega) (by omega)
  omega
theorem wrap_pow2 {s : Nat} (hs : s < 32) : IntKind.u64.wrap ((2 : Int) ^ s) = ((2 ^ s : Nat) : Int) := by
  rw [natpow]
  have := pow2_lt hs
  generalize 2 ^ s = x at *
  exact IntWalk.u64_in _ (by omega)
theorem B32_pow2 (k : Nat) : B32 ^ k = 2 ^ (32 * k) := by rw [Nat.pow_mul]; rfl

end Go.Proofs.Ytnfbngiabdlclaa
end

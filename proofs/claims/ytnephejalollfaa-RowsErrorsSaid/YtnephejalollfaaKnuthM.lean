/- Long division in limbs: the whole of it, plain. -/
import Derived.Test.YtnephejalollfaaKnuthL
set_option linter.unusedVariables false
set_option linter.unusedSimpArgs false
namespace Go.Proofs.Ytnephejalollfaa.L

theorem val_split (b : Nat) (l : List Nat) (k : Nat) (h : k ≤ l.length) : val b l = val b (l.take k) + b ^ k * val b (l.drop k) := by
  conv => lhs; rw [← List.take_append_drop k l]
  rw [val_append, List.length_take, Nat.min_eq_left h]
/-- What lies above a number that is small. -/
theorem seg_all {b : Nat} (hb : 0 < b) (P : List Nat) (hP : ∀ x ∈ P, x < b) (k n V : Nat) (hV : V ≤ b ^ n) (hT : val b (P.drop (k + 1)) < V) (hlen : k + n + 1 ≤ P.length) :
    val b (P.drop k) = seg b P k (n + 1) ∧ val b (P.drop (k + (n + 1))) = 0 := by
  have h0 : val b (P.drop (k + (n + 1))) = 0 := by
    rw [show k + (n + 1) = (k + 1) + n from by omega, ← List.drop_drop (i := n) (j := k + 1), val_drop b hb _ (fun x hx => hP x (List.mem_of_mem_drop hx))]
    exact Nat.div_eq_of_lt (by omega)
  refine ⟨?_, h0⟩
  unfold seg
  rw [val_split b (P.drop k) (n + 1) (by rw [List.length_drop]; omega), List.drop_drop, h0, Nat.mul_zero, Nat.add_zero]
theorem long_lt {b : Nat} (hb : 0 < b) (P : List Nat) (hP : ∀ x ∈ P, x < b) (k n V : Nat) (hV : V ≤ b ^ n) (hT : val b (P.drop (k + 1)) < V) (hlen : k + n + 1 ≤ P.length) : seg b P k (n + 1) < b * V := by
  rw [← (seg_all hb P hP k n V hV hT hlen).1, val_drop_step b P k (by omega)]
  have h1 := lt_of_getD hb P hP k
  have h2 : b * (val b (P.drop (k + 1)) + 1) ≤ b * V := Nat.mul_le_mul_left _ hT
  rw [Nat.mul_add, Nat.mul_one] at h2
  omega
theorem long_step {b : Nat} (hb : 0 < b) (P P' o : List Nat) (hP : ∀ x ∈ P, x < b) (N k n V : Nat) (hV : V ≤ b ^ n) (hT : val b (P.drop (k + 1)) < V) (hlen : k + n + 1 ≤ P.length)
    (H : N = val b P + V * (b ^ (k + 1) * val b (o.drop (k + 1)))) (hk : k < o.length) (hS : Seg P P' k (n + 1)) (hr : seg b P' k (n + 1) = seg b P k (n + 1) % V) :
    N = val b P' + V * (b ^ k * val b ((o.set k (seg b P k (n + 1) / V)).drop k)) ∧ val b (P'.drop k) < V := by
  obtain ⟨h1, h0⟩ := seg_all hb P hP k n V hV hT hlen
  have hV0 : 0 < V := by omega
  have h2 : val b (P'.drop k) = seg b P' k (n + 1) := by
    unfold seg
    rw [val_split b (P'.drop k) (n + 1) (by rw [List.length_drop, hS.1]; omega), List.drop_drop, hS.2.2, h0, Nat.mul_zero, Nat.add_zero]
  have e1 := val_split b P k (by omega)
  have e2 := val_split b P' k (by rw [hS.1]; omega)
  rw [hS.2.1] at e2
  have e3 := Nat.div_add_mod (seg b P k (n + 1)) V
  rw [drop_set_self o k _ hk, val_cons]
  rw [h1] at e1
  rw [h2, hr] at e2 ⊢
  generalize seg b P k (n + 1) = A at *
  refine ⟨?_, Nat.mod_lt _ hV0⟩
  rw [H, e1, e2, Nat.pow_succ]
  generalize val b (o.drop (k + 1)) = D at *
  generalize val b (P.take k) = E at *
  generalize b ^ k = X at *
  generalize A / V = Q at *
  generalize A % V = R at *
  subst e3
  have : V * (X * (Q + b * D)) = X * (V * Q) + V * (X * b * D) := by rw [Nat.mul_add, Nat.mul_add, Nat.mul_left_comm, Nat.mul_assoc X b D]
  rw [this, Nat.mul_add]
  omega
/-- The end of a long division of both numbers times a power of two. -/
theorem long_end {p q s N v o : Nat} (hq : 0 < q) (H : p * 2 ^ s = v + q * 2 ^ s * o) (hv : v < q * 2 ^ s) : o = p / q ∧ v / 2 ^ s = p % q := by
  have h1 : p * 2 ^ s / (q * 2 ^ s) = o := by rw [H, Nat.add_comm, Nat.mul_add_div (by omega), Nat.div_eq_of_lt hv, Nat.add_zero]
  have h2 : p * 2 ^ s % (q * 2 ^ s) = v := by rw [H, Nat.add_mul_mod_self_left, Nat.mod_eq_of_lt hv]
  rw [Nat.mul_div_mul_right _ _ (Nat.two_pow_pos s)] at h1
  rw [Nat.mul_mod_mul_right] at h2
  exact ⟨h1.symm, by rw [← h2, Nat.mul_div_cancel _ (Nat.two_pow_pos s)]⟩
/-- The divisor's top limb, once its highest bit has been moved up. -/
theorem top_half {b m V t vl : Nat} (hb2 : b % 2 = 0) (hV : V = t * b ^ m + vl) (hvl : vl < b ^ m) (h : b ^ (m + 1) ≤ 2 * V) : b ≤ 2 * t := by
  rw [Nat.pow_succ] at h
  generalize b ^ m = X at *
  have h1 : X * b < 2 * (t + 1) * X := by rw [Nat.mul_add, Nat.add_mul, Nat.mul_one]; have : 2 * t * X = 2 * (t * X) := Nat.mul_assoc _ _ _; omega
  rw [Nat.mul_comm X] at h1
  have h2 := Nat.lt_of_mul_lt_mul_right h1
  omega
end Go.Proofs.Ytnephejalollfaa.L

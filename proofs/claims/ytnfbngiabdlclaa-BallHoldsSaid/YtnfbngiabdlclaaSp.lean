/- Plain laws of balls: order, the least ball of other places. No program in sight. -/
import Derived.Test.YtnfbngiabdlclaaBl1
set_option linter.unusedVariables false
set_option linter.unusedSimpArgs false
namespace Go.Proofs.Ytnfbngiabdlclaa

theorem rightB_iff {x y q : Int} : rightB x y q = true ↔ (0 ≤ q ∧ q ≤ 2048) ∧ x ≤ y := by
  unfold rightB mayQ
  rw [Bool.and_eq_true, decide_eq_true_eq, decide_eq_true_eq]
theorem p2_pos (n : Nat) : (0 : Int) < 2 ^ n := Int.pow_pos (by omega)
theorem insB_iff {x0 x1 p y0 y1 q : Int} : insB x0 x1 p y0 y1 q = true ↔ rightB x0 x1 p = true ∧ rightB y0 y1 q = true ∧ y0 * 2 ^ (2048 - q).toNat ≤ x0 * 2 ^ (2048 - p).toNat ∧ x1 * 2 ^ (2048 - p).toNat ≤ y1 * 2 ^ (2048 - q).toNat := by
  unfold insB befB
  simp only [Bool.and_eq_true, decide_eq_true_eq, and_assoc]
theorem metB_iff {x0 x1 p y0 y1 q : Int} : metB x0 x1 p y0 y1 q = true ↔ rightB x0 x1 p = true ∧ rightB y0 y1 q = true ∧ y0 * 2 ^ (2048 - q).toNat ≤ x1 * 2 ^ (2048 - p).toNat ∧ x0 * 2 ^ (2048 - p).toNat ≤ y1 * 2 ^ (2048 - q).toNat := by
  unfold metB befB
  simp only [Bool.and_eq_true, decide_eq_true_eq, and_assoc]
theorem ins_trans {x0 x1 p y0 y1 q z0 z1 r : Int} (h : insB x0 x1 p y0 y1 q = true) (h' : insB y0 y1 q z0 z1 r = true) : insB x0 x1 p z0 z1 r = true := by
  rw [insB_iff] at h h' ⊢
  exact ⟨h.1, h'.2.1, Int.le_trans h'.2.2.1 h.2.2.1, Int.le_trans h.2.2.2 h'.2.2.2⟩
theorem scale_le {a b : Int} (h : a ≤ b) (n : Nat) : a * 2 ^ n ≤ b * 2 ^ n := Int.mul_le_mul_of_nonneg_right h (Int.le_of_lt (p2_pos n))
theorem ins_met {x0 x1 p y0 y1 q : Int} (h : insB x0 x1 p y0 y1 q = true) : metB x0 x1 p y0 y1 q = true := by
  rw [insB_iff] at h
  rw [metB_iff]
  have h1 := scale_le (rightB_iff.1 h.1).2 (2048 - p).toNat
  exact ⟨h.1, h.2.1, Int.le_trans h.2.2.1 h1, Int.le_trans h1 h.2.2.2⟩
theorem met_comm (x0 x1 p y0 y1 q : Int) : metB x0 x1 p y0 y1 q = metB y0 y1 q x0 x1 p := by
  rw [Bool.eq_iff_iff, metB_iff, metB_iff]
  exact ⟨fun h => ⟨h.2.1, h.1, h.2.2.2, h.2.2.1⟩, fun h => ⟨h.2.1, h.1, h.2.2.2, h.2.2.1⟩⟩
theorem ins_self {x0 x1 p : Int} (h : rightB x0 x1 p = true) : insB x0 x1 p x0 x1 p = true := by
  rw [insB_iff]
  exact ⟨h, h, Int.le_refl _, Int.le_refl _⟩
/-- An end at other places, downwards. -/
theorem dn_core (z : Int) {p q : Int} (hp0 : 0 ≤ p) (hp : p ≤ 2048) (hq0 : 0 ≤ q) (hq : q ≤ 2048) :
    vDn z (p - q) * 2 ^ (2048 - q).toNat ≤ z * 2 ^ (2048 - p).toNat ∧ z * 2 ^ (2048 - p).toNat < (vDn z (p - q) + 1) * 2 ^ (2048 - q).toNat ∧ (p ≤ q → vDn z (p - q) * 2 ^ (2048 - q).toNat = z * 2 ^ (2048 - p).toNat) := by
  unfold vDn
  by_cases h : p - q ≤ 0
  · rw [if_pos h]
    have e : (2048 - p).toNat = (-(p - q)).toNat + (2048 - q).toNat := by omega
    have e2 : z * 2 ^ (-(p - q)).toNat * 2 ^ (2048 - q).toNat = z * 2 ^ (2048 - p).toNat := by rw [e, Int.pow_add, Int.mul_assoc]
    have h3 := p2_pos (2048 - q).toNat
    refine ⟨Int.le_of_eq e2, ?_, fun _ => e2⟩
    rw [Int.add_mul, e2]
    omega
  · rw [if_neg h]
    have e : (2048 - q).toNat = (p - q).toNat + (2048 - p).toNat := by omega
    have h1 := Int.ediv_mul_le z (Int.ne_of_gt (p2_pos (p - q).toNat))
    have h2 := Int.lt_ediv_add_one_mul_self z (p2_pos (p - q).toNat)
    refine ⟨?_, ?_, fun h' => by omega⟩
    · rw [e, Int.pow_add, ← Int.mul_assoc]
      exact scale_le h1 _
    · rw [e, Int.pow_add, ← Int.mul_assoc]
      exact Int.mul_lt_mul_of_pos_right h2 (p2_pos _)
theorem ov_core (z : Int) {p q : Int} (hp0 : 0 ≤ p) (hp : p ≤ 2048) (hq0 : 0 ≤ q) (hq : q ≤ 2048) :
    z * 2 ^ (2048 - p).toNat ≤ vOv z (p - q) * 2 ^ (2048 - q).toNat ∧ (vOv z (p - q) - 1) * 2 ^ (2048 - q).toNat < z * 2 ^ (2048 - p).toNat ∧ (p ≤ q → vOv z (p - q) * 2 ^ (2048 - q).toNat = z * 2 ^ (2048 - p).toNat) := by
  unfold vOv
  obtain ⟨h1, h2, h3⟩ := dn_core (-z) hp0 hp hq0 hq
  generalize vDn (-z) (p - q) = t at h1 h2 h3
  rw [Int.neg_mul] at h1 h2 h3
  rw [show (-t - 1 : Int) = -(t + 1) by omega, Int.neg_mul, Int.neg_mul]
  refine ⟨by omega, by omega, fun h => by have := h3 h; omega⟩
section
variable {x y p q : Int} (h : rightB x y p = true) (hq0 : 0 ≤ q) (hq : q ≤ 2048)
include h hq0 hq
theorem tight_right : rightB (vDn x (p - q)) (vOv y (p - q)) q = true := by
  obtain ⟨⟨hp0, hp⟩, hle⟩ := rightB_iff.1 h
  refine rightB_iff.2 ⟨⟨hq0, hq⟩, ?_⟩
  have h1 := (dn_core x hp0 hp hq0 hq).1
  have h2 := (ov_core y hp0 hp hq0 hq).1
  exact Int.le_of_mul_le_mul_right (Int.le_trans h1 (Int.le_trans (scale_le hle _) h2)) (p2_pos (2048 - q).toNat)
theorem tight_ins : insB x y p (vDn x (p - q)) (vOv y (p - q)) q = true := by
  obtain ⟨⟨hp0, hp⟩, hle⟩ := rightB_iff.1 h
  exact insB_iff.2 ⟨h, tight_right h hq0 hq, (dn_core x hp0 hp hq0 hq).1, (ov_core y hp0 hp hq0 hq).1⟩
theorem tight_one : insB x y p (vDn x (p - q) + 1) (vOv y (p - q)) q = false := by
  obtain ⟨⟨hp0, hp⟩, hle⟩ := rightB_iff.1 h
  rw [Bool.eq_false_iff]
  intro h'
  have h1 := (insB_iff.1 h').2.2.1
  have h2 := (dn_core x hp0 hp hq0 hq).2.1
  omega
theorem tight_two : insB x y p (vDn x (p - q)) (vOv y (p - q) - 1) q = false := by
  obtain ⟨⟨hp0, hp⟩, hle⟩ := rightB_iff.1 h
  rw [Bool.eq_false_iff]
  intro h'
  have h1 := (insB_iff.1 h').2.2.2
  have h2 := (ov_core y hp0 hp hq0 hq).2.1
  omega
theorem tight_back (hpq : p ≤ q) : insB (vDn x (p - q)) (vOv y (p - q)) q x y p = true := by
  obtain ⟨⟨hp0, hp⟩, hle⟩ := rightB_iff.1 h
  exact insB_iff.2 ⟨tight_right h hq0 hq, h, Int.le_of_eq ((dn_core x hp0 hp hq0 hq).2.2 hpq).symm, Int.le_of_eq ((ov_core y hp0 hp hq0 hq).2.2 hpq)⟩
end
end Go.Proofs.Ytnfbngiabdlclaa

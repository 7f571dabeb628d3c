/- Plain laws of balls: what comes of two numbers lies in what comes of their balls. -/
import Derived.Test.YtnfbngiabdlclaaSp
import Derived.Test.YtnfbngiabdlclaaBl2
import Derived.Test.YtnfbngiabdlclaaSa3
import Derived.Test.YtnfbngiabdlclaaRb1
set_option linter.unusedVariables false
set_option linter.unusedSimpArgs false
namespace Go.Proofs.Ytnfbngiabdlclaa

/-- The value of z at q places. -/
def vz (z q : Int) : Int := z * 2 ^ (4000 - q).toNat
theorem vFloor_at (z : Int) {q : Int} (h0 : 0 ≤ q) (h1 : q ≤ 255) : vFloor 4000 (vz z q) (nearZ q) = z := by
  have hn : nearZ q = q := by unfold nearZ; omega
  unfold vFloor vz
  rw [hn, if_pos h0, Int.mul_assoc, ← Int.pow_add, show (4000 - q).toNat + q.toNat = 4000 by omega]
  exact Int.mul_ediv_cancel _ (Int.ne_of_gt (p2_pos _))
theorem vz_neg (z q : Int) : -vz z q = vz (-z) q := by unfold vz; rw [Int.neg_mul]
theorem vCeil_at (z : Int) {q : Int} (h0 : 0 ≤ q) (h1 : q ≤ 255) : vCeil 4000 (vz z q) (nearZ q) = z := by
  unfold vCeil
  rw [vz_neg, vFloor_at _ h0 h1]
  omega
theorem vz_sv {z q : Int} (h0 : 0 ≤ q) (h1 : q ≤ 255) : av 4000 z (-q) = vz z q := by
  rw [av_of (by omega) (by omega)]
  unfold sv vz
  rw [show (-q + ((4000 : Nat) : Int)).toNat = (4000 - q).toNat by omega]
theorem vz_in {z q : Int} {k : Nat} (h0 : 0 ≤ q) (h1 : q ≤ 255) (hz : z.natAbs < W ^ k) : InV 4000 (-255) (64 * k + 255) (vz z q) := by
  rw [← vz_sv h0 h1]
  exact InV.small (Nat.le_refl _) hz (by omega) (by omega) (by omega)
theorem nM_at {z q : Int} (h0 : 0 ≤ q) (h1 : q ≤ 255) : nM z (-q) = pM (vz z q) := by rw [nM_eq 4000, vz_sv h0 h1]
theorem nE_at {z q : Int} (h0 : 0 ≤ q) (h1 : q ≤ 255) : nE z (-q) = pE (vz z q) (-((4000 : Nat) : Int)) := by rw [nE_eq (Nat.le_refl 4000), vz_sv h0 h1]
/-- A number between the ends lies in the ball, however it is written. -/
theorem has_of {x y q z m e : Int} (h : rightB x y q = true) (hq : q ≤ 255) (hv : av 4000 m e = vz z q) (h0 : x ≤ z) (h1 : z ≤ y) : hasB x y q m e = true := by
  obtain ⟨⟨q0, -⟩, -⟩ := rightB_iff.1 h
  unfold hasB
  rw [h, hv, vFloor_at z q0 hq, vCeil_at z q0 hq]
  simp [h0, h1]
theorem someZ_in {x y i : Int} (h : x ≤ y) (h0 : 0 ≤ i) (h1 : i ≤ 15) : x ≤ someZ x y i ∧ someZ x y i ≤ y := by
  unfold someZ
  have g0 : 0 ≤ (y - x) * i := Int.mul_nonneg (by omega) h0
  have g1 : (y - x) * i ≤ (y - x) * 15 := Int.mul_le_mul_of_nonneg_left h1 (by omega)
  omega
theorem bil (x y u v a b : Int) (h0 : x ≤ a) (h1 : a ≤ y) (h2 : u ≤ b) (h3 : b ≤ v) : min4 (x * u) (x * v) (y * u) (y * v) ≤ a * b ∧ a * b ≤ max4 (x * u) (x * v) (y * u) (y * v) := by
  have e1 : ∀ c, (x * c ≤ a * c ∧ a * c ≤ y * c) ∨ (y * c ≤ a * c ∧ a * c ≤ x * c) := fun c => by
    rcases Int.le_total 0 c with hc | hc
    · exact .inl ⟨Int.mul_le_mul_of_nonneg_right h0 hc, Int.mul_le_mul_of_nonneg_right h1 hc⟩
    · exact .inr ⟨Int.mul_le_mul_of_nonpos_right h1 hc, Int.mul_le_mul_of_nonpos_right h0 hc⟩
  have e2 : (a * u ≤ a * b ∧ a * b ≤ a * v) ∨ (a * v ≤ a * b ∧ a * b ≤ a * u) := by
    rcases Int.le_total 0 a with hc | hc
    · exact .inl ⟨Int.mul_le_mul_of_nonneg_left h2 hc, Int.mul_le_mul_of_nonneg_left h3 hc⟩
    · exact .inr ⟨Int.mul_le_mul_of_nonpos_left hc h3, Int.mul_le_mul_of_nonpos_left hc h2⟩
  have f1 := e1 u
  have f2 := e1 v
  unfold min4 max4
  omega
theorem floor_le {m z : Int} (n : Nat) (h : m ≤ z) : m / 2 ^ n ≤ z / 2 ^ n := Int.ediv_le_ediv (p2_pos n) h
/-- The product's value. -/
theorem vFloor_mul (z : Int) {q : Int} (h0 : 0 ≤ q) (h1 : q ≤ 255) : vFloor 4000 (z * 2 ^ (4000 - 2 * q).toNat) (nearZ q) = z / 2 ^ q.toNat := by
  have hn : nearZ q = q := by unfold nearZ; omega
  unfold vFloor
  rw [hn, if_pos h0, Int.mul_assoc, ← Int.pow_add, show (4000 - 2 * q).toNat + q.toNat = (4000 - q).toNat by omega]
  have e : (2 : Int) ^ 4000 = 2 ^ q.toNat * 2 ^ (4000 - q).toNat := by rw [← Int.pow_add]; congr 1; omega
  rw [e]
  exact Int.mul_ediv_mul_of_pos_left _ _ (p2_pos _)
theorem vDn_at (z : Int) {q : Int} (h0 : 0 ≤ q) : vDn z q = z / 2 ^ q.toNat := vDn_ge h0
/-- What is answered for a product, handed in again. -/
theorem av_mul {zx zy q : Int} {k : Nat} (h0 : 0 ≤ q) (h1 : q ≤ 255) (hx : zx.natAbs < W ^ k) (hy : zy.natAbs < W ^ k) (hk : k ≤ 8) :
    av 4000 (pM (vz zx q * vz zy q)) (pE (vz zx q * vz zy q) (-((4000 + 4000 : Nat) : Int))) = zx * zy * 2 ^ (4000 - 2 * q).toNat := by
  have e1 : vz zx q * vz zy q = sv (4000 + 4000) (zx * zy) (-q + -q) := by
    rw [sv_mul 4000 4000 zx zy (-q) (-q) (by omega) (by omega)]
    unfold sv vz
    rw [show (-q + ((4000 : Nat) : Int)).toNat = (4000 - q).toNat by omega]
  have e2 : zx * zy * 2 ^ (4000 - 2 * q).toNat = sv 4000 (zx * zy) (-q + -q) := by
    unfold sv
    rw [show (-q + -q + ((4000 : Nat) : Int)).toNat = (4000 - 2 * q).toNat by omega]
  rw [e1, e2, pM_sv, pE_sv _ _ _ (by omega), ← pM_sv 4000 (zx * zy) (-q + -q), ← pE_sv 4000 (zx * zy) (-q + -q) (by omega)]
  have hxy : (zx * zy).natAbs < W ^ (k + k) := by rw [Int.natAbs_mul, Nat.pow_add]; exact Nat.mul_lt_mul'' hx hy
  have hI : InV 4000 (-510) (64 * (k + k : Nat) + 510) (sv 4000 (zx * zy) (-q + -q)) := by
    have := InV.small (K := 4000) (x := -q + -q) (m := 510) (Nat.le_refl _) hxy (by omega) (by omega) (by omega)
    rwa [av_of (by omega) (by omega)] at this
  exact hI.av (by omega) (by omega)
theorem has_mul {a0 a1 b0 b1 q zx zy : Int} {k : Nat} (ha : rightB a0 a1 q = true) (hb : rightB b0 b1 q = true) (hq : q ≤ 255) (h0 : a0 ≤ zx) (h1 : zx ≤ a1) (h2 : b0 ≤ zy) (h3 : zy ≤ b1)
    (hx : zx.natAbs < W ^ k) (hy : zy.natAbs < W ^ k) (hk : k ≤ 8) :
    hasB (vDn (min4 (a0 * b0) (a0 * b1) (a1 * b0) (a1 * b1)) q) (vOv (max4 (a0 * b0) (a0 * b1) (a1 * b0) (a1 * b1)) q) q (pM (vz zx q * vz zy q)) (pE (vz zx q * vz zy q) (-((4000 + 4000 : Nat) : Int))) = true := by
  obtain ⟨⟨q0, q1⟩, -⟩ := rightB_iff.1 ha
  obtain ⟨g1, g2⟩ := bil a0 a1 b0 b1 zx zy h0 h1 h2 h3
  unfold hasB
  rw [av_mul q0 hq hx hy hk, vFloor_mul _ q0 hq]
  have hc : vCeil 4000 (zx * zy * 2 ^ (4000 - 2 * q).toNat) (nearZ q) = -((-(zx * zy)) / 2 ^ q.toNat) := by
    unfold vCeil
    rw [show -(zx * zy * 2 ^ (4000 - 2 * q).toNat) = -(zx * zy) * 2 ^ (4000 - 2 * q).toNat by rw [Int.neg_mul], vFloor_mul _ q0 hq]
  rw [hc]
  unfold vOv
  rw [vDn_at _ q0, vDn_at _ q0]
  have f1 := floor_le q.toNat g1
  have f2 := floor_le q.toNat (show -max4 (a0 * b0) (a0 * b1) (a1 * b0) (a1 * b1) ≤ -(zx * zy) by omega)
  have f3 : zx * zy / 2 ^ q.toNat ≤ -((-(zx * zy)) / 2 ^ q.toNat) := by
    have e1 := Int.ediv_mul_le (zx * zy) (Int.ne_of_gt (p2_pos q.toNat))
    have e2 := Int.ediv_mul_le (-(zx * zy)) (Int.ne_of_gt (p2_pos q.toNat))
    have e3 := p2_pos q.toNat
    refine Int.le_of_mul_le_mul_right ?_ e3
    rw [Int.neg_mul]
    omega
  have hr : rightB (min4 (a0 * b0) (a0 * b1) (a1 * b0) (a1 * b1) / 2 ^ q.toNat) (-(-max4 (a0 * b0) (a0 * b1) (a1 * b0) (a1 * b1) / 2 ^ q.toNat)) q = true := rightB_iff.2 ⟨⟨q0, q1⟩, by omega⟩
  rw [hr]
  simp only [Bool.true_and, Bool.and_eq_true, decide_eq_true_eq]
  omega
/-! ### the quotient -/
theorem vLo_eq (q x y : Int) : vLo q x y = vDown (x * 2 ^ q.toNat) y := by
  unfold vLo vUp
  rw [Int.neg_neg, Int.neg_neg]
theorem vHi_eq (q x y : Int) : vHi q x y = -vDown (-(x * 2 ^ q.toNat)) y := rfl
theorem vDown_pos {z y : Int} (h : 0 < y) : vDown z y * y ≤ z := by
  unfold vDown
  rw [if_neg (by omega)]
  exact Int.ediv_mul_le z (by omega)
theorem vDown_neg {z y : Int} (h : y < 0) : z ≤ vDown z y * y := by
  unfold vDown
  rw [if_pos h]
  have := Int.ediv_mul_le (-z) (b := -y) (by omega)
  rw [Int.mul_neg] at this
  omega
theorem min4_le (a b c d : Int) : min4 a b c d ≤ a ∧ min4 a b c d ≤ b ∧ min4 a b c d ≤ c ∧ min4 a b c d ≤ d := by unfold min4; omega
theorem le_max4 (a b c d : Int) : a ≤ max4 a b c d ∧ b ≤ max4 a b c d ∧ c ≤ max4 a b c d ∧ d ≤ max4 a b c d := by unfold max4; omega
theorem vDown_up {z y : Int} (h : y ≠ 0) : vDown z y ≤ -vDown (-z) y := by
  rcases Int.lt_or_gt_of_ne h with hy | hy
  · have e1 := vDown_neg (z := z) hy
    have e2 := vDown_neg (z := -z) hy
    have : (vDown z y + vDown (-z) y) * y ≥ 0 := by rw [Int.add_mul]; omega
    rcases Int.lt_or_le 0 (vDown z y + vDown (-z) y) with h1 | h1
    · have := Int.mul_neg_of_pos_of_neg h1 hy
      omega
    · omega
  · have e1 := vDown_pos (z := z) hy
    have e2 := vDown_pos (z := -z) hy
    have : (vDown z y + vDown (-z) y) * y ≤ 0 := by rw [Int.add_mul]; omega
    rcases Int.lt_or_le 0 (vDown z y + vDown (-z) y) with h1 | h1
    · have := Int.mul_pos h1 hy
      omega
    · omega
theorem div_right {a0 a1 b0 b1 q : Int} (ha : rightB a0 a1 q = true) (hne : b0 ≠ 0) : rightB (min4 (vLo q a0 b0) (vLo q a0 b1) (vLo q a1 b0) (vLo q a1 b1)) (max4 (vHi q a0 b0) (vHi q a0 b1) (vHi q a1 b0) (vHi q a1 b1)) q = true := by
  obtain ⟨hq', -⟩ := rightB_iff.1 ha
  refine rightB_iff.2 ⟨hq', ?_⟩
  have e1 := (min4_le (vLo q a0 b0) (vLo q a0 b1) (vLo q a1 b0) (vLo q a1 b1)).1
  have e2 := (le_max4 (vHi q a0 b0) (vHi q a0 b1) (vHi q a1 b0) (vHi q a1 b1)).1
  have e3 := vDown_up (z := a0 * 2 ^ q.toNat) hne
  rw [← vLo_eq, ← vHi_eq] at e3
  omega
theorem has_div {a0 a1 b0 b1 q zx : Int} (ha : rightB a0 a1 q = true) (hq : q ≤ 255) (h0 : a0 ≤ zx) (h1 : zx ≤ a1) (hne : b0 ≠ 0) {m e : Int} (hv : av 4000 m e = vz zx q) :
    hasB (vDn (min4 (min4 (vLo q a0 b0) (vLo q a0 b1) (vLo q a1 b0) (vLo q a1 b1) * b0) (min4 (vLo q a0 b0) (vLo q a0 b1) (vLo q a1 b0) (vLo q a1 b1) * b1) (max4 (vHi q a0 b0) (vHi q a0 b1) (vHi q a1 b0) (vHi q a1 b1) * b0) (max4 (vHi q a0 b0) (vHi q a0 b1) (vHi q a1 b0) (vHi q a1 b1) * b1)) q)
      (vOv (max4 (min4 (vLo q a0 b0) (vLo q a0 b1) (vLo q a1 b0) (vLo q a1 b1) * b0) (min4 (vLo q a0 b0) (vLo q a0 b1) (vLo q a1 b0) (vLo q a1 b1) * b1) (max4 (vHi q a0 b0) (vHi q a0 b1) (vHi q a1 b0) (vHi q a1 b1) * b0) (max4 (vHi q a0 b0) (vHi q a0 b1) (vHi q a1 b0) (vHi q a1 b1) * b1)) q) q m e = true := by
  obtain ⟨⟨q0, q1⟩, -⟩ := rightB_iff.1 ha
  obtain ⟨e1, -, e2, -⟩ := min4_le (vLo q a0 b0) (vLo q a0 b1) (vLo q a1 b0) (vLo q a1 b1)
  obtain ⟨e3, -, e4, -⟩ := le_max4 (vHi q a0 b0) (vHi q a0 b1) (vHi q a1 b0) (vHi q a1 b1)
  generalize hdl : min4 (vLo q a0 b0) (vLo q a0 b1) (vLo q a1 b0) (vLo q a1 b1) = dl at e1 e2 ⊢
  generalize hdh : max4 (vHi q a0 b0) (vHi q a0 b1) (vHi q a1 b0) (vHi q a1 b1) = dh at e3 e4 ⊢
  rw [vLo_eq] at e1 e2
  rw [vHi_eq] at e3 e4
  have s0 := scale_le h0 q.toNat
  have s1 := scale_le h1 q.toNat
  obtain ⟨f1, -, f2, -⟩ := min4_le (dl * b0) (dl * b1) (dh * b0) (dh * b1)
  obtain ⟨f3, -, f4, -⟩ := le_max4 (dl * b0) (dl * b1) (dh * b0) (dh * b1)
  generalize min4 (dl * b0) (dl * b1) (dh * b0) (dh * b1) = mn at f1 f2 ⊢
  generalize max4 (dl * b0) (dl * b1) (dh * b0) (dh * b1) = mx at f3 f4 ⊢
  have key : mn ≤ zx * 2 ^ q.toNat ∧ zx * 2 ^ q.toNat ≤ mx := by
    rcases Int.lt_or_gt_of_ne hne with hy | hy
    · have k1 := vDown_neg (z := a1 * 2 ^ q.toNat) hy
      have k2 := vDown_neg (z := -(a0 * 2 ^ q.toNat)) hy
      have k3 := Int.mul_le_mul_of_nonpos_right e2 (Int.le_of_lt hy)
      have k4 := Int.mul_le_mul_of_nonpos_right e3 (Int.le_of_lt hy)
      rw [Int.neg_mul] at k4
      omega
    · have k1 := vDown_pos (z := a0 * 2 ^ q.toNat) hy
      have k2 := vDown_pos (z := -(a1 * 2 ^ q.toNat)) hy
      have k3 := Int.mul_le_mul_of_nonneg_right e1 (Int.le_of_lt hy)
      have k4 := Int.mul_le_mul_of_nonneg_right e4 (Int.le_of_lt hy)
      rw [Int.neg_mul] at k4
      omega
  have g1 : mn / 2 ^ q.toNat ≤ zx := by
    have := floor_le q.toNat key.1
    rwa [Int.mul_ediv_cancel _ (Int.ne_of_gt (p2_pos _))] at this
  have g2 : -mx / 2 ^ q.toNat ≤ -zx := by
    have := floor_le q.toNat (show -mx ≤ -zx * 2 ^ q.toNat by rw [Int.neg_mul]; omega)
    rwa [Int.mul_ediv_cancel _ (Int.ne_of_gt (p2_pos _))] at this
  have hr : rightB (vDn mn q) (vOv mx q) q = true := by
    refine rightB_iff.2 ⟨⟨q0, q1⟩, ?_⟩
    unfold vOv
    rw [vDn_at _ q0, vDn_at _ q0]
    omega
  refine has_of hr hq hv ?_ ?_
  · rw [vDn_at _ q0]; exact g1
  · unfold vOv; rw [vDn_at _ q0]; omega
theorem has_zero {b0 b1 q : Int} (hb : rightB b0 b1 q = true) (hq : q ≤ 255) : hasB b0 b1 q 0 0 = decide (b0 ≤ 0 ∧ 0 ≤ b1) := by
  obtain ⟨⟨q0, -⟩, -⟩ := rightB_iff.1 hb
  have hv : av 4000 0 0 = vz 0 q := by unfold vz; rw [av_of (by omega) (by omega), sv_zero, Int.zero_mul]
  unfold hasB
  rw [hb, hv, vFloor_at 0 q0 hq, vCeil_at 0 q0 hq]
  simp
theorem sign_mul_pos {b0 b1 : Int} (h : b0 ≤ b1) : decide (0 < b0.sign * b1.sign) = !decide (b0 ≤ 0 ∧ 0 ≤ b1) := by
  rw [Bool.eq_iff_iff]
  simp only [Bool.not_eq_true', decide_eq_true_eq, decide_eq_false_iff_not]
  rcases sign_cases b0 with ⟨h1, h2⟩ | ⟨h1, h2⟩ | ⟨h1, h2⟩ <;> rcases sign_cases b1 with ⟨h3, h4⟩ | ⟨h3, h4⟩ | ⟨h3, h4⟩ <;> rw [h1, h3] <;> simp <;> omega
end Go.Proofs.Ytnfbngiabdlclaa

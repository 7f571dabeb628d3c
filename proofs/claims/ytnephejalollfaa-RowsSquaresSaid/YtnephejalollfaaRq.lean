/- The laws of the five sums: order, more places. The squares of sine and cosine: the plain law. -/
import Derived.Test.YtnephejalollfaaRk
section
set_option linter.unusedVariables false
set_option linter.unusedSimpArgs false
set_option linter.unusedSectionVars false
namespace Go.Proofs.Ytnephejalollfaa
open Go.RowKit
open L (val dig nth)
/-! ### the laws of the five sums -/
section
variable {t q : Int} (hq : 0 ≤ q) (h0 : 0 ≤ t) (h : t * 2 ≤ 1 * 2 ^ q.toNat)
include h0 h
theorem up_most {y : Int} (hy : 1 ≤ y) : t * 2 ≤ y * 2 ^ q.toNat := by
  have hp := two_pow_pos q
  have : 1 * 2 ^ q.toNat ≤ y * 2 ^ q.toNat := Int.mul_le_mul_of_nonneg_right hy (by omega)
  omega
include hq
end
/-! ### more places -/
section
variable {t q m : Int} (hq : 0 ≤ q) (hm : 0 ≤ m) (h0 : 0 ≤ t) (h : t * 2 ≤ 1 * 2 ^ q.toNat)
include hq hm h0 h
end

/-! ### the parts -/
theorem part_lim {n : Bool} {L : List Nat} {q : Int} (hq : 1 ≤ q) : 0 ≤ partZ n L q ∧ partZ n L q * 2 ≤ 1 * 2 ^ q.toNat := by
  have hp := two_pow_pos (q - 1)
  have e : (2 : Int) ^ q.toNat = 2 ^ (q - 1).toNat * 2 := by
    rw [show q.toNat = (q - 1).toNat + 1 by omega, Int.pow_succ]
  unfold partZ
  have h1 := Int.emod_nonneg (ival n (val W (L.take 8))) (show (1 : Int) * 2 ^ (q - 1).toNat ≠ 0 by omega)
  have h2 := Int.emod_lt_of_pos (ival n (val W (L.take 8))) (show (0 : Int) < 1 * 2 ^ (q - 1).toNat by omega)
  omega
theorem mostK_ge (kd : Nat) : 1 ≤ mostK kd := by
  unfold mostK
  split <;> omega
theorem may_part {kd : Nat} {t q n : Int} (hq : 0 ≤ q ∧ q ≤ 1200) (hn : 1 ≤ n ∧ n ≤ 400) (h0 : 0 ≤ t) (h : t * 2 ≤ 1 * 2 ^ q.toNat) : mayR t q n (mostK kd) = true := by
  unfold mayR
  have := up_most h0 h (mostK_ge kd)
  simp only [Bool.and_eq_true, decide_eq_true_eq]
  exact ⟨hq.1, hq.2, hn.1, hn.2, h0, this⟩
theorem bits_range6 (q : Int) (m : Nat) (hm : m < 1000) : 0 ≤ bits .and .i64 q m ∧ bits .and .i64 q m ≤ m := by
  have h0 : (BitVec.ofInt 64 (m : Int)).toNat = m := by
    rw [BitVec.ofInt_natCast, BitVec.toNat_ofNat]
    exact Nat.mod_eq_of_lt (by omega)
  have h1 : ((BitVec.ofInt 64 q) &&& (BitVec.ofInt 64 (m : Int))).toNat ≤ m := by
    rw [BitVec.toNat_and, h0]
    exact Nat.and_le_right
  have h2 : bits .and .i64 q m = IntKind.i64.wrap (((BitVec.ofInt 64 q) &&& (BitVec.ofInt 64 (m : Int))).toNat : Int) := rfl
  rw [h2]
  generalize ((BitVec.ofInt 64 q) &&& (BitVec.ofInt 64 (m : Int))).toNat = t at h1
  rw [IntWalk.i64_in _ (by omega)]
  omega
theorem cmp_order {a b : Int} (h : a ≤ b) : cmpZ a b ≤ 0 := (cmpZ_le _ _).2 h
end Go.Proofs.Ytnephejalollfaa
end
section
set_option linter.unusedVariables false
set_option linter.unusedSimpArgs false
set_option linter.unusedSectionVars false
namespace Go.Proofs.Ytnephejalollfaa.Sq
open Go.RowKit
def sg (k : Nat) : Rat := if k % 2 = 1 then -1 else 1
theorem sg_succ (k : Nat) : sg (k + 1) = - sg k := by
  unfold sg
  by_cases h : k % 2 = 1
  · rw [if_pos h, if_neg (by omega)]; decide +kernel
  · rw [if_neg h, if_pos (by omega)]
theorem sg_sq (k : Nat) : sg k * sg k = 1 := by
  unfold sg
  by_cases h : k % 2 = 1
  · rw [if_pos h]; decide +kernel
  · rw [if_neg h]; decide +kernel
def sR (x : Rat) : Nat → Rat
  | 0 => x
  | k + 1 => sR x k * (x * x) / ((2 * (k : Rat) + 2) * (2 * (k : Rat) + 3))
def cR (x : Rat) : Nat → Rat
  | 0 => 1
  | k + 1 => cR x k * (x * x) / ((2 * (k : Rat) + 1) * (2 * (k : Rat) + 2))
def sumR (a : Nat → Rat) : Nat → Rat
  | 0 => 0
  | k + 1 => sumR a k + sg k * a k
theorem cast_nonneg (k : Nat) : (0 : Rat) ≤ (k : Rat) := by exact_mod_cast Nat.zero_le k
theorem mul_ne {a b : Rat} (ha : 0 < a) (hb : 0 < b) : a * b ≠ 0 := Rat.ne_of_gt (Rat.mul_pos ha hb)
theorem dm (a : Rat) {b : Rat} (h : b ≠ 0) : a / b * b = a := Rat.div_mul_cancel h
theorem cancel {a b d : Rat} (h : a * d = b * d) (hd : d ≠ 0) : a = b := by
  have := congrArg (· / d) h
  simp only [Rat.mul_div_cancel hd] at this
  exact this
theorem sR_succ (x : Rat) (k : Nat) : sR x (k + 1) * ((2 * (k : Rat) + 2) * (2 * (k : Rat) + 3)) = sR x k * (x * x) := by
  have h0 := cast_nonneg k
  exact dm _ (mul_ne (by grind) (by grind))
theorem cR_succ (x : Rat) (k : Nat) : cR x (k + 1) * ((2 * (k : Rat) + 1) * (2 * (k : Rat) + 2)) = cR x k * (x * x) := by
  have h0 := cast_nonneg k
  exact dm _ (mul_ne (by grind) (by grind))
theorem cast_succ (k : Nat) : ((k + 1 : Nat) : Rat) = (k : Rat) + 1 := Rat.natCast_add k 1
theorem xc (x : Rat) (k : Nat) : x * cR x k = (2 * (k : Rat) + 1) * sR x k := by
  induction k with
  | zero => simp [cR, sR]; grind
  | succ k ih =>
    have h0 := cast_nonneg k
    have h1 := sR_succ x k
    have h2 := cR_succ x k
    rw [cast_succ]
    generalize (k : Rat) = K at *
    generalize sR x (k + 1) = s1 at *
    generalize cR x (k + 1) = c1 at *
    generalize sR x k = s at *
    generalize cR x k = c at *
    refine cancel (d := (2 * K + 1) * (2 * K + 2)) ?_ (mul_ne (by grind) (by grind))
    grind
theorem xs (x : Rat) (k : Nat) : x * sR x k = (2 * (k : Rat) + 2) * cR x (k + 1) := by
  have h0 := cast_nonneg k
  have h := xc x k
  have h2 := cR_succ x k
  generalize (k : Rat) = K at *
  generalize cR x (k + 1) = c1 at *
  generalize sR x k = s at *
  generalize cR x k = c at *
  refine cancel (d := (2 * K + 1)) ?_ (by grind)
  grind
def gR (x : Rat) (M : Nat) (k : Nat) : Rat := cR x k / (2 * (k : Rat) + 2 * (M : Rat))
theorem gR_mul (x : Rat) {M k : Nat} (hM : 0 < M) : gR x M k * (2 * (k : Rat) + 2 * (M : Rat)) = cR x k := by
  have h0 := cast_nonneg k
  have hN0 : (0 : Rat) < (M : Rat) := by exact_mod_cast hM
  exact dm _ (by grind)
theorem tele (x : Rat) (N n : Nat) (hN : 0 < N) :
    (x * x) * sumR (gR x (N + 1)) n + (2 * (N : Rat)) * (2 * (N : Rat) + 1) * sumR (gR x N) n = x * sumR (sR x) n + (2 * (N : Rat) + 1) * sumR (cR x) n + (2 * (N : Rat) + 1) * (sg n * (2 * (n : Rat)) * gR x N n) := by
  have hN0 : (0 : Rat) < (N : Rat) := by exact_mod_cast hN
  induction n with
  | zero => simp [sumR]; grind
  | succ n ih =>
    have h0 := cast_nonneg n
    have h1 := xs x n
    have h3 := cR_succ x n
    have g1 := gR_mul x (M := N) (k := n) hN
    have g2 := gR_mul x (M := N) (k := n + 1) hN
    have g3 := gR_mul x (M := N + 1) (k := n) (by omega)
    simp only [sumR]
    rw [sg_succ]
    rw [cast_succ] at g2 g3 ⊢
    generalize gR x N n = G1 at *
    generalize gR x N (n + 1) = G2 at *
    generalize gR x (N + 1) n = G3 at *
    generalize (n : Rat) = K at *
    generalize (N : Rat) = M at *
    generalize sumR (gR x (N + 1)) n = U1 at *
    generalize sumR (gR x N) n = U2 at *
    generalize sumR (sR x) n = U3 at *
    generalize sumR (cR x) n = U4 at *
    generalize cR x (n + 1) = c1 at *
    generalize sR x n = s at *
    generalize cR x n = c at *
    generalize sg n = σ at *
    have e : (x * x) * G3 + (2 * M) * (2 * M + 1) * G1 - x * s - (2 * M + 1) * c + (2 * M + 1) * ((2 * (K + 1)) * G2) + (2 * M + 1) * (2 * K * G1) = 0 := by
      refine cancel (d := (2 * K + 2 * M) * (2 * (K + 1) + 2 * M)) ?_ (mul_ne (by grind) (by grind))
      grind
    grind
theorem circle (x : Rat) (N : Nat) : sumR (sR x) (N + 1) * sumR (sR x) (N + 1) + sumR (cR x) (N + 1) * sumR (cR x) (N + 1) = 1 + 2 * sg N * (x * sR x N) * sumR (gR x (N + 1)) (N + 1) := by
  induction N with
  | zero =>
    have g3 := gR_mul x (M := 1) (k := 0) (by omega)
    simp [sumR, sR, cR, sg] at g3 ⊢
    grind
  | succ N ih =>
    have ht := tele x (N + 1) (N + 1) (by omega)
    have h1 := xs x N
    have h2 := xc x (N + 1)
    have h3 := gR_mul x (M := N + 1) (k := N + 1) (by omega)
    have h4 := gR_mul x (M := N + 2) (k := N + 1) (by omega)
    have h0 := cast_nonneg N
    have hs := sg_sq N
    have e1 : sumR (gR x (N + 1 + 1)) (N + 1 + 1) = sumR (gR x (N + 2)) (N + 1) + sg (N + 1) * gR x (N + 2) (N + 1) := rfl
    have e2 : sumR (sR x) (N + 1 + 1) = sumR (sR x) (N + 1) + sg (N + 1) * sR x (N + 1) := rfl
    have e3 : sumR (cR x) (N + 1 + 1) = sumR (cR x) (N + 1) + sg (N + 1) * cR x (N + 1) := rfl
    rw [e1, e2, e3, sg_succ] 
    rw [sg_succ] at ht
    have c2 : ((N + 2 : Nat) : Rat) = (N : Rat) + 2 := Rat.natCast_add N 2
    rw [c2] at h4
    rw [cast_succ] at h2 h3 h4 ht
    have e4 : N + 1 + 1 = N + 2 := rfl
    rw [e4] at ht
    generalize gR x (N + 1) (N + 1) = G1 at *
    generalize gR x (N + 2) (N + 1) = G2 at *
    generalize sumR (gR x (N + 2)) (N + 1) = U1 at *
    generalize sumR (gR x (N + 1)) (N + 1) = U2 at *
    generalize sumR (sR x) (N + 1) = U3 at *
    generalize sumR (cR x) (N + 1) = U4 at *
    generalize sR x (N + 1) = s1 at *
    generalize cR x (N + 1) = c1 at *
    generalize sR x N = s at *
    generalize sg N = σ at *
    generalize (N : Rat) = K at *
    clear e1 e2 e3 e4 c2
    have a1 : 2 * (x * s1 * G2) = s1 * s1 := by
      refine cancel (d := (2 * K + 3)) ?_ (by grind)
      have : x * s1 * (G2 * (2 * (K + 1) + 2 * (K + 2))) = x * s1 * c1 := by rw [h4]
      grind
    have a2 : x * s1 * (2 * K + 3) = x * x * c1 := by grind
    have a3 : 2 * (c1 * (2 * K + 2) * G1) = c1 * c1 := by grind
    refine cancel (d := (2 * K + 3)) ?_ (by grind)
    have b1 : 2 * σ * c1 * (x * x * U1 + 2 * (K + 1) * (2 * (K + 1) + 1) * U2) = 2 * σ * c1 * (x * U3 + (2 * (K + 1) + 1) * U4 + (2 * (K + 1) + 1) * (-σ * (2 * (K + 1)) * G1)) := by rw [ht]
    have b2 : 2 * σ * (x * s) * U2 = 2 * σ * ((2 * K + 2) * c1) * U2 := by rw [h1]
    clear ht h1 h3 h4
    grind

/-! ### falling -/
theorem sum_pos {a : Nat → Rat} (h0 : ∀ k, 0 ≤ a k) (h : ∀ k, a (k + 1) ≤ a k) : ∀ n, 0 ≤ sumR a (2 * n) ∧ 0 ≤ sumR a (2 * n + 1)
  | 0 => by
    have := h0 0
    simp [sumR, sg]
    grind
  | n + 1 => by
    obtain ⟨e1, e2⟩ := sum_pos h0 h n
    have e3 : sumR a (2 * (n + 1)) = sumR a (2 * n) + sg (2 * n) * a (2 * n) + sg (2 * n + 1) * a (2 * n + 1) := rfl
    have e4 : sumR a (2 * (n + 1) + 1) = sumR a (2 * (n + 1)) + sg (2 * n + 2) * a (2 * n + 2) := rfl
    have s1 : sg (2 * n) = 1 := by unfold sg; rw [if_neg (by omega)]
    have s2 : sg (2 * n + 1) = -1 := by unfold sg; rw [if_pos (by omega)]
    have s3 : sg (2 * n + 2) = 1 := by unfold sg; rw [if_neg (by omega)]
    rw [s1, s2] at e3
    rw [s3] at e4
    have h1 := h (2 * n)
    have h2 := h0 (2 * n + 2)
    constructor <;> grind
theorem le_of_mul {a b d : Rat} (h : a * d ≤ b * d) (hd : 0 < d) : a ≤ b := Rat.le_of_mul_le_mul_right h hd
theorem mul_mono {a b c : Rat} (h : a ≤ b) (hc : 0 ≤ c) : a * c ≤ b * c := Rat.mul_le_mul_of_nonneg_right h hc
section
variable {x : Rat} (h0 : 0 ≤ x) (h1 : x ≤ 1)
include h0
theorem xx0 : 0 ≤ x * x := Rat.mul_nonneg h0 h0
theorem cR_pos : ∀ k, 0 ≤ cR x k
  | 0 => by simp only [cR]; decide +kernel
  | k + 1 => by
    have e := cR_succ x k
    have hk := cast_nonneg k
    have e1 := Rat.mul_nonneg (cR_pos k) (xx0 h0)
    refine le_of_mul (d := (2 * (k : Rat) + 1) * (2 * (k : Rat) + 2)) ?_ (Rat.mul_pos (by grind) (by grind))
    rw [e, Rat.zero_mul]; exact e1
theorem sR_pos : ∀ k, 0 ≤ sR x k
  | 0 => by simp only [sR]; exact h0
  | k + 1 => by
    have e := sR_succ x k
    have hk := cast_nonneg k
    have e1 := Rat.mul_nonneg (sR_pos k) (xx0 h0)
    refine le_of_mul (d := (2 * (k : Rat) + 2) * (2 * (k : Rat) + 3)) ?_ (Rat.mul_pos (by grind) (by grind))
    rw [e, Rat.zero_mul]; exact e1
include h1
theorem xx1 : x * x ≤ 1 := by
  have := mul_mono h1 h0
  grind
theorem fall_of {c c1 d y : Rat} (hc : 0 ≤ c) (hd : 1 ≤ d) (hy : y ≤ 1) (e : c1 * d = c * y) : c1 ≤ c := by
  refine le_of_mul (d := d) ?_ (by grind)
  rw [e]
  have e1 := mul_mono (c := c) hy hc
  have e2 := mul_mono (c := c) hd hc
  grind
theorem cR_fall (k : Nat) : cR x (k + 1) ≤ cR x k := by
  have hk := cast_nonneg k
  refine fall_of h0 h1 (cR_pos h0 k) ?_ (xx1 h0 h1) (cR_succ x k)
  have := Rat.mul_nonneg hk hk
  grind
theorem sR_fall (k : Nat) : sR x (k + 1) ≤ sR x k := by
  have hk := cast_nonneg k
  refine fall_of h0 h1 (sR_pos h0 k) ?_ (xx1 h0 h1) (sR_succ x k)
  have := Rat.mul_nonneg hk hk
  grind
theorem gR_pos {M : Nat} (hM : 0 < M) (k : Nat) : 0 ≤ gR x M k := by
  have e := gR_mul x (M := M) (k := k) hM
  have hk := cast_nonneg k
  have hN0 : (0 : Rat) < (M : Rat) := by exact_mod_cast hM
  refine le_of_mul (d := 2 * (k : Rat) + 2 * (M : Rat)) ?_ (by grind)
  rw [e, Rat.zero_mul]; exact cR_pos h0 k
theorem gR_fall {M : Nat} (hM : 0 < M) (k : Nat) : gR x M (k + 1) ≤ gR x M k := by
  have e := gR_mul x (M := M) (k := k) hM
  have e' := gR_mul x (M := M) (k := k + 1) hM
  have hk := cast_nonneg k
  have hN0 : (0 : Rat) < (M : Rat) := by exact_mod_cast hM
  have hf := cR_fall h0 h1 k
  have hp := gR_pos h0 h1 hM (k + 1)
  rw [cast_succ] at e'
  refine le_of_mul (d := 2 * (k : Rat) + 2 * (M : Rat)) ?_ (by grind)
  grind
/-- The squares of the sums. -/
theorem circle_le {n : Nat} (hn : 0 < n) : sumR (sR x) (2 * n) * sumR (sR x) (2 * n) + sumR (cR x) (2 * n) * sumR (cR x) (2 * n) ≤ 1 := by
  obtain ⟨m, rfl⟩ : ∃ m, n = m + 1 := ⟨n - 1, by omega⟩
  have e := circle x (2 * m + 1)
  have hs : sg (2 * m + 1) = -1 := by unfold sg; rw [if_pos (by omega)]
  have hp := (sum_pos (gR_pos h0 h1 (M := 2 * m + 2) (by omega)) (gR_fall h0 h1 (M := 2 * m + 2) (by omega)) (m + 1)).1
  have h2 := Rat.mul_nonneg (Rat.mul_nonneg h0 (sR_pos h0 (2 * m + 1))) hp
  have e2 : 2 * (m + 1) = 2 * m + 1 + 1 := by omega
  rw [e2] at h2 ⊢
  rw [e, hs]
  have e3 : 2 * m + 2 = 2 * m + 1 + 1 := rfl
  rw [e3] at h2
  grind
theorem circle_ge (n : Nat) : 1 ≤ sumR (sR x) (2 * n + 1) * sumR (sR x) (2 * n + 1) + sumR (cR x) (2 * n + 1) * sumR (cR x) (2 * n + 1) := by
  have e := circle x (2 * n)
  have hs : sg (2 * n) = 1 := by unfold sg; rw [if_neg (by omega)]
  have hp := (sum_pos (gR_pos h0 h1 (M := 2 * n + 1) (by omega)) (gR_fall h0 h1 (M := 2 * n + 1) (by omega)) n).2
  have h2 := Rat.mul_nonneg (Rat.mul_nonneg h0 (sR_pos h0 (2 * n))) hp
  rw [e, hs]
  grind
end

/-! ### the sums rounded -/
theorem ic_le {a b : Int} : ((a : Rat) ≤ (b : Rat)) ↔ a ≤ b := Rat.intCast_le_intCast
theorem ic_mul (a b : Int) : ((a * b : Int) : Rat) = (a : Rat) * (b : Rat) := Rat.intCast_mul a b
theorem ic_add (a b : Int) : ((a + b : Int) : Rat) = (a : Rat) + (b : Rat) := Rat.intCast_add a b
theorem ic_sub (a b : Int) : ((a - b : Int) : Rat) = (a : Rat) - (b : Rat) := Rat.intCast_sub a b
/-- A term rounded stays beside the term. -/
theorem term_step {A0 B0 t d : Int} {e0 e1 D m y : Rat} (hd : 0 < d) (hm : 0 < m) (hD : 0 < D) (ht : 0 ≤ t * t) (hA : (A0 : Rat) ≤ e0 * D) (hB : e0 * D ≤ (B0 : Rat)) (ed : (d : Rat) = m * (D * D)) (et : (t : Rat) = y * D) (e : e1 * m = e0 * (y * y)) :
    ((A0 * (t * t) / d : Int) : Rat) ≤ e1 * D ∧ e1 * D ≤ ((vUp (B0 * (t * t)) d : Int) : Rat) := by
  have h1 := Int.ediv_mul_le (A0 * (t * t)) (b := d) (by omega)
  have h2 := vUp_ge (z := B0 * (t * t)) hd
  have ht' : (0 : Rat) ≤ (t : Rat) * (t : Rat) := by rw [← ic_mul]; exact ic_le.2 ht
  rw [← ic_le, ic_mul, ic_mul, ic_mul] at h1 h2
  have hdD : (0 : Rat) < m * (D * D) := Rat.mul_pos hm (Rat.mul_pos hD hD)
  have e2 : e0 * D * ((t : Rat) * (t : Rat)) = e1 * D * (m * (D * D)) := by rw [et]; grind
  have h3 := mul_mono hA ht'
  have h4 := mul_mono hB ht'
  rw [ed] at h1 h2
  rw [e2] at h3 h4
  exact ⟨le_of_mul (Rat.le_trans h1 h3) hdD, le_of_mul (Rat.le_trans h4 h2) hdD⟩
theorem tu_R {a b : Nat → Int} {e : Nat → Rat} {D : Rat} (h : ∀ k, (a k : Rat) ≤ e k * D ∧ e k * D ≤ (b k : Rat)) : ∀ n, ((tu a b n : Int) : Rat) ≤ sumR e n * D ∧ sumR e n * D ≤ ((tu b a n : Int) : Rat)
  | 0 => by
    have : sumR e 0 = 0 := rfl
    rw [this, Rat.zero_mul]
    exact ⟨Rat.le_refl, Rat.le_refl⟩
  | n + 1 => by
    obtain ⟨e1, e2⟩ := tu_R h n
    obtain ⟨h1, h2⟩ := h n
    have e3 : sumR e (n + 1) = sumR e n + sg n * e n := rfl
    by_cases hp : n % 2 = 1
    · have hs : sg n = -1 := by unfold sg; rw [if_pos hp]
      rw [tu_pos hp, tu_pos hp, ic_sub, ic_sub, e3, hs]
      constructor <;> grind
    · have hs : sg n = 1 := by unfold sg; rw [if_neg hp]
      rw [tu_neg hp, tu_neg hp, ic_add, ic_add, e3, hs]
      constructor <;> grind
theorem cast_pow2 {q : Int} (hq : 0 ≤ q) : (((2 : Int) ^ (2 * q).toNat : Int) : Rat) = (((2 : Int) ^ q.toNat : Int) : Rat) * (((2 : Int) ^ q.toNat : Int) : Rat) := by
  rw [sq_pow hq, ic_mul]
theorem ic_nat (k : Nat) : (((k : Nat) : Int) : Rat) = (k : Rat) := rfl
section
variable {t q : Int} (hq : 0 ≤ q) (h0 : 0 ≤ t) (h : t * 2 ≤ 1 * 2 ^ q.toNat)
/-- The number. -/
def xQ (t q : Int) : Rat := (t : Rat) / (((2 : Int) ^ q.toNat : Int) : Rat)
theorem dpos (q : Int) : (0 : Rat) < (((2 : Int) ^ q.toNat : Int) : Rat) := by
  have := two_pow_pos q
  have e := (Rat.intCast_lt_intCast (a := 0) (b := 2 ^ q.toNat)).2 this
  exact e
theorem xQ_mul (t q : Int) : (t : Rat) = xQ t q * (((2 : Int) ^ q.toNat : Int) : Rat) := (dm _ (Rat.ne_of_gt (dpos q))).symm
include h0
theorem xQ_nonneg : 0 ≤ xQ t q := by
  refine le_of_mul (d := (((2 : Int) ^ q.toNat : Int) : Rat)) ?_ (dpos q)
  rw [← xQ_mul, Rat.zero_mul]
  exact ic_le.2 h0
include h
theorem xQ_le : xQ t q ≤ 1 := by
  refine le_of_mul (d := (((2 : Int) ^ q.toNat : Int) : Rat)) ?_ (dpos q)
  rw [← xQ_mul, Rat.one_mul]
  exact ic_le.2 (by omega)
include hq
theorem sin_terms : ∀ k, ((rA (dSin q) (t * t) t k : Int) : Rat) ≤ sR (xQ t q) k * (((2 : Int) ^ q.toNat : Int) : Rat) ∧ sR (xQ t q) k * (((2 : Int) ^ q.toNat : Int) : Rat) ≤ ((rB (dSin q) (t * t) t k : Int) : Rat)
  | 0 => by
    show (t : Rat) ≤ xQ t q * _ ∧ xQ t q * _ ≤ (t : Rat)
    rw [← xQ_mul]
    exact ⟨Rat.le_refl, Rat.le_refl⟩
  | k + 1 => by
    obtain ⟨e1, e2⟩ := sin_terms k
    have h1 := dSin_ge q k
    have hp := two_pow_pos (2 * q)
    have hk := cast_nonneg k
    refine term_step (y := xQ t q) (e0 := sR (xQ t q) k) (m := (2 * (k : Rat) + 2) * (2 * (k : Rat) + 3)) (by omega) (Rat.mul_pos (by grind) (by grind)) (dpos q) (Int.mul_nonneg h0 h0) e1 e2 ?_ (xQ_mul t q) (sR_succ _ k)
    unfold dSin
    rw [ic_mul, cast_pow2 hq, ic_mul, ic_mul, ic_add, ic_mul, ic_nat, cast_succ]
    have e2 : ((2 : Int) : Rat) = 2 := rfl
    have e3 : ((1 : Int) : Rat) = 1 := rfl
    rw [e2, e3]
    grind
theorem cos_terms : ∀ k, ((rA (dCos q) (t * t) (1 * 2 ^ q.toNat) k : Int) : Rat) ≤ cR (xQ t q) k * (((2 : Int) ^ q.toNat : Int) : Rat) ∧ cR (xQ t q) k * (((2 : Int) ^ q.toNat : Int) : Rat) ≤ ((rB (dCos q) (t * t) (1 * 2 ^ q.toNat) k : Int) : Rat)
  | 0 => by
    show ((1 * 2 ^ q.toNat : Int) : Rat) ≤ 1 * _ ∧ 1 * _ ≤ ((1 * 2 ^ q.toNat : Int) : Rat)
    rw [Int.one_mul, Rat.one_mul]
    exact ⟨Rat.le_refl, Rat.le_refl⟩
  | k + 1 => by
    obtain ⟨e1, e2⟩ := cos_terms k
    have h1 := dCos_ge q k
    have hp := two_pow_pos (2 * q)
    have hk := cast_nonneg k
    refine term_step (y := xQ t q) (e0 := cR (xQ t q) k) (m := (2 * (k : Rat) + 1) * (2 * (k : Rat) + 2)) (by omega) (Rat.mul_pos (by grind) (by grind)) (dpos q) (Int.mul_nonneg h0 h0) e1 e2 ?_ (xQ_mul t q) (cR_succ _ k)
    unfold dCos
    rw [ic_mul, cast_pow2 hq, ic_mul, ic_mul, ic_sub, ic_mul, ic_nat, cast_succ]
    have e2 : ((2 : Int) : Rat) = 2 := rfl
    have e3 : ((1 : Int) : Rat) = 1 := rfl
    rw [e2, e3]
    grind
omit hq h0 h in
theorem sq_mono {a b : Rat} (ha : 0 ≤ a) (h : a ≤ b) : a * a ≤ b * b := by
  have e1 := mul_mono h ha
  have e2 := mul_mono (c := b) h (by grind)
  grind
/-- The lesser squares are not above 1. -/
theorem squares_low {n : Nat} (hn : 0 < n) (ha : 0 ≤ sinLo t q n) (hc : 0 ≤ cosLo t q n) : sinLo t q n * sinLo t q n + cosLo t q n * cosLo t q n ≤ 1 * 2 ^ (2 * q).toNat := by
  have e1 := (tu_R (sin_terms hq h0 h) (2 * n)).1
  have e2 := (tu_R (cos_terms hq h0 h) (2 * n)).1
  have e3 := circle_le (xQ_nonneg (q := q) h0) (xQ_le h0 h) hn
  rw [Int.one_mul, ← ic_le, ic_add, ic_mul, ic_mul, cast_pow2 hq]
  have ha' := ic_le.2 ha
  have hc' := ic_le.2 hc
  have f1 := sq_mono (b := sumR (sR (xQ t q)) (2 * n) * (((2 : Int) ^ q.toNat : Int) : Rat)) ha' e1
  have f2 := sq_mono (b := sumR (cR (xQ t q)) (2 * n) * (((2 : Int) ^ q.toNat : Int) : Rat)) hc' e2
  have hD := dpos q
  generalize (((2 : Int) ^ q.toNat : Int) : Rat) = D at *
  have f3 := mul_mono (c := D * D) e3 (Rat.le_of_lt (Rat.mul_pos hD hD))
  refine Rat.le_trans (b := sumR (sR (xQ t q)) (2 * n) * D * (sumR (sR (xQ t q)) (2 * n) * D) + sumR (cR (xQ t q)) (2 * n) * D * (sumR (cR (xQ t q)) (2 * n) * D)) ?_ ?_
  · grind
  · grind
/-- The greater squares are not below 1. -/
theorem squares_high (n : Nat) : 1 * 2 ^ (2 * q).toNat ≤ sinHi t q n * sinHi t q n + cosHi t q n * cosHi t q n := by
  have hx0 := xQ_nonneg (q := q) h0
  have hx1 := xQ_le h0 h
  have e1 : sumR (sR (xQ t q)) (2 * n + 1) * (((2 : Int) ^ q.toNat : Int) : Rat) ≤ ((sinHi t q n : Int) : Rat) := by
    have := (tu_R (sin_terms hq h0 h) (2 * n + 1)).2
    rw [tu_even] at this
    exact this
  have e2 : sumR (cR (xQ t q)) (2 * n + 1) * (((2 : Int) ^ q.toNat : Int) : Rat) ≤ ((cosHi t q n : Int) : Rat) := by
    have := (tu_R (cos_terms hq h0 h) (2 * n + 1)).2
    rw [tu_even] at this
    exact this
  have e3 := circle_ge hx0 hx1 n
  have g1 := (sum_pos (sR_pos hx0) (sR_fall hx0 hx1) n).2
  have g2 := (sum_pos (cR_pos hx0) (cR_fall hx0 hx1) n).2
  have hD := dpos q
  rw [Int.one_mul, ← ic_le, ic_add, ic_mul, ic_mul, cast_pow2 hq]
  generalize (((2 : Int) ^ q.toNat : Int) : Rat) = D at *
  have f1 := sq_mono (Rat.mul_nonneg g1 (Rat.le_of_lt hD)) e1
  have f2 := sq_mono (Rat.mul_nonneg g2 (Rat.le_of_lt hD)) e2
  have f3 := mul_mono (c := D * D) e3 (Rat.le_of_lt (Rat.mul_pos hD hD))
  grind
/-- The lesser cosine is not below 0. -/
theorem cos_nonneg (hq2 : 20 ≤ q) {n : Nat} (hn : n ≤ 39) (hn0 : 0 < n) : 0 ≤ cosLo t q n := by
  have hl := lim_cos (q := q) hq h0 (by omega)
  unfold cosLo
  have hp := two_pow_pos q
  have hb := sq_bound hq h0 h
  have eq6 : (2 : Int) ^ q.toNat = 2 ^ (q - 6).toNat * 64 := by
    rw [show q.toNat = (q - 6).toNat + 6 by omega, Int.pow_add]; rfl
  have ep2 := sq_pow hq
  have hd2 := two_pow_pos (q - 6)
  have h1 : 0 ≤ t * t := Int.mul_nonneg h0 h0
  have hb1 : rB (dCos q) (t * t) (1 * 2 ^ q.toNat) 1 ≤ 8 * 2 ^ (q - 6).toNat := by
    show vUp (1 * 2 ^ q.toNat * (t * t)) (dCos q 1) ≤ _
    have hge : 2 * 2 ^ (2 * q).toNat ≤ dCos q 1 := dCos_ge q 0
    have hpp := two_pow_pos (2 * q)
    refine vUp_le (by omega) ?_
    have e1 : (1 * 2 ^ q.toNat) * (4 * (t * t)) ≤ (1 * 2 ^ q.toNat) * (1 * 1 * 2 ^ (2 * q).toNat) := Int.mul_le_mul_of_nonneg_left hb (by omega)
    have e2 : dCos q 1 = 2 * 2 ^ (2 * q).toNat := by unfold dCos; rfl
    rw [e2]
    rw [eq6] at e1 ⊢
    generalize (2 : Int) ^ (q - 6).toNat = E at *
    generalize (2 : Int) ^ (2 * q).toNat = F at *
    grind
  have hb2 : ∀ k, rB (dCos q) (t * t) (1 * 2 ^ q.toNat) (k + 2) ≤ 2 ^ (q - 6).toNat := by
    intro k
    induction k with
    | zero =>
      show vUp (rB (dCos q) (t * t) (1 * 2 ^ q.toNat) 1 * (t * t)) (dCos q 2) ≤ _
      have hge : 2 * 2 ^ (2 * q).toNat ≤ dCos q 2 := dCos_ge q 1
      have hpp := two_pow_pos (2 * q)
      have hpos := Int.le_trans (hl.pos 1) (hl.le 1)
      refine vUp_le (by omega) ?_
      have e2 : dCos q 2 = 12 * 2 ^ (2 * q).toNat := by unfold dCos; rfl
      rw [e2]
      have e1 := Int.mul_le_mul_of_nonneg_right hb1 h1
      have e3 : 8 * 2 ^ (q - 6).toNat * (4 * (t * t)) ≤ 8 * 2 ^ (q - 6).toNat * (1 * 1 * 2 ^ (2 * q).toNat) := Int.mul_le_mul_of_nonneg_left hb (by omega)
      generalize (2 : Int) ^ (q - 6).toNat = E at *
      generalize (2 : Int) ^ (2 * q).toNat = F at *
      have e4 : 0 ≤ E * F := Int.mul_nonneg (by omega) (by omega)
      grind
    | succ k ih =>
      show vUp (rB (dCos q) (t * t) (1 * 2 ^ q.toNat) (k + 2) * (t * t)) (dCos q (k + 3)) ≤ _
      have hge : 2 * 2 ^ (2 * q).toNat ≤ dCos q (k + 3) := dCos_ge q (k + 2)
      have hpp := two_pow_pos (2 * q)
      refine vUp_le (by omega) ?_
      have e1 := Int.mul_le_mul_of_nonneg_right ih h1
      have e3 : 2 ^ (q - 6).toNat * (t * t) ≤ 2 ^ (q - 6).toNat * dCos q (k + 3) := Int.mul_le_mul_of_nonneg_left (by omega) (by omega)
      omega
  have hs : ∀ m : Nat, 2 ^ (q - 6).toNat * (56 - m) ≤ tu (rA (dCos q) (t * t) (1 * 2 ^ q.toNat)) (rB (dCos q) (t * t) (1 * 2 ^ q.toNat)) (2 * m + 1) := by
    intro m
    induction m with
    | zero =>
      have e : tu (rA (dCos q) (t * t) (1 * 2 ^ q.toNat)) (rB (dCos q) (t * t) (1 * 2 ^ q.toNat)) (2 * 0 + 1) = 0 + 1 * 2 ^ q.toNat := rfl
      rw [e]
      omega
    | succ m ih =>
      rw [show 2 * (m + 1) + 1 = 2 * (m + 1) + 1 from rfl, tu_even, show 2 * (m + 1) = 2 * m + 2 by omega, tu_odd]
      have e1 := hl.pos (2 * m + 2)
      by_cases hm : m = 0
      · subst hm
        have e : tu (rA (dCos q) (t * t) (1 * 2 ^ q.toNat)) (rB (dCos q) (t * t) (1 * 2 ^ q.toNat)) (2 * 0 + 1) = 0 + 1 * 2 ^ q.toNat := rfl
        rw [e]
        have e3 : 2 * 0 + 1 = 1 := rfl
        rw [e3]
        grind
      · have e2 := hb2 (2 * m - 1)
        rw [show 2 * m - 1 + 2 = 2 * m + 1 by omega] at e2
        grind
  obtain ⟨m, rfl⟩ : ∃ m, n = m + 1 := ⟨n - 1, by omega⟩
  have e := hs m
  rw [show 2 * (m + 1) = 2 * m + 2 by omega, tu_odd]
  by_cases hm : m = 0
  · subst hm
    have e3 : 2 * 0 + 1 = 1 := rfl
    rw [e3] at e ⊢
    grind
  · have e2 := hb2 (2 * m - 1)
    rw [show 2 * m - 1 + 2 = 2 * m + 1 by omega] at e2
    have e4 : (2 : Int) ^ (q - 6).toNat * 1 ≤ 2 ^ (q - 6).toNat * (56 - m) := Int.mul_le_mul_of_nonneg_left (by omega) (by omega)
    omega
end
end Go.Proofs.Ytnephejalollfaa.Sq
end

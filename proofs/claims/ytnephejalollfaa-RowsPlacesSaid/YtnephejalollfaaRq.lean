/- The laws of the five sums: order, more places. -/
import Derived.Test.YtnephejalollfaaRk
set_option linter.unusedVariables false
set_option linter.unusedSimpArgs false
set_option linter.unusedSectionVars false
namespace Go.Proofs.Ytnephejalollfaa
open Go.RowKit
open L (val dig nth)
/-! ### the laws of the five sums -/
theorem half_d {d : Nat → Int} {T x : Int} (hd : ∀ k, 0 < d (k + 1)) (hT : ∀ k, 2 * T ≤ d (k + 1)) (hT0 : 0 ≤ T) (hx : 0 ≤ x) (k : Nat) : 2 * rA d T x (k + 1) ≤ rA d T x k := sq_half hd hT hT0 hx k
theorem odd_half {a : Nat → Int} (h0 : ∀ k, 0 ≤ a k) (h : ∀ k, 2 * a (k + 1) ≤ a k) (k : Nat) : 2 * oA a (k + 1) ≤ oA a k := by
  unfold oA
  rw [Int.mul_comm 2]
  refine div_le_div_odd (odd_pos k) ?_ ?_ ?_ (by omega)
  · refine Int.mul_le_mul_of_nonneg_right ?_ (by decide)
    omega
  · rw [Int.mul_one]; exact h0 (k + 1)
  · have := h k
    omega
section
variable {t q : Int} (hq : 0 ≤ q) (h0 : 0 ≤ t) (h : t * 2 ≤ 1 * 2 ^ q.toNat)
include h0 h
theorem up_most {y : Int} (hy : 1 ≤ y) : t * 2 ≤ y * 2 ^ q.toNat := by
  have hp := two_pow_pos q
  have : 1 * 2 ^ q.toNat ≤ y * 2 ^ q.toNat := Int.mul_le_mul_of_nonneg_right hy (by omega)
  omega
theorem half_exp (k : Nat) : 2 * rA (dExp q) t (1 * 2 ^ q.toNat) (k + 1) ≤ rA (dExp q) t (1 * 2 ^ q.toNat) k := by
  have hp := two_pow_pos q
  refine half_d (fun k => ?_) (fun k => ?_) h0 (by omega) k
  · have := dExp_ge q k; omega
  · have := dExp_ge q k; omega
include hq
theorem half_sq {d : Nat → Int} {x : Int} (hd : ∀ k, 2 ^ (2 * q).toNat ≤ d (k + 1)) (hx : 0 ≤ x) (k : Nat) : 2 * rA d (t * t) x (k + 1) ≤ rA d (t * t) x k := by
  have hp := two_pow_pos (2 * q)
  have hb := sq_bound hq h0 h
  have h1 : 0 ≤ t * t := Int.mul_nonneg h0 h0
  refine half_d (fun k => ?_) (fun k => ?_) h1 hx k
  · have := hd k; omega
  · have := hd k; omega
theorem sums_order {kd : Nat} (hkd : kd < 5) (n m : Nat) : sumLo kd t q n ≤ sumHi kd t q m := by
  have hp := two_pow_pos (2 * q)
  have hp1 := two_pow_pos q
  have he : ∀ x : Int, up2 x = x * 2 := fun x => by unfold up2; rw [show (1 : Int).toNat = 1 from rfl, Int.pow_succ, Int.pow_zero]; omega
  match kd, hkd with
  | 0, _ =>
    have hl := lim_exp (q := q) h0 (up_most h0 h (by omega))
    show expLo t q n ≤ expHi t q m
    unfold expLo expHi
    rw [he]
    exact rising_order hl.pos hl.le (half_exp h0 h) n m
  | 1, _ =>
    have hl0 := lim_pow (q := q) hq h0 h
    have hl := lim_odd (q := q) hq h0 h
    show atanhLo t q n ≤ atanhHi t q m
    unfold atanhLo atanhHi
    rw [he]
    exact rising_order hl.pos hl.le (odd_half hl0.pos (half_sq hq h0 h (dPow_ge q) h0)) n m
  | 2, _ =>
    have hl0 := lim_pow (q := q) hq h0 h
    have hl := lim_odd (q := q) hq h0 h
    show atanLo t q n ≤ atanHi t q m
    unfold atanLo atanHi
    refine turning_order hl.pos hl.le (fun k => ?_) n m
    have e1 := odd_half hl0.pos (half_sq hq h0 h (dPow_ge q) h0) k
    have e2 := hl.pos (k + 1)
    omega
  | 3, _ =>
    have hl := lim_sin (q := q) hq h0 (up_most h0 h (by omega))
    show sinLo t q n ≤ sinHi t q m
    unfold sinLo sinHi
    refine turning_order hl.pos hl.le (fun k => ?_) n m
    have e1 := half_sq hq h0 h (d := dSin q) (fun k => by have := dSin_ge q k; omega) h0 k
    have e2 := hl.pos (k + 1)
    omega
  | 4, _ =>
    have hl := lim_cos (q := q) hq h0 (up_most h0 h (by omega))
    show cosLo t q n ≤ cosHi t q m
    unfold cosLo cosHi
    refine turning_order hl.pos hl.le (fun k => ?_) n m
    have e1 := half_sq hq h0 h (d := dCos q) (x := 1 * 2 ^ q.toNat) (fun k => by have := dCos_ge q k; omega) (by omega) k
    have e2 := hl.pos (k + 1)
    omega
end
/-! ### more places -/
theorem pow_more {q m : Int} (hq : 0 ≤ q) (hm : 0 ≤ m) : (2 : Int) ^ (q + m).toNat = 2 ^ q.toNat * 2 ^ m.toNat := by
  rw [show (q + m).toNat = q.toNat + m.toNat by omega, Int.pow_add]
theorem pow_more2 {q m : Int} (hq : 0 ≤ q) (hm : 0 ≤ m) : (2 : Int) ^ (2 * (q + m)).toNat = 2 ^ (2 * q).toNat * (2 ^ m.toNat * 2 ^ m.toNat) := by
  rw [show (2 * (q + m)).toNat = (2 * q).toNat + (m.toNat + m.toNat) by omega, Int.pow_add, Int.pow_add]
theorem finer_r {d d' : Nat → Int} {T T' x x' M : Int} (hd : ∀ k, 0 < d (k + 1)) (hd' : ∀ k, 0 < d' (k + 1)) (hT : 0 ≤ T) (hT' : 0 ≤ T') (hx : 0 ≤ x) (hM : 0 ≤ M) (he : ∀ k, T' * d (k + 1) = T * d' (k + 1)) (hx' : x * M = x') :
    (∀ k, rA d T x k * M ≤ rB d' T' x' k) ∧ (∀ k, rA d' T' x' k ≤ rB d T x k * M) :=
  ⟨fun k => (sq_finer hd hd' hT hT' hx hM he hx' k).1, fun k => (sq_finer hd hd' hT hT' hx hM he hx' k).2⟩
theorem finer_o {a b c d : Nat → Int} {M : Int} (hM : 0 ≤ M) (h : (∀ k, a k * M ≤ d k) ∧ (∀ k, c k ≤ b k * M)) : (∀ k, oA a k * M ≤ oB d k) ∧ (∀ k, oA c k ≤ oB b k * M) := by
  constructor <;> intro k
  · exact finer_odd (odd_pos k) hM (by rw [Int.mul_one, Int.mul_one]; exact h.1 k)
  · exact finer_odd' (odd_pos k) hM (by rw [Int.mul_one, Int.mul_one]; exact h.2 k)
theorem rising_finer {a b c d : Nat → Int} {M : Int} (hM : 0 ≤ M) (h : (∀ k, a k * M ≤ d k) ∧ (∀ k, c k ≤ b k * M)) (hd : ∀ k, 0 ≤ d k) (hb : ∀ k, 0 ≤ b k) (n : Nat) :
    su a n * M ≤ su d n + up2 (d n) ∧ su c n ≤ (su b n + up2 (b n)) * M := by
  have he : ∀ x : Int, up2 x = x * 2 := fun x => by unfold up2; rw [show (1 : Int).toNat = 1 from rfl, Int.pow_succ, Int.pow_zero]; omega
  have e1 := su_scale h.1 n
  have e2 := su_scale' h.2 n
  have e3 := hd n
  have e4 := hb n
  rw [he, he]
  refine ⟨by omega, ?_⟩
  rw [Int.add_mul]
  have : 0 ≤ b n * 2 * M := Int.mul_nonneg (by omega) hM
  omega
theorem turning_finer {a b c d : Nat → Int} {M : Int} (hM : 0 ≤ M) (h : (∀ k, a k * M ≤ d k) ∧ (∀ k, c k ≤ b k * M)) (hd : ∀ k, 0 ≤ d k) (hb : ∀ k, 0 ≤ b k) (n : Nat) :
    tu a b n * M ≤ tu d c n + d n ∧ tu c d n ≤ (tu b a n + b n) * M := by
  have e1 := tu_scale h.1 h.2 n
  have e2 := tu_scale' h.1 h.2 n
  have e3 := hd n
  have e4 := hb n
  refine ⟨by omega, ?_⟩
  rw [Int.add_mul]
  have : 0 ≤ b n * M := Int.mul_nonneg (by omega) hM
  omega
section
variable {t q m : Int} (hq : 0 ≤ q) (hm : 0 ≤ m) (h0 : 0 ≤ t) (h : t * 2 ≤ 1 * 2 ^ q.toNat)
include hq hm h0 h
theorem more_le : t * 2 ^ m.toNat * 2 ≤ 1 * 2 ^ (q + m).toNat := by
  rw [pow_more hq hm]
  have hp := two_pow_pos m
  have : t * 2 * 2 ^ m.toNat ≤ 1 * 2 ^ q.toNat * 2 ^ m.toNat := Int.mul_le_mul_of_nonneg_right h (by omega)
  rw [Int.mul_assoc 1] at this
  rw [show t * 2 ^ m.toNat * 2 = t * 2 * 2 ^ m.toNat by ac_rfl]
  omega
theorem sums_places {kd : Nat} (hkd : kd < 5) (n : Nat) : sumLo kd t q n * 2 ^ m.toNat ≤ sumHi kd (t * 2 ^ m.toNat) (q + m) n ∧ sumLo kd (t * 2 ^ m.toNat) (q + m) n ≤ sumHi kd t q n * 2 ^ m.toNat := by
  have hp := two_pow_pos (2 * q)
  have hp1 := two_pow_pos q
  have hpm := two_pow_pos m
  have hqm : 0 ≤ q + m := by omega
  have hpq := two_pow_pos (q + m)
  have hp2 := two_pow_pos (2 * (q + m))
  have ht' : 0 ≤ t * 2 ^ m.toNat := Int.mul_nonneg h0 (by omega)
  have h' := more_le hq hm h0 h
  have hT : 0 ≤ t * t := Int.mul_nonneg h0 h0
  have hT' : 0 ≤ t * 2 ^ m.toNat * (t * 2 ^ m.toNat) := Int.mul_nonneg ht' ht'
  have hM : 0 ≤ (2 : Int) ^ m.toNat := by omega
  have eone : 1 * 2 ^ q.toNat * 2 ^ m.toNat = 1 * (2 : Int) ^ (q + m).toNat := by rw [pow_more hq hm, Int.mul_assoc]
  have hpow := finer_r (d := dPow q) (d' := dPow (q + m)) (T := t * t) (T' := t * 2 ^ m.toNat * (t * 2 ^ m.toNat)) (x := t) (x' := t * 2 ^ m.toNat) (M := 2 ^ m.toNat)
    (fun k => by have := dPow_ge q k; omega) (fun k => by have := dPow_ge (q + m) k; omega) hT hT' h0 hM (fun k => by unfold dPow; rw [pow_more2 hq hm]; ac_rfl) rfl
  have limb := lim_pow hq h0 h
  have limd := lim_pow hqm ht' h'
  match kd, hkd with
  | 0, _ =>
    have hl := lim_exp (q := q) h0 (up_most h0 h (by omega))
    have hl' := lim_exp (q := q + m) ht' (up_most ht' h' (by omega))
    have hf := finer_r (d := dExp q) (d' := dExp (q + m)) (T := t) (T' := t * 2 ^ m.toNat) (x := 1 * 2 ^ q.toNat) (x' := 1 * 2 ^ (q + m).toNat) (M := 2 ^ m.toNat)
      (fun k => by have := dExp_ge q k; omega) (fun k => by have := dExp_ge (q + m) k; omega) h0 ht' (by omega) hM (fun k => by unfold dExp; rw [pow_more hq hm]; ac_rfl) eone
    exact rising_finer hM hf (fun k => Int.le_trans (hl'.pos k) (hl'.le k)) (fun k => Int.le_trans (hl.pos k) (hl.le k)) n
  | 1, _ =>
    have hl := lim_odd hq h0 h
    have hl' := lim_odd hqm ht' h'
    exact rising_finer hM (finer_o hM hpow) (fun k => Int.le_trans (hl'.pos k) (hl'.le k)) (fun k => Int.le_trans (hl.pos k) (hl.le k)) n
  | 2, _ =>
    have hl := lim_odd hq h0 h
    have hl' := lim_odd hqm ht' h'
    exact turning_finer hM (finer_o hM hpow) (fun k => Int.le_trans (hl'.pos k) (hl'.le k)) (fun k => Int.le_trans (hl.pos k) (hl.le k)) (2 * n)
  | 3, _ =>
    have hl := lim_sin (q := q) hq h0 (up_most h0 h (by omega))
    have hl' := lim_sin (q := q + m) hqm ht' (up_most ht' h' (by omega))
    have hf := finer_r (d := dSin q) (d' := dSin (q + m)) (T := t * t) (T' := t * 2 ^ m.toNat * (t * 2 ^ m.toNat)) (x := t) (x' := t * 2 ^ m.toNat) (M := 2 ^ m.toNat)
      (fun k => by have := dSin_ge q k; omega) (fun k => by have := dSin_ge (q + m) k; omega) hT hT' h0 hM (fun k => by unfold dSin; rw [pow_more2 hq hm]; ac_rfl) rfl
    exact turning_finer hM hf (fun k => Int.le_trans (hl'.pos k) (hl'.le k)) (fun k => Int.le_trans (hl.pos k) (hl.le k)) (2 * n)
  | 4, _ =>
    have hl := lim_cos (q := q) hq h0 (up_most h0 h (by omega))
    have hl' := lim_cos (q := q + m) hqm ht' (up_most ht' h' (by omega))
    have hf := finer_r (d := dCos q) (d' := dCos (q + m)) (T := t * t) (T' := t * 2 ^ m.toNat * (t * 2 ^ m.toNat)) (x := 1 * 2 ^ q.toNat) (x' := 1 * 2 ^ (q + m).toNat) (M := 2 ^ m.toNat)
      (fun k => by have := dCos_ge q k; omega) (fun k => by have := dCos_ge (q + m) k; omega) hT hT' (by omega) hM (fun k => by unfold dCos; rw [pow_more2 hq hm]; ac_rfl) eone
    exact turning_finer hM hf (fun k => Int.le_trans (hl'.pos k) (hl'.le k)) (fun k => Int.le_trans (hl.pos k) (hl.le k)) (2 * n)
end

/-! ### the parts -/
theorem part_lim {n : Bool} {L : List Nat} {q : Int} (hq : 1 ≤ q) : 0 ≤ partZ n L q ∧ partZ n L q * 2 ≤ 1 * 2 ^ q.toNat := by
  have hp := two_pow_pos (q - 1)
  have e : (2 : Int) ^ q.toNat = 2 ^ (q - 1).toNat * 2 := by
    rw [show q.toNat = (q - 1).toNat + 1 by omega, Int.pow_succ]
  unfold partZ
  have h1 := Int.emod_nonneg (ival n (val W (L.take 8))) (show (1 : Int) * 2 ^ (q - 1).toNat ≠ 0 by omega)
  have h2 := Int.emod_lt_of_pos (ival n (val W (L.take 8))) (show (0 : Int) < 1 * 2 ^ (q - 1).toNat by omega)
  omega
theorem mostK_ge (kd : Nat) : 1 ≤ mostK kd := by
  unfold mostK
  split <;> omega
theorem may_part {kd : Nat} {t q n : Int} (hq : 0 ≤ q ∧ q ≤ 1200) (hn : 1 ≤ n ∧ n ≤ 400) (h0 : 0 ≤ t) (h : t * 2 ≤ 1 * 2 ^ q.toNat) : mayR t q n (mostK kd) = true := by
  unfold mayR
  have := up_most h0 h (mostK_ge kd)
  simp only [Bool.and_eq_true, decide_eq_true_eq]
  exact ⟨hq.1, hq.2, hn.1, hn.2, h0, this⟩
theorem bits_range6 (q : Int) (m : Nat) (hm : m < 1000) : 0 ≤ bits .and .i64 q m ∧ bits .and .i64 q m ≤ m := by
  have h0 : (BitVec.ofInt 64 (m : Int)).toNat = m := by
    rw [BitVec.ofInt_natCast, BitVec.toNat_ofNat]
    exact Nat.mod_eq_of_lt (by omega)
  have h1 : ((BitVec.ofInt 64 q) &&& (BitVec.ofInt 64 (m : Int))).toNat ≤ m := by
    rw [BitVec.toNat_and, h0]
    exact Nat.and_le_right
  have h2 : bits .and .i64 q m = IntKind.i64.wrap (((BitVec.ofInt 64 q) &&& (BitVec.ofInt 64 (m : Int))).toNat : Int) := rfl
  rw [h2]
  generalize ((BitVec.ofInt 64 q) &&& (BitVec.ofInt 64 (m : Int))).toNat = t at h1
  rw [IntWalk.i64_in _ (by omega)]
  omega
theorem cmp_order {a b : Int} (h : a ≤ b) : cmpZ a b ≤ 0 := (cmpZ_le _ _).2 h
end Go.Proofs.Ytnephejalollfaa

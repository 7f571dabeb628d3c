/- Contracts of dyad in the values' words, for the laws. -/
import Derived.Test.YtnkembnachhicaaPat4
set_option linter.unusedVariables false
namespace Go.Proofs.Ytnkembnachhicaa
open Go.RowKit
open L (val dig nth)

/-- A struct's sign and slice stand for the integer z; at most k limbs. -/
def Q (w : World) (k : Nat) (n : Bool) (A : Option Addr) (len cap : Nat) (z : Int) : Prop := ∃ d, Nums w 0 (.slice A len cap) d ∧ d.length ≤ k ∧ ival n (val W d) = z
section
variable {w w' : World} {k : Nat} {n : Bool} {A : Option Addr} {len cap : Nat} {z : Int}
theorem Q.below (h : Q w k n A len cap z) (hb : Below w.heap.size w w') : Q w' k n A len cap z := by
  obtain ⟨d, h1, h2, h3⟩ := h
  exact ⟨d, h1.below hb, h2, h3⟩
theorem Q.drewN (h : Q w k n A len cap z) (m : Nat) : Q (w.drewN m) k n A len cap z := h
theorem Q.drew (h : Q w k n A len cap z) : Q w.drew k n A len cap z := h
theorem Q.lt (h : Q w k n A len cap z) : z.natAbs < W ^ k := by
  obtain ⟨d, h1, h2, rfl⟩ := h
  exact Nat.lt_of_lt_of_le (natAbs_lt h1.lt) (Nat.pow_le_pow_right W_pos h2)
theorem Q.mono {k' : Nat} (h : Q w k n A len cap z) (hk : k ≤ k') : Q w k' n A len cap z := by
  obtain ⟨d, h1, h2, h3⟩ := h
  exact ⟨d, h1, by omega, h3⟩
end
/-- A dyad is handed back: what it stands for. -/
def RetD (k : Nat) (z x : Int) (e : Ending) (w : World) : Prop := ∃ n A len cap, e = .returned (.agg #[.bool n, .slice A len cap, .int .i64 x]) ∧ Q w k n A len cap z
def RetI (k : Nat) (z : Int) (e : Ending) (w : World) : Prop := ∃ n A len cap, e = .returned (.agg #[.bool n, .slice A len cap]) ∧ Q w k n A len cap z
theorem Q.of_canon {w : World} {B k : Nat} {u : Value} {d : List Nat} {z : Int} (hu : Nums w B u d) (hd : Canon d z.natAbs) (hz : z.natAbs < W ^ k) :
    ∃ A len cap, u = .slice A len cap ∧ Q w k (decide (z < 0)) A len cap z := by
  obtain ⟨A, cap, rfl⟩ := hu.form
  exact ⟨A, d.length, cap, rfl, d, hu.mono (Nat.zero_le _), by rw [hd.len]; exact hz, by rw [hd.val, ival_self]⟩
theorem RetQ.toD {B k : Nat} {z x : Int} {e : Ending} {w : World} (h : RetQ B z x e w) (hz : z.natAbs < W ^ k) : RetD k z x e w := by
  obtain ⟨u, d, rfl, hu, hd⟩ := h
  obtain ⟨A, len, cap, rfl, hq⟩ := Q.of_canon hu hd hz
  exact ⟨_, A, len, cap, rfl, hq⟩
theorem RetZ.toI {B k : Nat} {z : Int} {e : Ending} {w : World} (h : RetZ B z e w) (hz : z.natAbs < W ^ k) : RetI k z e w := by
  obtain ⟨u, d, rfl, hu, hd⟩ := h
  obtain ⟨A, len, cap, rfl, hq⟩ := Q.of_canon hu hd hz
  exact ⟨_, A, len, cap, rfl, hq⟩

section
variable {w : World} {k k' : Nat} {n m : Bool} {A A' : Option Addr} {len cap len' cap' : Nat} {z z' x y : Int}
theorem c_zof (n : Int) (hn0 : -9223372036854775808 ≤ n) (hn1 : n ≤ 9223372036854775807) :
    Calls Try.prog 47 #[.int .i64 n] w fun e w' => Below w.heap.size w w' ∧ RetI 1 n e w' := by
  refine (zof_calls w n hn0 hn1).mono ?_
  rintro e w' ⟨hb, h⟩
  exact ⟨hb, h.toI (by rw [Nat.pow_one]; unfold W; omega)⟩
theorem c_of (h : Q w k n A len cap z) (hk : k ≤ 40000) (hx0 : -9223372036854775808 ≤ x) (hx1 : x ≤ 9223372036854775807) :
    Calls Try.prog 34 #[.agg #[.bool n, .slice A len cap], .int .i64 x] w fun e w' => Below w.heap.size w w' ∧ RetD k (nM z x) (nE z x) e w' := by
  have hz := h.lt
  obtain ⟨d, h1, h2, rfl⟩ := h
  refine (of_dyad_calls w n 0 _ d x h1 (by omega) hx0 hx1).mono ?_
  rintro e w' ⟨hb, h⟩
  exact ⟨hb, h.toD (nM_lt hz)⟩
theorem c_norm (h : Q w k n A len cap z) (hk : k ≤ 40000) (hx0 : -9223372036854775808 ≤ x) (hx1 : x ≤ 9223372036854775807) :
    Calls Try.prog 32 #[.agg #[.bool n, .slice A len cap, .int .i64 x]] w fun e w' => Below w.heap.size w w' ∧ RetD k (nM z x) (nE z x) e w' := by
  have hz := h.lt
  obtain ⟨d, h1, h2, rfl⟩ := h
  refine (norm_dyad_calls w n 0 _ d x h1 (by omega) hx0 hx1).mono ?_
  rintro e w' ⟨hb, h⟩
  exact ⟨hb, h.toD (nM_lt hz)⟩
theorem c_sign (h : Q w k n A len cap z) (hk : k ≤ 40000) (hx0 : -9223372036854775808 ≤ x) (hx1 : x ≤ 9223372036854775807) :
    Calls Try.prog 38 #[.agg #[.bool n, .slice A len cap, .int .i64 x]] w fun e w' => Below w.heap.size w w' ∧ e = .returned (.int .i64 (cM z x).sign) := by
  obtain ⟨d, h1, h2, rfl⟩ := h
  exact sign_dyad_calls w n 0 _ d x h1 (by omega) hx0 hx1
theorem c_log (h : Q w k n A len cap z) (hk : k ≤ 40000) (hx0 : -9223372036854775808 ≤ x) (hx1 : x ≤ 9223372036854775807) :
    Calls Try.prog 36 #[.agg #[.bool n, .slice A len cap, .int .i64 x]] w fun e w' => Below w.heap.size w w' ∧ e = .returned (.tuple #[.int .i64 (lgN z x), .bool (lgOk z x)]) := by
  obtain ⟨d, h1, h2, rfl⟩ := h
  exact log_dyad_calls w n 0 _ d x h1 (by omega) hx0 hx1
theorem c_cmp (h : Q w k n A len cap z) (h' : Q w k' m A' len' cap' z') (hk : k ≤ 9000) (hk' : k' ≤ 9000)
    (hx0 : -9223372036854775808 ≤ x) (hx1 : x ≤ 9223372036854775807) (hy0 : -9223372036854775808 ≤ y) (hy1 : y ≤ 9223372036854775807) (K : Nat) (hK : 4000 ≤ K) :
    Calls Try.prog 40 #[.agg #[.bool n, .slice A len cap, .int .i64 x], .agg #[.bool m, .slice A' len' cap', .int .i64 y]] w fun e w' => Below w.heap.size w w' ∧
      e = .returned (.int .i64 (cmpZ (av K z x) (av K z' y))) := by
  obtain ⟨d, h1, h2, rfl⟩ := h
  obtain ⟨d', h1', h2', rfl⟩ := h'
  rw [← cmp_eq hK]
  exact cmp_dyad_calls w n m 0 0 _ _ d d' x y h1 h1' (by omega) (by omega) hx0 hx1 hy0 hy1
theorem lift_lt {low : Int} (hz : z.natAbs < W ^ k) (hl : -4000 ≤ low) : (lift z x low).natAbs < W ^ (k + 125) := by
  have h := lift_len (d := dig W (lift z x low).natAbs) (x := x) rfl hz hl
  rwa [L.dig_len W_gt] at h
theorem c_add (h : Q w k n A len cap z) (h' : Q w k' m A' len' cap' z') (hk : k ≤ 9000) (hk' : k' ≤ 9000)
    (hx0 : -9223372036854775808 ≤ x) (hx1 : x ≤ 9223372036854775807) (hy0 : -9223372036854775808 ≤ y) (hy1 : y ≤ 9223372036854775807) (K : Nat) (hK : 4000 ≤ K) :
    Calls Try.prog 50 #[.agg #[.bool n, .slice A len cap, .int .i64 x], .agg #[.bool m, .slice A' len' cap', .int .i64 y]] w fun e w' => Below w.heap.size w w' ∧
      RetD (k + k' + 126) (pM (av K z x + av K z' y)) (pE (av K z x + av K z' y) (-K)) e w' := by
  have hz := h.lt
  have hz' := h'.lt
  obtain ⟨d, h1, h2, rfl⟩ := h
  obtain ⟨d', h1', h2', rfl⟩ := h'
  refine (add_dyad_calls w n m 0 0 _ _ d d' x y h1 h1' (by omega) (by omega) hx0 hx1 hy0 hy1).mono ?_
  rintro e w' ⟨hb, hr⟩
  rw [add_eqM K hK, add_eqE K hK] at hr
  have hlb := lowE_bounds (ival n (val W d)) x (ival m (val W d')) y
  refine ⟨hb, hr.toD (k := k + k' + 126) ?_⟩
  rw [← add_eqM K hK]
  refine pM_lt (two_lt (k := k + k' + 125) (Int.natAbs_add_le _ _) ?_ ?_ (by omega))
  · exact lift_lt (Nat.lt_of_lt_of_le hz (Nat.pow_le_pow_right W_pos (by omega))) hlb.1
  · exact lift_lt (Nat.lt_of_lt_of_le hz' (Nat.pow_le_pow_right W_pos (by omega))) hlb.1
theorem c_sub (h : Q w k n A len cap z) (h' : Q w k' m A' len' cap' z') (hk : k ≤ 9000) (hk' : k' ≤ 9000)
    (hx0 : -9223372036854775808 ≤ x) (hx1 : x ≤ 9223372036854775807) (hy0 : -9223372036854775808 ≤ y) (hy1 : y ≤ 9223372036854775807) (K : Nat) (hK : 4000 ≤ K) :
    Calls Try.prog 52 #[.agg #[.bool n, .slice A len cap, .int .i64 x], .agg #[.bool m, .slice A' len' cap', .int .i64 y]] w fun e w' => Below w.heap.size w w' ∧
      RetD (k + k' + 126) (pM (av K z x - av K z' y)) (pE (av K z x - av K z' y) (-K)) e w' := by
  have hz := h.lt
  have hz' := h'.lt
  obtain ⟨d, h1, h2, rfl⟩ := h
  obtain ⟨d', h1', h2', rfl⟩ := h'
  refine (sub_dyad_calls w n m 0 0 _ _ d d' x y h1 h1' (by omega) (by omega) hx0 hx1 hy0 hy1).mono ?_
  rintro e w' ⟨hb, hr⟩
  rw [sub_eqM K hK, sub_eqE K hK] at hr
  have hlb := lowE_bounds (ival n (val W d)) x (ival m (val W d')) y
  refine ⟨hb, hr.toD (k := k + k' + 126) ?_⟩
  rw [← sub_eqM K hK]
  refine pM_lt (two_lt (k := k + k' + 125) (Int.natAbs_sub_le _ _) ?_ ?_ (by omega))
  · exact lift_lt (Nat.lt_of_lt_of_le hz (Nat.pow_le_pow_right W_pos (by omega))) hlb.1
  · exact lift_lt (Nat.lt_of_lt_of_le hz' (Nat.pow_le_pow_right W_pos (by omega))) hlb.1
theorem c_neg (h : Q w k n A len cap z) (hk : k ≤ 30000) (hx0 : -9223372036854775808 ≤ x) (hx1 : x ≤ 9223372036854775807) (K : Nat) (hK : 4000 ≤ K) :
    Calls Try.prog 56 #[.agg #[.bool n, .slice A len cap, .int .i64 x]] w fun e w' => Below w.heap.size w w' ∧ RetD k (pM (-av K z x)) (pE (-av K z x) (-K)) e w' := by
  have hz := h.lt
  obtain ⟨d, h1, h2, rfl⟩ := h
  refine (neg_dyad_calls w n 0 _ d x h1 (by omega) hx0 hx1).mono ?_
  rintro e w' ⟨hb, h⟩
  rw [neg_eqM K, neg_eqE K hK] at h
  refine ⟨hb, h.toD ?_⟩
  rw [← neg_eqM K]
  exact pM_lt (by rw [Int.natAbs_neg]; exact Nat.lt_of_le_of_lt (cM_le _ x) hz)
theorem c_shift (h : Q w k n A len cap z) (hk : k ≤ 30000) (hx0 : -9223372036854775808 ≤ x) (hx1 : x ≤ 9223372036854775807) (K : Nat) (hK : 4000 ≤ K) (p : Int) :
    Calls Try.prog 43 #[.agg #[.bool n, .slice A len cap, .int .i64 x], .int .i64 p] w fun e w' => Below w.heap.size w w' ∧
      RetD k (pM (av K z x)) (pE (av K z x) (nearZ p - K)) e w' := by
  have hz := h.lt
  obtain ⟨d, h1, h2, rfl⟩ := h
  refine (shift_dyad_calls w n 0 _ d x p h1 (by omega) hx0 hx1).mono ?_
  rintro e w' ⟨hb, h⟩
  have hcb := cE_bounds (ival n (val W d)) x
  rw [shift_eqM K, show pE (cM (ival n (val W d)) x) (cE (ival n (val W d)) x + nearZ p) = pE (av K (ival n (val W d)) x) (nearZ p - K) from by
    rw [pE_add, show nearZ p - (K : Int) = -K + nearZ p from by omega, pE_add]
    unfold av
    rw [pE_sv K _ _ (by omega)]
    by_cases h0 : cM (ival n (val W d)) x = 0
    · rw [h0, if_pos rfl, if_pos (sv_zero _ _)]
    · rw [if_neg h0, if_neg (fun hh => h0 (sv_eq_zero.1 hh))]] at h
  refine ⟨hb, h.toD ?_⟩
  rw [← shift_eqM K]
  exact pM_lt (Nat.lt_of_le_of_lt (cM_le _ x) hz)
/-- Floor and Ceil, of a value. -/
def vFloor (K : Nat) (V p : Int) : Int := if 0 ≤ p then V * 2 ^ p.toNat / 2 ^ K else V / 2 ^ (K + (-p).toNat)
theorem scF_sv (K : Nat) (a b p : Int) (h : 0 ≤ b + K) : scF a (b + p) = vFloor K (sv K a b) p := by
  have hd : ∀ (t : Int) (i j : Nat), t * 2 ^ (i + j) / 2 ^ i = t * 2 ^ j := by
    intro t i j
    rw [Int.pow_add, ← Int.mul_assoc, Int.mul_right_comm]
    exact Int.mul_ediv_cancel _ (pow_ne i)
  have hq : ∀ (t : Int) (i j : Nat), t * 2 ^ i / 2 ^ (i + j) = t / 2 ^ j := by
    intro t i j
    rw [Int.pow_add, Int.mul_comm t]
    exact Int.mul_ediv_mul_of_pos _ _ (two_pow_int i)
  unfold scF vFloor sv
  by_cases hp : 0 ≤ p
  · rw [if_pos hp, Int.mul_assoc, ← Int.pow_add]
    by_cases hs : 0 ≤ b + p
    · rw [if_pos hs, show (b + K).toNat + p.toNat = K + (b + p).toNat from by omega, hd]
    · rw [if_neg hs, show K = ((b + K).toNat + p.toNat) + (-(b + p)).toNat from by omega]
      rw [show ((b + ((b + K).toNat + p.toNat + (-(b + p)).toNat : Nat))).toNat + p.toNat = (b + K).toNat + p.toNat from by omega, hq]
  · rw [if_neg hp]
    by_cases hs : 0 ≤ b + p
    · rw [if_pos hs, show (b + K).toNat = (K + (-p).toNat) + (b + p).toNat from by omega, hd]
    · rw [if_neg hs, show K + (-p).toNat = (b + K).toNat + (-(b + p)).toNat from by omega, hq]
theorem scC_scF (a b : Int) : scC a b = -scF (-a) b := by
  unfold scC scF
  split
  · rw [Int.neg_mul, Int.neg_neg]
  · rfl
def vCeil (K : Nat) (V p : Int) : Int := -vFloor K (-V) p
theorem scC_sv (K : Nat) (a b p : Int) (h : 0 ≤ b + K) : scC a (b + p) = vCeil K (sv K a b) p := by
  rw [scC_scF, scF_sv K _ _ _ h, sv_neg]; rfl
theorem scF_lt {a e : Int} (ha : a.natAbs < W ^ k) (he : e ≤ 8000) : (scF a e).natAbs < W ^ (k + 125) := by
  have h := scF_len (d := dig W (scF a e).natAbs) rfl ha he
  rwa [L.dig_len W_gt] at h
theorem c_floor (h : Q w k n A len cap z) (hk : k ≤ 9000) (hx0 : -9223372036854775808 ≤ x) (hx1 : x ≤ 9223372036854775807) (K : Nat) (hK : 4000 ≤ K) (p : Int) :
    Calls Try.prog 17 #[.agg #[.bool n, .slice A len cap, .int .i64 x], .int .i64 p] w fun e w' => Below w.heap.size w w' ∧ RetI (k + 125) (vFloor K (av K z x) (nearZ p)) e w' := by
  have hz := h.lt
  obtain ⟨d, h1, h2, rfl⟩ := h
  refine (floor_dyad_calls w n 0 _ d x p h1 (by omega) hx0 hx1).mono ?_
  rintro e w' ⟨hb, h⟩
  have hcb := cE_bounds (ival n (val W d)) x
  have hnb := nearZ_bounds p
  have hlt := scF_lt (e := cE (ival n (val W d)) x + nearZ p) (Nat.lt_of_le_of_lt (cM_le _ x) hz) (by omega)
  rw [scF_sv K _ _ _ (by omega)] at h hlt
  exact ⟨hb, h.toI hlt⟩
theorem c_ceil (h : Q w k n A len cap z) (hk : k ≤ 9000) (hx0 : -9223372036854775808 ≤ x) (hx1 : x ≤ 9223372036854775807) (K : Nat) (hK : 4000 ≤ K) (p : Int) :
    Calls Try.prog 19 #[.agg #[.bool n, .slice A len cap, .int .i64 x], .int .i64 p] w fun e w' => Below w.heap.size w w' ∧ RetI (k + 125) (vCeil K (av K z x) (nearZ p)) e w' := by
  have hz := h.lt
  obtain ⟨d, h1, h2, rfl⟩ := h
  refine (ceil_dyad_calls w n 0 _ d x p h1 (by omega) hx0 hx1).mono ?_
  rintro e w' ⟨hb, h⟩
  have hcb := cE_bounds (ival n (val W d)) x
  have hnb := nearZ_bounds p
  have hlt := scF_lt (a := -cM (ival n (val W d)) x) (e := cE (ival n (val W d)) x + nearZ p) (k := k) (by rw [Int.natAbs_neg]; exact Nat.lt_of_le_of_lt (cM_le _ x) hz) (by omega)
  rw [← Int.natAbs_neg, ← scC_scF] at hlt
  rw [scC_sv K _ _ _ (by omega)] at h hlt
  exact ⟨hb, h.toI hlt⟩
theorem c_ofpat (h : Q w k n A len cap z) (hk : k ≤ 30000) (hx0 : -9223372036854775808 ≤ x) (hx1 : x ≤ 9223372036854775807) :
    Calls Try.prog 24 #[.agg #[.bool n, .slice A len cap, .int .i64 x]] w fun e w' => Below w.heap.size w w' ∧
      e = .returned (.tuple #[.int .u64 (oB1 (nM z x) (nE z x) : Nat), .int .i64 (oX1 (nM z x) (nE z x))]) := by
  obtain ⟨d, h1, h2, rfl⟩ := h
  exact of_pat_calls w n 0 _ d x h1 (by omega) hx0 hx1
theorem c_near (h : Q w k n A len cap z) (hk : k ≤ 9000) (hx0 : -9223372036854775808 ≤ x) (hx1 : x ≤ 9223372036854775807) :
    Calls Try.prog 49 #[.agg #[.bool n, .slice A len cap, .int .i64 x]] w fun e w' => Below w.heap.size w w' ∧
      e = .returned (.tuple #[.int .u64 (nrB z x : Nat), .int .i64 (nrX z x)]) := by
  obtain ⟨d, h1, h2, rfl⟩ := h
  exact near_pat_calls w n 0 _ d x h1 (by omega) hx0 hx1
end
/-- A dyad and an error number. -/
def RetDX (k : Nat) (z x er : Int) (e : Ending) (w : World) : Prop := ∃ n A len cap, e = .returned (.tuple #[.agg #[.bool n, .slice A len cap, .int .i64 x], .int .i64 er]) ∧ Q w k n A len cap z
theorem rM_lt (b : Nat) : (rM b).natAbs < W ^ 1 := by
  have : pFrc b < 4503599627370496 := Nat.mod_lt _ (by omega)
  rw [Nat.pow_one]; unfold rM W; rw [ival_natAbs]; split <;> omega
theorem vM_lt (b : Nat) : (vM b).natAbs < W ^ 1 := by
  unfold vM
  split
  · rw [Nat.pow_one]; unfold W; omega
  · exact nM_lt (rM_lt b)
theorem c_value {w : World} (b : Nat) (hb : b < W) :
    Calls Try.prog 22 #[.int .u64 b] w fun e w' => Below w.heap.size w w' ∧ RetDX 1 (vM b) (vE b) (vX b) e w' := by
  refine (value_calls w b hb).mono ?_
  rintro e w' ⟨hb, u, d, rfl, hu, hd⟩
  obtain ⟨A, len, cap, rfl, hq⟩ := Q.of_canon hu hd (vM_lt b)
  exact ⟨hb, _, A, len, cap, rfl, hq⟩
theorem c_text {w : World} {k : Nat} {n : Bool} {A : Option Addr} {len cap : Nat} {z : Int} (h : Q w k n A len cap z) (hk : k ≤ 50000) (N : Nat) (hN : z.natAbs = N) (h1 : 1 ≤ N) (h9 : N ≤ 9) :
    Calls Try.prog 62 #[.agg #[.bool n, .slice A len cap]] w fun e w' => Below w.heap.size w w' ∧ e = .returned (txt (decide (z < 0)) N) := by
  obtain ⟨d, h2, h3, rfl⟩ := h
  rw [ival_natAbs] at hN
  rw [show decide (ival n (val W d) < 0) = n from by rw [ival_neg, hN]; cases n <;> simp; omega]
  exact text_calls w n 0 _ d N h2 (by omega) hN h1 h9
end Go.Proofs.Ytnkembnachhicaa

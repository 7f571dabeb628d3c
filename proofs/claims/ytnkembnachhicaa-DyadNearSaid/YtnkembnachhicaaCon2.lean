/- Contracts of dyad and zed whose results are canonical. -/
import Derived.Test.YtnkembnachhicaaMul
import Derived.Test.YtnkembnachhicaaRef6
set_option linter.unusedVariables false
set_option linter.unusedSimpArgs false
namespace Go.Proofs.Ytnkembnachhicaa
open Go.RowKit
open L (val dig nth)

/-- A struct's sign and slice are just the integer z as it is answered. -/
def QC (w : World) (k : Nat) (n : Bool) (A : Option Addr) (len cap : Nat) (z : Int) : Prop := ∃ d, Nums w 0 (.slice A len cap) d ∧ d.length ≤ k ∧ Canon d z.natAbs ∧ n = decide (z < 0)
section
variable {w w' : World} {k : Nat} {n : Bool} {A : Option Addr} {len cap : Nat} {z : Int}
theorem QC.q (h : QC w k n A len cap z) : Q w k n A len cap z := by
  obtain ⟨d, h1, h2, h3, rfl⟩ := h
  exact ⟨d, h1, h2, by rw [h3.val, ival_self]⟩
theorem QC.below (h : QC w k n A len cap z) (hb : Below w.heap.size w w') : QC w' k n A len cap z := by
  obtain ⟨d, h1, h2⟩ := h
  exact ⟨d, h1.below hb, h2⟩
theorem QC.drew (h : QC w k n A len cap z) : QC w.drew k n A len cap z := h
theorem QC.drewN (h : QC w k n A len cap z) (m : Nat) : QC (w.drewN m) k n A len cap z := h
theorem QC.of_canon {B : Nat} {u : Value} {d : List Nat} (hu : Nums w B u d) (hd : Canon d z.natAbs) (hz : z.natAbs < W ^ k) :
    ∃ A len cap, u = .slice A len cap ∧ QC w k (decide (z < 0)) A len cap z := by
  obtain ⟨A, cap, rfl⟩ := hu.form
  exact ⟨A, d.length, cap, rfl, d, hu.mono (Nat.zero_le _), by rw [hd.len]; exact hz, hd, rfl⟩
end
def RetDC (k : Nat) (z x : Int) (e : Ending) (w : World) : Prop := ∃ n A len cap, e = .returned (.agg #[.bool n, .slice A len cap, .int .i64 x]) ∧ QC w k n A len cap z
def RetIC (k : Nat) (z : Int) (e : Ending) (w : World) : Prop := ∃ n A len cap, e = .returned (.agg #[.bool n, .slice A len cap]) ∧ QC w k n A len cap z
theorem RetQ.toDC {B k : Nat} {z x : Int} {e : Ending} {w : World} (h : RetQ B z x e w) (hz : z.natAbs < W ^ k) : RetDC k z x e w := by
  obtain ⟨u, d, rfl, hu, hd⟩ := h
  obtain ⟨A, len, cap, rfl, hq⟩ := QC.of_canon hu hd hz
  exact ⟨_, A, len, cap, rfl, hq⟩
theorem RetZ.toIC {B k : Nat} {z : Int} {e : Ending} {w : World} (h : RetZ B z e w) (hz : z.natAbs < W ^ k) : RetIC k z e w := by
  obtain ⟨u, d, rfl, hu, hd⟩ := h
  obtain ⟨A, len, cap, rfl, hq⟩ := QC.of_canon hu hd hz
  exact ⟨_, A, len, cap, rfl, hq⟩
section
variable {w : World} {k k' : Nat} {n m : Bool} {A A' : Option Addr} {len cap len' cap' : Nat} {z z' x y : Int}
theorem cc_zof (n : Int) (hn0 : -9223372036854775808 ≤ n) (hn1 : n ≤ 9223372036854775807) :
    Calls Try.prog 47 #[.int .i64 n] w fun e w' => Below w.heap.size w w' ∧ RetIC 1 n e w' := by
  refine (zof_calls w n hn0 hn1).mono ?_
  rintro e w' ⟨hb, h⟩
  exact ⟨hb, h.toIC (by rw [Nat.pow_one]; unfold W; omega)⟩
theorem cc_of (h : Q w k n A len cap z) (hk : k ≤ 40000) (hx0 : -9223372036854775808 ≤ x) (hx1 : x ≤ 9223372036854775807) :
    Calls Try.prog 34 #[.agg #[.bool n, .slice A len cap], .int .i64 x] w fun e w' => Below w.heap.size w w' ∧ RetDC k (nM z x) (nE z x) e w' := by
  have hz := h.lt
  obtain ⟨d, h1, h2, rfl⟩ := h
  refine (of_dyad_calls w n 0 _ d x h1 (by omega) hx0 hx1).mono ?_
  rintro e w' ⟨hb, h⟩
  exact ⟨hb, h.toDC (nM_lt hz)⟩
theorem cc_norm (h : Q w k n A len cap z) (hk : k ≤ 40000) (hx0 : -9223372036854775808 ≤ x) (hx1 : x ≤ 9223372036854775807) :
    Calls Try.prog 32 #[.agg #[.bool n, .slice A len cap, .int .i64 x]] w fun e w' => Below w.heap.size w w' ∧ RetDC k (nM z x) (nE z x) e w' := by
  have hz := h.lt
  obtain ⟨d, h1, h2, rfl⟩ := h
  refine (norm_dyad_calls w n 0 _ d x h1 (by omega) hx0 hx1).mono ?_
  rintro e w' ⟨hb, h⟩
  exact ⟨hb, h.toDC (nM_lt hz)⟩
theorem cc_add (h : Q w k n A len cap z) (h' : Q w k' m A' len' cap' z') (hk : k ≤ 9000) (hk' : k' ≤ 9000)
    (hx0 : -9223372036854775808 ≤ x) (hx1 : x ≤ 9223372036854775807) (hy0 : -9223372036854775808 ≤ y) (hy1 : y ≤ 9223372036854775807) (K : Nat) (hK : 4000 ≤ K) :
    Calls Try.prog 50 #[.agg #[.bool n, .slice A len cap, .int .i64 x], .agg #[.bool m, .slice A' len' cap', .int .i64 y]] w fun e w' => Below w.heap.size w w' ∧
      RetDC (k + k' + 126) (pM (av K z x + av K z' y)) (pE (av K z x + av K z' y) (-K)) e w' := by
  have hz := h.lt
  have hz' := h'.lt
  obtain ⟨d, h1, h2, rfl⟩ := h
  obtain ⟨d', h1', h2', rfl⟩ := h'
  refine (add_dyad_calls w n m 0 0 _ _ d d' x y h1 h1' (by omega) (by omega) hx0 hx1 hy0 hy1).mono ?_
  rintro e w' ⟨hb, hr⟩
  rw [add_eqM K hK, add_eqE K hK] at hr
  have hlb := lowE_bounds (ival n (val W d)) x (ival m (val W d')) y
  refine ⟨hb, hr.toDC (k := k + k' + 126) ?_⟩
  rw [← add_eqM K hK]
  refine pM_lt (two_lt (k := k + k' + 125) (Int.natAbs_add_le _ _) ?_ ?_ (by omega))
  · exact lift_lt (Nat.lt_of_lt_of_le hz (Nat.pow_le_pow_right W_pos (by omega))) hlb.1
  · exact lift_lt (Nat.lt_of_lt_of_le hz' (Nat.pow_le_pow_right W_pos (by omega))) hlb.1
theorem cc_sub (h : Q w k n A len cap z) (h' : Q w k' m A' len' cap' z') (hk : k ≤ 9000) (hk' : k' ≤ 9000)
    (hx0 : -9223372036854775808 ≤ x) (hx1 : x ≤ 9223372036854775807) (hy0 : -9223372036854775808 ≤ y) (hy1 : y ≤ 9223372036854775807) (K : Nat) (hK : 4000 ≤ K) :
    Calls Try.prog 52 #[.agg #[.bool n, .slice A len cap, .int .i64 x], .agg #[.bool m, .slice A' len' cap', .int .i64 y]] w fun e w' => Below w.heap.size w w' ∧
      RetDC (k + k' + 126) (pM (av K z x - av K z' y)) (pE (av K z x - av K z' y) (-K)) e w' := by
  have hz := h.lt
  have hz' := h'.lt
  obtain ⟨d, h1, h2, rfl⟩ := h
  obtain ⟨d', h1', h2', rfl⟩ := h'
  refine (sub_dyad_calls w n m 0 0 _ _ d d' x y h1 h1' (by omega) (by omega) hx0 hx1 hy0 hy1).mono ?_
  rintro e w' ⟨hb, hr⟩
  rw [sub_eqM K hK, sub_eqE K hK] at hr
  have hlb := lowE_bounds (ival n (val W d)) x (ival m (val W d')) y
  refine ⟨hb, hr.toDC (k := k + k' + 126) ?_⟩
  rw [← sub_eqM K hK]
  refine pM_lt (two_lt (k := k + k' + 125) (Int.natAbs_sub_le _ _) ?_ ?_ (by omega))
  · exact lift_lt (Nat.lt_of_lt_of_le hz (Nat.pow_le_pow_right W_pos (by omega))) hlb.1
  · exact lift_lt (Nat.lt_of_lt_of_le hz' (Nat.pow_le_pow_right W_pos (by omega))) hlb.1
theorem cc_neg (h : Q w k n A len cap z) (hk : k ≤ 30000) (hx0 : -9223372036854775808 ≤ x) (hx1 : x ≤ 9223372036854775807) (K : Nat) (hK : 4000 ≤ K) :
    Calls Try.prog 56 #[.agg #[.bool n, .slice A len cap, .int .i64 x]] w fun e w' => Below w.heap.size w w' ∧ RetDC k (pM (-av K z x)) (pE (-av K z x) (-K)) e w' := by
  have hz := h.lt
  obtain ⟨d, h1, h2, rfl⟩ := h
  refine (neg_dyad_calls w n 0 _ d x h1 (by omega) hx0 hx1).mono ?_
  rintro e w' ⟨hb, h⟩
  rw [neg_eqM K, neg_eqE K hK] at h
  refine ⟨hb, h.toDC ?_⟩
  rw [← neg_eqM K]
  exact pM_lt (by rw [Int.natAbs_neg]; exact Nat.lt_of_le_of_lt (cM_le _ x) hz)
theorem cc_shift (h : Q w k n A len cap z) (hk : k ≤ 30000) (hx0 : -9223372036854775808 ≤ x) (hx1 : x ≤ 9223372036854775807) (K : Nat) (hK : 4000 ≤ K) (p : Int) :
    Calls Try.prog 43 #[.agg #[.bool n, .slice A len cap, .int .i64 x], .int .i64 p] w fun e w' => Below w.heap.size w w' ∧
      RetDC k (pM (av K z x)) (pE (av K z x) (nearZ p - K)) e w' := by
  have hz := h.lt
  obtain ⟨d, h1, h2, rfl⟩ := h
  refine (shift_dyad_calls w n 0 _ d x p h1 (by omega) hx0 hx1).mono ?_
  rintro e w' ⟨hb, h⟩
  have hcb := cE_bounds (ival n (val W d)) x
  rw [shift_eqM K, show pE (cM (ival n (val W d)) x) (cE (ival n (val W d)) x + nearZ p) = pE (av K (ival n (val W d)) x) (nearZ p - K) from by
    rw [pE_add, show nearZ p - (K : Int) = -K + nearZ p from by omega, pE_add]
    unfold av
    rw [pE_sv K _ _ (by omega)]
    by_cases h0 : cM (ival n (val W d)) x = 0
    · rw [h0, if_pos rfl, if_pos (sv_zero _ _)]
    · rw [if_neg h0, if_neg (fun hh => h0 (sv_eq_zero.1 hh))]] at h
  refine ⟨hb, h.toDC ?_⟩
  rw [← shift_eqM K]
  exact pM_lt (Nat.lt_of_le_of_lt (cM_le _ x) hz)
theorem cc_floor (h : Q w k n A len cap z) (hk : k ≤ 9000) (hx0 : -9223372036854775808 ≤ x) (hx1 : x ≤ 9223372036854775807) (K : Nat) (hK : 4000 ≤ K) (p : Int) :
    Calls Try.prog 17 #[.agg #[.bool n, .slice A len cap, .int .i64 x], .int .i64 p] w fun e w' => Below w.heap.size w w' ∧ RetIC (k + 125) (vFloor K (av K z x) (nearZ p)) e w' := by
  have hz := h.lt
  obtain ⟨d, h1, h2, rfl⟩ := h
  refine (floor_dyad_calls w n 0 _ d x p h1 (by omega) hx0 hx1).mono ?_
  rintro e w' ⟨hb, h⟩
  have hcb := cE_bounds (ival n (val W d)) x
  have hnb := nearZ_bounds p
  have hlt := scF_lt (e := cE (ival n (val W d)) x + nearZ p) (Nat.lt_of_le_of_lt (cM_le _ x) hz) (by omega)
  rw [scF_sv K _ _ _ (by omega)] at h hlt
  exact ⟨hb, h.toIC hlt⟩
theorem cc_ceil (h : Q w k n A len cap z) (hk : k ≤ 9000) (hx0 : -9223372036854775808 ≤ x) (hx1 : x ≤ 9223372036854775807) (K : Nat) (hK : 4000 ≤ K) (p : Int) :
    Calls Try.prog 19 #[.agg #[.bool n, .slice A len cap, .int .i64 x], .int .i64 p] w fun e w' => Below w.heap.size w w' ∧ RetIC (k + 125) (vCeil K (av K z x) (nearZ p)) e w' := by
  have hz := h.lt
  obtain ⟨d, h1, h2, rfl⟩ := h
  refine (ceil_dyad_calls w n 0 _ d x p h1 (by omega) hx0 hx1).mono ?_
  rintro e w' ⟨hb, h⟩
  have hcb := cE_bounds (ival n (val W d)) x
  have hnb := nearZ_bounds p
  have hlt := scF_lt (a := -cM (ival n (val W d)) x) (e := cE (ival n (val W d)) x + nearZ p) (k := k) (by rw [Int.natAbs_neg]; exact Nat.lt_of_le_of_lt (cM_le _ x) hz) (by omega)
  rw [← Int.natAbs_neg, ← scC_scF] at hlt
  rw [scC_sv K _ _ _ (by omega)] at h hlt
  exact ⟨hb, h.toIC hlt⟩
theorem cc_mul (h : Q w k n A len cap z) (h' : Q w k' m A' len' cap' z') (hk : k ≤ 9000) (hk' : k' ≤ 9000)
    (hx0 : -9223372036854775808 ≤ x) (hx1 : x ≤ 9223372036854775807) (hy0 : -9223372036854775808 ≤ y) (hy1 : y ≤ 9223372036854775807) (K J : Nat) (hK : 4000 ≤ K) (hJ : 4000 ≤ J) :
    Calls Try.prog 54 #[.agg #[.bool n, .slice A len cap, .int .i64 x], .agg #[.bool m, .slice A' len' cap', .int .i64 y]] w fun e w' => Below w.heap.size w w' ∧
      RetDC (k + k') (pM (av K z x * av J z' y)) (pE (av K z x * av J z' y) (-((K + J : Nat) : Int))) e w' := by
  have hz := h.lt
  have hz' := h'.lt
  obtain ⟨d, h1, h2, rfl⟩ := h
  obtain ⟨d', h1', h2', rfl⟩ := h'
  refine (mul_dyad_calls w n m 0 0 _ _ d d' x y h1 h1' (by omega) (by omega) hx0 hx1 hy0 hy1).mono ?_
  rintro e w' ⟨hb, hr⟩
  rw [mul_eqM K J _ _ _ _ hK hJ, mul_eqE K J _ _ _ _ hK hJ] at hr
  refine ⟨hb, hr.toDC (k := k + k') ?_⟩
  rw [← mul_eqM K J _ _ _ _ hK hJ]
  exact pM_lt (mul_lt (Nat.lt_of_le_of_lt (cM_le _ _) hz) (Nat.lt_of_le_of_lt (cM_le _ _) hz'))
theorem cc_zsub (h : Q w k n A len cap z) (h' : Q w k' m A' len' cap' z') (hk : k ≤ 50000) (hk' : k' ≤ 50000) :
    Calls Try.prog 44 #[.agg #[.bool n, .slice A len cap], .agg #[.bool m, .slice A' len' cap']] w fun e w' => Below w.heap.size w w' ∧ RetIC (k + k' + 1) (z - z') e w' := by
  have hz := h.lt
  have hz' := h'.lt
  obtain ⟨d, h1, h2, rfl⟩ := h
  obtain ⟨d', h1', h2', rfl⟩ := h'
  refine (zsub_calls w n m 0 0 _ _ d d' h1 h1' (by omega) (by omega)).mono ?_
  rintro e w' ⟨hb, h⟩
  exact ⟨hb, h.toIC (two_lt (k := k + k') (Int.natAbs_sub_le _ _) (Nat.lt_of_lt_of_le hz (Nat.pow_le_pow_right W_pos (by omega))) (Nat.lt_of_lt_of_le hz' (Nat.pow_le_pow_right W_pos (by omega))) (by omega))⟩
theorem cc_zshl (h : Q w k n A len cap z) (hk : k ≤ 50000) (p c : Nat) (hc : c ≤ 8000) (hp : c ≤ 64 * p) :
    Calls Try.prog 61 #[.agg #[.bool n, .slice A len cap], .int .i64 (c : Nat)] w fun e w' => Below w.heap.size w w' ∧ RetIC (k + p) (z * 2 ^ c) e w' := by
  have hz := h.lt
  obtain ⟨d, h1, h2, rfl⟩ := h
  refine (zshl_eq w n 0 _ d c c _ h1 (by omega) (by omega) (by omega) rfl rfl).mono ?_
  rintro e w' ⟨hb, h⟩
  refine ⟨hb, h.toIC ?_⟩
  have := len_mul2 (d := dig W (ival n (val W d) * 2 ^ c).natAbs) rfl hz hp
  rwa [L.dig_len W_gt] at this
end
end Go.Proofs.Ytnkembnachhicaa

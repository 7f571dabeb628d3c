/- dyad.Mul; zed.Shl, Sub, Sign, Cmp in the values' words. Contracts of dyad and zed whose results are canonical. The references' Equal: are two integers, two dyads the very same? How far values reach: sums and products of small dyads count. Plain facts. Contracts of dyad with what they come to named by equations: for the laws' walks. -/
import Derived.Test.YtnfbngiabdlclaaLaws
import Derived.Test.YtnfbngiabdlclaaRefs
section
set_option linter.unusedVariables false
set_option linter.unusedSimpArgs false
namespace Go.Proofs.Ytnfbngiabdlclaa
open Go.RowKit
open L (val dig nth)

theorem mul_lt {a b : Int} {k j : Nat} (ha : a.natAbs < W ^ k) (hb : b.natAbs < W ^ j) : (a * b).natAbs < W ^ (k + j) := by
  rw [Int.natAbs_mul, Nat.pow_add]
  exact Nat.mul_lt_mul'' ha hb

set_option maxRecDepth 100000 in
theorem mul_dyad_calls (w : World) (n m : Bool) (B C : Nat) (v u : Value) (l p : List Nat) (x y : Int) (h : Nums w B v l) (hu : Nums w C u p) (hl : l.length ≤ 9000) (hp : p.length ≤ 9000)
    (hx0 : -9223372036854775808 ≤ x) (hx1 : x ≤ 9223372036854775807) (hy0 : -9223372036854775808 ≤ y) (hy1 : y ≤ 9223372036854775807) :
    Calls Try.prog 27 #[.agg #[.bool n, v, .int .i64 x], .agg #[.bool m, u, .int .i64 y]] w fun e w' => Below w.heap.size w w' ∧
      RetQ w.heap.size (pM (cM (ival n (val W l)) x * cM (ival m (val W p)) y)) (pE (cM (ival n (val W l)) x * cM (ival m (val W p)) y) (cE (ival n (val W l)) x + cE (ival m (val W p)) y)) e w' := by
  have h0 := h
  have hu0 := hu
  obtain ⟨A, cap, rfl, -, -, -, hc⟩ := h
  obtain ⟨A', cap', rfl, -, -, -, hc'⟩ := hu
  obtain ⟨W0, hW, hbx, hby, hrs, hB0, hs⟩ := start3 w 43 43 43 #[.bool n, .slice A l.length cap, .int .i64 x] #[.bool m, .slice A' p.length cap', .int .i64 y] #[.bool false, .slice none 0 0, .int .i64 0]
  have h1 := h0.up hB0
  have hu1 := hu0.up hB0
  have hs2 : w.heap.size + 2 < W0.heap.size := by omega
  clear hs hc hc'
  obtain ⟨c0, c1, c2, -, -, -⟩ := hbx.three
  obtain ⟨zx, HZX⟩ : ∃ z, Hid (ival n (val W l) = z) := ⟨_, hide rfl⟩
  obtain ⟨zy, HZY⟩ : ∃ z, Hid (ival m (val W p) = z) := ⟨_, hide rfl⟩
  rw [HZX.out, HZY.out]
  obtain ⟨X, HX⟩ : ∃ z, Hid (cM zx x = z) := ⟨_, hide rfl⟩
  obtain ⟨Y, HY⟩ : ∃ z, Hid (cM zy y = z) := ⟨_, hide rfl⟩
  obtain ⟨ex, HEX⟩ : ∃ z, Hid (cE zx x = z) := ⟨_, hide rfl⟩
  obtain ⟨ey, HEY⟩ : ∃ z, Hid (cE zy y = z) := ⟨_, hide rfl⟩
  have hex := cE_bounds zx x
  have hey := cE_bounds zy y
  rw [HEX.out] at hex
  rw [HEY.out] at hey
  rw [HX.out, HY.out, HEX.out, HEY.out]
  obtain ⟨zM, HM⟩ : ∃ zM, Hid (pM (X * Y) = zM) := ⟨_, hide rfl⟩
  obtain ⟨zE, HE⟩ : ∃ zE, Hid (pE (X * Y) (ex + ey) = zE) := ⟨_, hide rfl⟩
  rw [HM.out, HE.out]
  go_enter Try.func27, Try.ntmps27
  go_upto_region 1 with (fail)
  rw [← hW]
  clear hW
  have HP := counts_calls W0 n B _ l x h1 (by omega) hx0 hx1
  rw [HZX.out, HX.out, HEX.out] at HP
  go_wp2_with fail
  refine HP.mono ?_
  rintro e w1 ⟨hb1, m1, u1, d1, rfl, hn1, hl1, hv1⟩
  clear HP c0 c1 c2
  have hn1' := hn1
  obtain ⟨A1, cap1, rfl⟩ := hn1.form
  have s1 := hb1.size
  obtain ⟨w2, hW2, hbn2, hB2, hs3⟩ := start1 w1 25 #[.bool m1, .slice A1 d1.length cap1]
  have hn2 := hn1'.below hB2
  have hu2 := (hu1.below hb1).below hB2
  have hby2 := (hby.below hb1 (by omega)).below hB2 (by omega)
  have hrs2 := (hrs.below hb1 (by omega)).below hB2 (by omega)
  have hs3' : w1.heap.size < w2.heap.size := by omega
  have HB2 := hide ((hB0.trans (hb1.mono (by omega))).trans (hB2.mono (by omega)))
  clear hs3
  go_upto_region 2 with (fail)
  rw [← hW2]
  clear hW2
  obtain ⟨c3, c4, c5, -, -, -⟩ := hby2.three
  have HP := counts_calls w2 m C _ p y hu2 (by omega) hy0 hy1
  rw [HZY.out, HY.out, HEY.out] at HP
  go_wp2_with fail
  refine HP.mono ?_
  rintro e w3 ⟨hb3, m3, u3, d3, rfl, hn3, hl3, hv3⟩
  clear HP c3 c4 c5
  have hn3' := hn3
  obtain ⟨A3, cap3, rfl⟩ := hn3.form
  have s3 := hb3.size
  obtain ⟨w4, hW4, hbm4, hB4, hs5⟩ := start1 w3 25 #[.bool m3, .slice A3 d3.length cap3]
  have hn4 := (hn2.below hb3).below hB4
  have hn5 := hn3'.below hB4
  have hbn4 := (hbn2.below hb3 hs3').below hB4 (by omega)
  have hrs4 := (hrs2.below hb3 (by omega)).below hB4 (by omega)
  have hs5' : w3.heap.size < w4.heap.size := by omega
  have HB4 := hide ((HB2.out.trans (hb3.mono (by omega))).trans (hB4.mono (by omega)))
  clear hs5
  go_upto_region 3 with (fail)
  rw [← hW4]
  clear hW4
  obtain ⟨e0, e1, -, -⟩ := hbn4.two
  obtain ⟨e2, e3, -, -⟩ := hbm4.two
  have HP := zmul_calls w4 m1 m3 _ _ _ _ d1 d3 hn4 hn5 (by omega) (by omega)
  rw [hv1, hv3] at HP
  have hXl : Hid (X.natAbs < W ^ d1.length) := hide (by rw [← hv1]; exact natAbs_lt hn4.lt)
  have hYl : Hid (Y.natAbs < W ^ d3.length) := hide (by rw [← hv3]; exact natAbs_lt hn5.lt)
  obtain ⟨S, HS⟩ : ∃ c, Hid (X * Y = c) := ⟨_, hide rfl⟩
  rw [HS.out] at HP
  have HM' : Hid (pM S = zM) := hide (by rw [← HS.out]; exact HM.out)
  have HE' : Hid (pE S (ex + ey) = zE) := hide (by rw [← HS.out]; exact HE.out)
  have hww : IntKind.i64.wrap (ex + ey) = ex + ey := IntWalk.i64_in _ (by omega)
  clear hv1 hv3
  go_wp2_with fail
  refine HP.mono ?_
  rintro e w5 ⟨hb5, u5, d5, rfl, hu5, hd5⟩
  clear HP
  obtain ⟨A5, cap5, rfl⟩ := hu5.form
  have s5 := hb5.size
  have hrs5 := hrs4.below hb5 (by omega)
  have hd5l : d5.length ≤ d1.length + d3.length := by rw [hd5.len, ← HS.out]; exact mul_lt hXl.out hYl.out
  have HV5 : Hid (ival (decide (S < 0)) (val W d5) = S) := hide (by rw [hd5.val, ival_self])
  have HP := plain_calls w5 (decide (S < 0)) _ _ d5 (ex + ey) hu5 (by omega) (by omega) (by omega)
  rw [HV5.out, HM'.out, HE'.out] at HP
  go_wp2_with fail
  refine HP.mono ?_
  rintro e w6 ⟨hb6, u6, d6, rfl, hu6, hd6⟩
  clear HP
  obtain ⟨A6, cap6, rfl⟩ := hu6.form
  have s6 := hb6.size
  have hrs6 := hrs5.below hb6 (by omega)
  obtain ⟨f0, f1, f2, f3, f4, f5⟩ := hrs6.three
  go_wp2_with fail
  refine bodyPost_ret (results_dyad rfl _ _ _ _ _ _ _ rfl (((hrs6.set_ 0 _).set_ 1 _).set_ 2 _)) rfl ⟨below3 ((HB4.out.trans (hb5.mono (by omega))).trans (hb6.mono (by omega))) (by omega) _ _ _, ?_⟩
  exact ⟨_, d6, rfl, (nums_low3 hu6 (by omega) _ _ _).mono (by omega), hd6⟩
section
variable {w : World} {k k' : Nat} {n m : Bool} {A A' : Option Addr} {len cap len' cap' : Nat} {z z' x y : Int}
theorem c_mul (h : Q w k n A len cap z) (h' : Q w k' m A' len' cap' z') (hk : k ≤ 9000) (hk' : k' ≤ 9000)
    (hx0 : -9223372036854775808 ≤ x) (hx1 : x ≤ 9223372036854775807) (hy0 : -9223372036854775808 ≤ y) (hy1 : y ≤ 9223372036854775807) (K J : Nat) (hK : 4000 ≤ K) (hJ : 4000 ≤ J) :
    Calls Try.prog 27 #[.agg #[.bool n, .slice A len cap, .int .i64 x], .agg #[.bool m, .slice A' len' cap', .int .i64 y]] w fun e w' => Below w.heap.size w w' ∧
      RetD (k + k') (pM (av K z x * av J z' y)) (pE (av K z x * av J z' y) (-((K + J : Nat) : Int))) e w' := by
  have hz := h.lt
  have hz' := h'.lt
  obtain ⟨d, h1, h2, rfl⟩ := h
  obtain ⟨d', h1', h2', rfl⟩ := h'
  refine (mul_dyad_calls w n m 0 0 _ _ d d' x y h1 h1' (by omega) (by omega) hx0 hx1 hy0 hy1).mono ?_
  rintro e w' ⟨hb, hr⟩
  rw [mul_eqM K J _ _ _ _ hK hJ, mul_eqE K J _ _ _ _ hK hJ] at hr
  refine ⟨hb, hr.toD (k := k + k') ?_⟩
  rw [← mul_eqM K J _ _ _ _ hK hJ]
  exact pM_lt (mul_lt (Nat.lt_of_le_of_lt (cM_le _ _) hz) (Nat.lt_of_le_of_lt (cM_le _ _) hz'))
theorem c_zsub (h : Q w k n A len cap z) (h' : Q w k' m A' len' cap' z') (hk : k ≤ 50000) (hk' : k' ≤ 50000) :
    Calls Try.prog 11 #[.agg #[.bool n, .slice A len cap], .agg #[.bool m, .slice A' len' cap']] w fun e w' => Below w.heap.size w w' ∧ RetI (k + k' + 1) (z - z') e w' := by
  have hz := h.lt
  have hz' := h'.lt
  obtain ⟨d, h1, h2, rfl⟩ := h
  obtain ⟨d', h1', h2', rfl⟩ := h'
  refine (zsub_calls w n m 0 0 _ _ d d' h1 h1' (by omega) (by omega)).mono ?_
  rintro e w' ⟨hb, h⟩
  exact ⟨hb, h.toI (two_lt (k := k + k') (Int.natAbs_sub_le _ _) (Nat.lt_of_lt_of_le hz (Nat.pow_le_pow_right W_pos (by omega))) (Nat.lt_of_lt_of_le hz' (Nat.pow_le_pow_right W_pos (by omega))) (by omega))⟩
theorem c_zsign (h : Q w k n A len cap z) (hk : k ≤ 50000) :
    Calls Try.prog 33 #[.agg #[.bool n, .slice A len cap]] w fun e w' => Below w.heap.size w w' ∧ e = .returned (.int .i64 z.sign) := by
  obtain ⟨d, h1, h2, h3⟩ := h
  exact zsign_eq w n 0 _ d z.sign (by rw [h3]) h1 (by omega)
theorem c_zcmp (h : Q w k n A len cap z) (h' : Q w k' m A' len' cap' z') (hk : k ≤ 50000) (hk' : k' ≤ 50000) :
    Calls Try.prog 10 #[.agg #[.bool n, .slice A len cap], .agg #[.bool m, .slice A' len' cap']] w fun e w' => Below w.heap.size w w' ∧ e = .returned (.int .i64 (cmpZ z z')) := by
  obtain ⟨d, h1, h2, rfl⟩ := h
  obtain ⟨d', h1', h2', rfl⟩ := h'
  exact zcmp_calls w n m 0 0 _ _ d d' h1 h1' (by omega) (by omega)
theorem c_zshl (h : Q w k n A len cap z) (hk : k ≤ 50000) (p c : Nat) (hc : c ≤ 8000) (hp : c ≤ 64 * p) :
    Calls Try.prog 59 #[.agg #[.bool n, .slice A len cap], .int .i64 (c : Nat)] w fun e w' => Below w.heap.size w w' ∧ RetI (k + p) (z * 2 ^ c) e w' := by
  have hz := h.lt
  obtain ⟨d, h1, h2, rfl⟩ := h
  refine (zshl_eq w n 0 _ d c c _ h1 (by omega) (by omega) (by omega) rfl rfl).mono ?_
  rintro e w' ⟨hb, h⟩
  refine ⟨hb, h.toI ?_⟩
  have := len_mul2 (d := dig W (ival n (val W d) * 2 ^ c).natAbs) rfl hz hp
  rwa [L.dig_len W_gt] at this
end
end Go.Proofs.Ytnfbngiabdlclaa
end
section
set_option linter.unusedVariables false
set_option linter.unusedSimpArgs false
namespace Go.Proofs.Ytnfbngiabdlclaa
open Go.RowKit
open L (val dig nth)

/-- A struct's sign and slice are just the integer z as it is answered. -/
def QC (w : World) (k : Nat) (n : Bool) (A : Option Addr) (len cap : Nat) (z : Int) : Prop := ∃ d, Nums w 0 (.slice A len cap) d ∧ d.length ≤ k ∧ Canon d z.natAbs ∧ n = decide (z < 0)
section
variable {w w' : World} {k : Nat} {n : Bool} {A : Option Addr} {len cap : Nat} {z : Int}
theorem QC.q (h : QC w k n A len cap z) : Q w k n A len cap z := by
  obtain ⟨d, h1, h2, h3, rfl⟩ := h
  exact ⟨d, h1, h2, by rw [h3.val, ival_self]⟩
theorem QC.below (h : QC w k n A len cap z) (hb : Below w.heap.size w w') : QC w' k n A len cap z := by
  obtain ⟨d, h1, h2⟩ := h
  exact ⟨d, h1.below hb, h2⟩
theorem QC.drew (h : QC w k n A len cap z) : QC w.drew k n A len cap z := h
theorem QC.drewN (h : QC w k n A len cap z) (m : Nat) : QC (w.drewN m) k n A len cap z := h
theorem QC.of_canon {B : Nat} {u : Value} {d : List Nat} (hu : Nums w B u d) (hd : Canon d z.natAbs) (hz : z.natAbs < W ^ k) :
    ∃ A len cap, u = .slice A len cap ∧ QC w k (decide (z < 0)) A len cap z := by
  obtain ⟨A, cap, rfl⟩ := hu.form
  exact ⟨A, d.length, cap, rfl, d, hu.mono (Nat.zero_le _), by rw [hd.len]; exact hz, hd, rfl⟩
end
def RetDC (k : Nat) (z x : Int) (e : Ending) (w : World) : Prop := ∃ n A len cap, e = .returned (.agg #[.bool n, .slice A len cap, .int .i64 x]) ∧ QC w k n A len cap z
def RetIC (k : Nat) (z : Int) (e : Ending) (w : World) : Prop := ∃ n A len cap, e = .returned (.agg #[.bool n, .slice A len cap]) ∧ QC w k n A len cap z
theorem RetQ.toDC {B k : Nat} {z x : Int} {e : Ending} {w : World} (h : RetQ B z x e w) (hz : z.natAbs < W ^ k) : RetDC k z x e w := by
  obtain ⟨u, d, rfl, hu, hd⟩ := h
  obtain ⟨A, len, cap, rfl, hq⟩ := QC.of_canon hu hd hz
  exact ⟨_, A, len, cap, rfl, hq⟩
theorem RetZ.toIC {B k : Nat} {z : Int} {e : Ending} {w : World} (h : RetZ B z e w) (hz : z.natAbs < W ^ k) : RetIC k z e w := by
  obtain ⟨u, d, rfl, hu, hd⟩ := h
  obtain ⟨A, len, cap, rfl, hq⟩ := QC.of_canon hu hd hz
  exact ⟨_, A, len, cap, rfl, hq⟩
section
variable {w : World} {k k' : Nat} {n m : Bool} {A A' : Option Addr} {len cap len' cap' : Nat} {z z' x y : Int}
theorem cc_zof (n : Int) (hn0 : -9223372036854775808 ≤ n) (hn1 : n ≤ 9223372036854775807) :
    Calls Try.prog 12 #[.int .i64 n] w fun e w' => Below w.heap.size w w' ∧ RetIC 1 n e w' := by
  refine (zof_calls w n hn0 hn1).mono ?_
  rintro e w' ⟨hb, h⟩
  exact ⟨hb, h.toIC (by rw [Nat.pow_one]; unfold W; omega)⟩
theorem cc_of (h : Q w k n A len cap z) (hk : k ≤ 40000) (hx0 : -9223372036854775808 ≤ x) (hx1 : x ≤ 9223372036854775807) :
    Calls Try.prog 40 #[.agg #[.bool n, .slice A len cap], .int .i64 x] w fun e w' => Below w.heap.size w w' ∧ RetDC k (nM z x) (nE z x) e w' := by
  have hz := h.lt
  obtain ⟨d, h1, h2, rfl⟩ := h
  refine (of_dyad_calls w n 0 _ d x h1 (by omega) hx0 hx1).mono ?_
  rintro e w' ⟨hb, h⟩
  exact ⟨hb, h.toDC (nM_lt hz)⟩
theorem cc_norm (h : Q w k n A len cap z) (hk : k ≤ 40000) (hx0 : -9223372036854775808 ≤ x) (hx1 : x ≤ 9223372036854775807) :
    Calls Try.prog 72 #[.agg #[.bool n, .slice A len cap, .int .i64 x]] w fun e w' => Below w.heap.size w w' ∧ RetDC k (nM z x) (nE z x) e w' := by
  have hz := h.lt
  obtain ⟨d, h1, h2, rfl⟩ := h
  refine (norm_dyad_calls w n 0 _ d x h1 (by omega) hx0 hx1).mono ?_
  rintro e w' ⟨hb, h⟩
  exact ⟨hb, h.toDC (nM_lt hz)⟩
theorem cc_add (h : Q w k n A len cap z) (h' : Q w k' m A' len' cap' z') (hk : k ≤ 9000) (hk' : k' ≤ 9000)
    (hx0 : -9223372036854775808 ≤ x) (hx1 : x ≤ 9223372036854775807) (hy0 : -9223372036854775808 ≤ y) (hy1 : y ≤ 9223372036854775807) (K : Nat) (hK : 4000 ≤ K) :
    Calls Try.prog 25 #[.agg #[.bool n, .slice A len cap, .int .i64 x], .agg #[.bool m, .slice A' len' cap', .int .i64 y]] w fun e w' => Below w.heap.size w w' ∧
      RetDC (k + k' + 126) (pM (av K z x + av K z' y)) (pE (av K z x + av K z' y) (-K)) e w' := by
  have hz := h.lt
  have hz' := h'.lt
  obtain ⟨d, h1, h2, rfl⟩ := h
  obtain ⟨d', h1', h2', rfl⟩ := h'
  refine (add_dyad_calls w n m 0 0 _ _ d d' x y h1 h1' (by omega) (by omega) hx0 hx1 hy0 hy1).mono ?_
  rintro e w' ⟨hb, hr⟩
  rw [add_eqM K hK, add_eqE K hK] at hr
  have hlb := lowE_bounds (ival n (val W d)) x (ival m (val W d')) y
  refine ⟨hb, hr.toDC (k := k + k' + 126) ?_⟩
  rw [← add_eqM K hK]
  refine pM_lt (two_lt (k := k + k' + 125) (Int.natAbs_add_le _ _) ?_ ?_ (by omega))
  · exact lift_lt (Nat.lt_of_lt_of_le hz (Nat.pow_le_pow_right W_pos (by omega))) hlb.1
  · exact lift_lt (Nat.lt_of_lt_of_le hz' (Nat.pow_le_pow_right W_pos (by omega))) hlb.1
theorem cc_sub (h : Q w k n A len cap z) (h' : Q w k' m A' len' cap' z') (hk : k ≤ 9000) (hk' : k' ≤ 9000)
    (hx0 : -9223372036854775808 ≤ x) (hx1 : x ≤ 9223372036854775807) (hy0 : -9223372036854775808 ≤ y) (hy1 : y ≤ 9223372036854775807) (K : Nat) (hK : 4000 ≤ K) :
    Calls Try.prog 26 #[.agg #[.bool n, .slice A len cap, .int .i64 x], .agg #[.bool m, .slice A' len' cap', .int .i64 y]] w fun e w' => Below w.heap.size w w' ∧
      RetDC (k + k' + 126) (pM (av K z x - av K z' y)) (pE (av K z x - av K z' y) (-K)) e w' := by
  have hz := h.lt
  have hz' := h'.lt
  obtain ⟨d, h1, h2, rfl⟩ := h
  obtain ⟨d', h1', h2', rfl⟩ := h'
  refine (sub_dyad_calls w n m 0 0 _ _ d d' x y h1 h1' (by omega) (by omega) hx0 hx1 hy0 hy1).mono ?_
  rintro e w' ⟨hb, hr⟩
  rw [sub_eqM K hK, sub_eqE K hK] at hr
  have hlb := lowE_bounds (ival n (val W d)) x (ival m (val W d')) y
  refine ⟨hb, hr.toDC (k := k + k' + 126) ?_⟩
  rw [← sub_eqM K hK]
  refine pM_lt (two_lt (k := k + k' + 125) (Int.natAbs_sub_le _ _) ?_ ?_ (by omega))
  · exact lift_lt (Nat.lt_of_lt_of_le hz (Nat.pow_le_pow_right W_pos (by omega))) hlb.1
  · exact lift_lt (Nat.lt_of_lt_of_le hz' (Nat.pow_le_pow_right W_pos (by omega))) hlb.1
theorem cc_floor (h : Q w k n A len cap z) (hk : k ≤ 9000) (hx0 : -9223372036854775808 ≤ x) (hx1 : x ≤ 9223372036854775807) (K : Nat) (hK : 4000 ≤ K) (p : Int) :
    Calls Try.prog 52 #[.agg #[.bool n, .slice A len cap, .int .i64 x], .int .i64 p] w fun e w' => Below w.heap.size w w' ∧ RetIC (k + 125) (vFloor K (av K z x) (nearZ p)) e w' := by
  have hz := h.lt
  obtain ⟨d, h1, h2, rfl⟩ := h
  refine (floor_dyad_calls w n 0 _ d x p h1 (by omega) hx0 hx1).mono ?_
  rintro e w' ⟨hb, h⟩
  have hcb := cE_bounds (ival n (val W d)) x
  have hnb := nearZ_bounds p
  have hlt := scF_lt (e := cE (ival n (val W d)) x + nearZ p) (Nat.lt_of_le_of_lt (cM_le _ x) hz) (by omega)
  rw [scF_sv K _ _ _ (by omega)] at h hlt
  exact ⟨hb, h.toIC hlt⟩
theorem cc_ceil (h : Q w k n A len cap z) (hk : k ≤ 9000) (hx0 : -9223372036854775808 ≤ x) (hx1 : x ≤ 9223372036854775807) (K : Nat) (hK : 4000 ≤ K) (p : Int) :
    Calls Try.prog 53 #[.agg #[.bool n, .slice A len cap, .int .i64 x], .int .i64 p] w fun e w' => Below w.heap.size w w' ∧ RetIC (k + 125) (vCeil K (av K z x) (nearZ p)) e w' := by
  have hz := h.lt
  obtain ⟨d, h1, h2, rfl⟩ := h
  refine (ceil_dyad_calls w n 0 _ d x p h1 (by omega) hx0 hx1).mono ?_
  rintro e w' ⟨hb, h⟩
  have hcb := cE_bounds (ival n (val W d)) x
  have hnb := nearZ_bounds p
  have hlt := scF_lt (a := -cM (ival n (val W d)) x) (e := cE (ival n (val W d)) x + nearZ p) (k := k) (by rw [Int.natAbs_neg]; exact Nat.lt_of_le_of_lt (cM_le _ x) hz) (by omega)
  rw [← Int.natAbs_neg, ← scC_scF] at hlt
  rw [scC_sv K _ _ _ (by omega)] at h hlt
  exact ⟨hb, h.toIC hlt⟩
theorem cc_mul (h : Q w k n A len cap z) (h' : Q w k' m A' len' cap' z') (hk : k ≤ 9000) (hk' : k' ≤ 9000)
    (hx0 : -9223372036854775808 ≤ x) (hx1 : x ≤ 9223372036854775807) (hy0 : -9223372036854775808 ≤ y) (hy1 : y ≤ 9223372036854775807) (K J : Nat) (hK : 4000 ≤ K) (hJ : 4000 ≤ J) :
    Calls Try.prog 27 #[.agg #[.bool n, .slice A len cap, .int .i64 x], .agg #[.bool m, .slice A' len' cap', .int .i64 y]] w fun e w' => Below w.heap.size w w' ∧
      RetDC (k + k') (pM (av K z x * av J z' y)) (pE (av K z x * av J z' y) (-((K + J : Nat) : Int))) e w' := by
  have hz := h.lt
  have hz' := h'.lt
  obtain ⟨d, h1, h2, rfl⟩ := h
  obtain ⟨d', h1', h2', rfl⟩ := h'
  refine (mul_dyad_calls w n m 0 0 _ _ d d' x y h1 h1' (by omega) (by omega) hx0 hx1 hy0 hy1).mono ?_
  rintro e w' ⟨hb, hr⟩
  rw [mul_eqM K J _ _ _ _ hK hJ, mul_eqE K J _ _ _ _ hK hJ] at hr
  refine ⟨hb, hr.toDC (k := k + k') ?_⟩
  rw [← mul_eqM K J _ _ _ _ hK hJ]
  exact pM_lt (mul_lt (Nat.lt_of_le_of_lt (cM_le _ _) hz) (Nat.lt_of_le_of_lt (cM_le _ _) hz'))
theorem cc_zsub (h : Q w k n A len cap z) (h' : Q w k' m A' len' cap' z') (hk : k ≤ 50000) (hk' : k' ≤ 50000) :
    Calls Try.prog 11 #[.agg #[.bool n, .slice A len cap], .agg #[.bool m, .slice A' len' cap']] w fun e w' => Below w.heap.size w w' ∧ RetIC (k + k' + 1) (z - z') e w' := by
  have hz := h.lt
  have hz' := h'.lt
  obtain ⟨d, h1, h2, rfl⟩ := h
  obtain ⟨d', h1', h2', rfl⟩ := h'
  refine (zsub_calls w n m 0 0 _ _ d d' h1 h1' (by omega) (by omega)).mono ?_
  rintro e w' ⟨hb, h⟩
  exact ⟨hb, h.toIC (two_lt (k := k + k') (Int.natAbs_sub_le _ _) (Nat.lt_of_lt_of_le hz (Nat.pow_le_pow_right W_pos (by omega))) (Nat.lt_of_lt_of_le hz' (Nat.pow_le_pow_right W_pos (by omega))) (by omega))⟩
theorem cc_zshl (h : Q w k n A len cap z) (hk : k ≤ 50000) (p c : Nat) (hc : c ≤ 8000) (hp : c ≤ 64 * p) :
    Calls Try.prog 59 #[.agg #[.bool n, .slice A len cap], .int .i64 (c : Nat)] w fun e w' => Below w.heap.size w w' ∧ RetIC (k + p) (z * 2 ^ c) e w' := by
  have hz := h.lt
  obtain ⟨d, h1, h2, rfl⟩ := h
  refine (zshl_eq w n 0 _ d c c _ h1 (by omega) (by omega) (by omega) rfl rfl).mono ?_
  rintro e w' ⟨hb, h⟩
  refine ⟨hb, h.toIC ?_⟩
  have := len_mul2 (d := dig W (ival n (val W d) * 2 ^ c).natAbs) rfl hz hp
  rwa [L.dig_len W_gt] at this
end
end Go.Proofs.Ytnfbngiabdlclaa
end
section
set_option linter.unusedVariables false
set_option linter.unusedSimpArgs false
namespace Go.Proofs.Ytnfbngiabdlclaa
open Go.RowKit
open L (val dig nth)

theorem canon_eq {d d' : List Nat} {z z' : Int} (hd : Canon d z.natAbs) (hd' : Canon d' z'.natAbs) : ((d == d') && (decide (z < 0) == decide (z' < 0))) = decide (z = z') := by
  by_cases h : z = z'
  · subst h
    have : d = d' := by rw [show d = dig W z.natAbs from hd, show d' = dig W z.natAbs from hd']
    subst this
    simp
  · rw [decide_eq_false h]
    by_cases hn : decide (z < 0) = decide (z' < 0)
    · have hne : d ≠ d' := by
        rintro rfl
        have h1 : z.natAbs = z'.natAbs := hd.val.symm.trans hd'.val
        rw [decide_eq_decide] at hn
        omega
      rw [beq_eq_false_iff_ne.2 hne]; rfl
    · rw [beq_eq_false_iff_ne.2 hn, Bool.and_false]

end Go.Proofs.Ytnfbngiabdlclaa
end
section
set_option linter.unusedVariables false
namespace Go.Proofs.Ytnfbngiabdlclaa
open Go.RowKit
open L (val dig nth)

/-- A value of whole places of 2^lo, below 2^hi. -/
def InV (K : Nat) (lo hi V : Int) : Prop := 0 ≤ lo + K ∧ 0 ≤ hi + K ∧ (∃ u : Int, V = sv K u lo) ∧ V.natAbs < 2 ^ (hi + K).toNat
section
variable {K J : Nat} {lo hi lo' hi' V V' : Int}
theorem InV.mono (h : InV K lo hi V) (h1 : lo' ≤ lo) (h2 : 0 ≤ lo' + K) (h3 : hi ≤ hi') : InV K lo' hi' V := by
  obtain ⟨a, b, ⟨u, hu⟩, c⟩ := h
  refine ⟨h2, by omega, ⟨u * 2 ^ (lo - lo').toNat, ?_⟩, Nat.lt_of_lt_of_le c (Nat.pow_le_pow_right (by omega) (by omega))⟩
  rw [sv_low K u lo lo' h1 h2]; exact hu
theorem two_pow_step {a b : Nat} {e : Int} (he : 0 ≤ e) (ha : a < 2 ^ e.toNat) (hb : b < 2 ^ e.toNat) : a + b < 2 ^ (e + 1).toNat := by
  rw [show (e + 1).toNat = e.toNat + 1 from by omega, Nat.pow_succ]; omega
theorem InV.add (h : InV K lo hi V) (h' : InV K lo hi V') : InV K lo (hi + 1) (V + V') := by
  obtain ⟨a, b, ⟨u, hu⟩, c⟩ := h
  obtain ⟨a', b', ⟨u', hu'⟩, c'⟩ := h'
  refine ⟨a, by omega, ⟨u + u', by rw [sv_add, ← hu, ← hu']⟩, Nat.lt_of_le_of_lt (Int.natAbs_add_le _ _) ?_⟩
  rw [show hi + 1 + (K : Int) = hi + K + 1 from by omega]
  exact two_pow_step b c c'
theorem InV.neg (h : InV K lo hi V) : InV K lo hi (-V) := by
  obtain ⟨a, b, ⟨u, hu⟩, c⟩ := h
  exact ⟨a, b, ⟨-u, by rw [sv_neg, ← hu]⟩, by rw [Int.natAbs_neg]; exact c⟩
theorem InV.sub (h : InV K lo hi V) (h' : InV K lo hi V') : InV K lo (hi + 1) (V - V') := by
  rw [Int.sub_eq_add_neg]; exact h.add h'.neg
theorem InV.mul (h : InV K lo hi V) (h' : InV J lo' hi' V') : InV (K + J) (lo + lo') (hi + hi') (V * V') := by
  obtain ⟨a, b, ⟨u, hu⟩, c⟩ := h
  obtain ⟨a', b', ⟨u', hu'⟩, c'⟩ := h'
  refine ⟨by omega, by omega, ⟨u * u', by rw [sv_mul K J _ _ _ _ a a', ← hu, ← hu']⟩, ?_⟩
  rw [Int.natAbs_mul, show (hi + hi' + ((K + J : Nat) : Int)).toNat = (hi + K).toNat + (hi' + J).toNat from by omega, Nat.pow_add]
  exact Nat.mul_lt_mul'' c c'
theorem InV.pE (h : InV K lo hi V) : V = 0 ∧ pE V (-K) = 0 ∨ lo ≤ pE V (-K) ∧ pE V (-K) ≤ hi := by
  by_cases h0 : V = 0
  · left; subst h0; exact ⟨rfl, pE_zero _⟩
  · right
    obtain ⟨a, b, hu, c⟩ := h
    exact pE_bounds' h0 hu a c b
theorem sv_self (K : Nat) (V : Int) : sv K V (-K) = V := by
  unfold sv; rw [show (-(K : Int) + K).toNat = 0 from by omega, Int.pow_zero, Int.mul_one]
/-- What is answered, handed in again, counts. -/
theorem InV.av (h : InV K lo hi V) (h1 : -4000 ≤ lo) (h2 : hi ≤ 4000) : Proofs.Ytnfbngiabdlclaa.av K (pM V) (Proofs.Ytnfbngiabdlclaa.pE V (-K)) = V := by
  have hb := h.pE
  rw [av_of (by omega) (by omega), sv_plain K V _ (by omega), sv_self]
theorem InV.bd (h : InV K lo hi V) (h1 : -4000 ≤ lo) (h2 : hi ≤ 4000) : -4000 ≤ Proofs.Ytnfbngiabdlclaa.pE V (-K) ∧ Proofs.Ytnfbngiabdlclaa.pE V (-K) ≤ 4000 := by
  have hb := h.pE
  omega
end
theorem InV.small {K : Nat} (hK : 4000 ≤ K) {z x : Int} {k : Nat} {m : Int} (hz : z.natAbs < W ^ k) (hx : -m ≤ x ∧ x ≤ m) (hm : m ≤ 4000) (hm0 : 0 ≤ m) : InV K (-m) (64 * k + m) (Proofs.Ytnfbngiabdlclaa.av K z x) := by
  rw [av_of (by omega) (by omega)]
  refine ⟨by omega, by omega, ⟨z * 2 ^ (x - -m).toNat, by rw [sv_low K z x (-m) (by omega) (by omega)]⟩, ?_⟩
  rw [sv_natAbs, show (64 * (k : Int) + m + K).toNat = 64 * k + (m + K).toNat from by omega, Nat.pow_add]
  rw [W_pow] at hz
  exact Nat.lt_of_lt_of_le (Nat.mul_lt_mul_of_pos_right hz (Nat.two_pow_pos _)) (Nat.mul_le_mul_left _ (Nat.pow_le_pow_right (by omega) (by omega)))
theorem tmod_bd (x : Int) (m : Nat) (hm : 0 < m) : -((m : Int) - 1) ≤ x.tmod m ∧ x.tmod m ≤ (m : Int) - 1 := by
  have h1 := Int.natAbs_tmod x m
  rw [Int.natAbs_natCast] at h1
  have h2 := Nat.mod_lt x.natAbs hm
  omega
theorem cmpZ_sub (a b : Int) : cmpZ a b = (a - b).sign := by
  unfold cmpZ
  rcases sign_cases (a - b) with ⟨h, h'⟩ | ⟨h, h'⟩ | ⟨h, h'⟩ <;> rw [h]
  · rw [if_pos (by omega)]
  · rw [if_neg (by omega), if_neg (by omega)]
  · rw [if_neg (by omega), if_pos (by omega)]
end Go.Proofs.Ytnfbngiabdlclaa
end
section
set_option linter.unusedVariables false
set_option linter.unusedSimpArgs false
namespace Go.Proofs.Ytnfbngiabdlclaa
open Go.RowKit
open L (val dig nth)

theorem z_shl_lt {z : Int} {k c t : Nat} (hz : z.natAbs < W ^ k) (hc : c ≤ 64 * t) : (z * 2 ^ c).natAbs < W ^ (k + t) := by
  have := len_mul2 (d := dig W (z * 2 ^ c).natAbs) (k := k) (n := c) (t := t) (z := z) rfl hz hc
  rwa [L.dig_len W_gt] at this
theorem z_shl {w : World} {k : Nat} {n : Bool} {A : Option Addr} {len cap : Nat} {z : Int} (h : Q w k n A len cap z) (hk : k ≤ 50000) (c : Nat) (hc : c ≤ 8000) :
    Calls Try.prog 59 #[.agg #[.bool n, .slice A len cap], .int .i64 (c : Nat)] w fun e w' => Below w.heap.size w w' ∧ RetZ w.heap.size (z * 2 ^ c) e w' := by
  obtain ⟨d, h1, h2, rfl⟩ := h
  exact zshl_eq w n 0 _ d c c _ h1 (by omega) (by omega) (by omega) rfl rfl
theorem z_sign {w : World} {k : Nat} {n : Bool} {A : Option Addr} {len cap : Nat} {z c : Int} (h : Q w k n A len cap z) (hk : k ≤ 50000) (hc : z.sign = c) :
    Calls Try.prog 33 #[.agg #[.bool n, .slice A len cap]] w fun e w' => Below w.heap.size w w' ∧ e = .returned (.int .i64 c) := hc ▸ c_zsign h hk
theorem z_cmp {w : World} {k k' : Nat} {n m : Bool} {A A' : Option Addr} {len cap len' cap' : Nat} {z z' c : Int} (h : Q w k n A len cap z) (h' : Q w k' m A' len' cap' z') (hk : k ≤ 50000) (hk' : k' ≤ 50000) (hc : cmpZ z z' = c) :
    Calls Try.prog 10 #[.agg #[.bool n, .slice A len cap], .agg #[.bool m, .slice A' len' cap']] w fun e w' => Below w.heap.size w w' ∧ e = .returned (.int .i64 c) := hc ▸ c_zcmp h h' hk hk'
section
variable {w : World} {k k' : Nat} {n m : Bool} {A A' : Option Addr} {len cap len' cap' : Nat} {z z' x y V V' zz xx : Int}
theorem e_add (K : Nat) (h : Q w k n A len cap z) (h' : Q w k' m A' len' cap' z') (hK : 4000 ≤ K) (hk : k ≤ 9000) (hk' : k' ≤ 9000) (hx : -100000 ≤ x ∧ x ≤ 100000) (hy : -100000 ≤ y ∧ y ≤ 100000)
    (hV : av K z x = V) (hV' : av K z' y = V') (hz : pM (V + V') = zz) (hxx : pE (V + V') (-K) = xx) :
    Calls Try.prog 25 #[.agg #[.bool n, .slice A len cap, .int .i64 x], .agg #[.bool m, .slice A' len' cap', .int .i64 y]] w fun e w' => Below w.heap.size w w' ∧ RetDC (k + k' + 126) zz xx e w' := by
  have := cc_add (x := x) (y := y) h h' hk hk' (by omega) (by omega) (by omega) (by omega) K hK
  rwa [hV, hV', hz, hxx] at this
theorem e_sub (K : Nat) (h : Q w k n A len cap z) (h' : Q w k' m A' len' cap' z') (hK : 4000 ≤ K) (hk : k ≤ 9000) (hk' : k' ≤ 9000) (hx : -100000 ≤ x ∧ x ≤ 100000) (hy : -100000 ≤ y ∧ y ≤ 100000)
    (hV : av K z x = V) (hV' : av K z' y = V') (hz : pM (V - V') = zz) (hxx : pE (V - V') (-K) = xx) :
    Calls Try.prog 26 #[.agg #[.bool n, .slice A len cap, .int .i64 x], .agg #[.bool m, .slice A' len' cap', .int .i64 y]] w fun e w' => Below w.heap.size w w' ∧ RetDC (k + k' + 126) zz xx e w' := by
  have := cc_sub (x := x) (y := y) h h' hk hk' (by omega) (by omega) (by omega) (by omega) K hK
  rwa [hV, hV', hz, hxx] at this
theorem e_mul (K J : Nat) (h : Q w k n A len cap z) (h' : Q w k' m A' len' cap' z') (hK : 4000 ≤ K) (hJ : 4000 ≤ J) (hk : k ≤ 9000) (hk' : k' ≤ 9000) (hx : -100000 ≤ x ∧ x ≤ 100000) (hy : -100000 ≤ y ∧ y ≤ 100000)
    (hV : av K z x = V) (hV' : av J z' y = V') (hz : pM (V * V') = zz) (hxx : pE (V * V') (-((K + J : Nat) : Int)) = xx) :
    Calls Try.prog 27 #[.agg #[.bool n, .slice A len cap, .int .i64 x], .agg #[.bool m, .slice A' len' cap', .int .i64 y]] w fun e w' => Below w.heap.size w w' ∧ RetDC (k + k') zz xx e w' := by
  have := cc_mul (x := x) (y := y) h h' hk hk' (by omega) (by omega) (by omega) (by omega) K J hK hJ
  rwa [hV, hV', hz, hxx] at this
theorem e_norm (K : Nat) (h : Q w k n A len cap z) (hK : 4000 ≤ K) (hk : k ≤ 9000) (hx : -100000 ≤ x ∧ x ≤ 100000) (hV : av K z x = V) (hz : pM V = zz) (hxx : pE V (-K) = xx) :
    Calls Try.prog 72 #[.agg #[.bool n, .slice A len cap, .int .i64 x]] w fun e w' => Below w.heap.size w w' ∧ RetDC k zz xx e w' := by
  have := cc_norm (x := x) h (by omega) (by omega) (by omega)
  rwa [nM_eq K, nE_eq hK, hV, hz, hxx] at this
theorem e_floor (K : Nat) (p : Int) (h : Q w k n A len cap z) (hK : 4000 ≤ K) (hk : k ≤ 9000) (hx : -100000 ≤ x ∧ x ≤ 100000) (hV : av K z x = V) (hz : vFloor K V (nearZ p) = zz) :
    Calls Try.prog 52 #[.agg #[.bool n, .slice A len cap, .int .i64 x], .int .i64 p] w fun e w' => Below w.heap.size w w' ∧ RetIC (k + 125) zz e w' := by
  have := cc_floor (x := x) h (by omega) (by omega) (by omega) K hK p
  rwa [hV, hz] at this
theorem e_ceil (K : Nat) (p : Int) (h : Q w k n A len cap z) (hK : 4000 ≤ K) (hk : k ≤ 9000) (hx : -100000 ≤ x ∧ x ≤ 100000) (hV : av K z x = V) (hz : vCeil K V (nearZ p) = zz) :
    Calls Try.prog 53 #[.agg #[.bool n, .slice A len cap, .int .i64 x], .int .i64 p] w fun e w' => Below w.heap.size w w' ∧ RetIC (k + 125) zz e w' := by
  have := cc_ceil (x := x) h (by omega) (by omega) (by omega) K hK p
  rwa [hV, hz] at this
theorem e_of (h : Q w k n A len cap z) (hk : k ≤ 9000) (hx : -100000 ≤ x ∧ x ≤ 100000) (hz : nM z x = zz) (hxx : nE z x = xx) :
    Calls Try.prog 40 #[.agg #[.bool n, .slice A len cap], .int .i64 x] w fun e w' => Below w.heap.size w w' ∧ RetDC k zz xx e w' := by
  have := cc_of (x := x) h (by omega) (by omega) (by omega)
  rwa [hz, hxx] at this
end
end Go.Proofs.Ytnfbngiabdlclaa
end

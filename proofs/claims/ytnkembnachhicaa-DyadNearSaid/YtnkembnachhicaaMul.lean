/- dyad.Mul; zed.Shl, Sub, Sign, Cmp in the values' words. -/
import Derived.Test.YtnkembnachhicaaLaw3
set_option linter.unusedVariables false
set_option linter.unusedSimpArgs false
namespace Go.Proofs.Ytnkembnachhicaa
open Go.RowKit
open L (val dig nth)

theorem mul_lt {a b : Int} {k j : Nat} (ha : a.natAbs < W ^ k) (hb : b.natAbs < W ^ j) : (a * b).natAbs < W ^ (k + j) := by
  rw [Int.natAbs_mul, Nat.pow_add]
  exact Nat.mul_lt_mul'' ha hb

set_option maxRecDepth 100000 in
theorem mul_dyad_calls (w : World) (n m : Bool) (B C : Nat) (v u : Value) (l p : List Nat) (x y : Int) (h : Nums w B v l) (hu : Nums w C u p) (hl : l.length ≤ 9000) (hp : p.length ≤ 9000)
    (hx0 : -9223372036854775808 ≤ x) (hx1 : x ≤ 9223372036854775807) (hy0 : -9223372036854775808 ≤ y) (hy1 : y ≤ 9223372036854775807) :
    Calls Try.prog 54 #[.agg #[.bool n, v, .int .i64 x], .agg #[.bool m, u, .int .i64 y]] w fun e w' => Below w.heap.size w w' ∧
      RetQ w.heap.size (pM (cM (ival n (val W l)) x * cM (ival m (val W p)) y)) (pE (cM (ival n (val W l)) x * cM (ival m (val W p)) y) (cE (ival n (val W l)) x + cE (ival m (val W p)) y)) e w' := by
  have h0 := h
  have hu0 := hu
  obtain ⟨A, cap, rfl, -, -, -, hc⟩ := h
  obtain ⟨A', cap', rfl, -, -, -, hc'⟩ := hu
  obtain ⟨W0, hW, hbx, hby, hrs, hB0, hs⟩ := start3 w 26 26 26 #[.bool n, .slice A l.length cap, .int .i64 x] #[.bool m, .slice A' p.length cap', .int .i64 y] #[.bool false, .slice none 0 0, .int .i64 0]
  have h1 := h0.up hB0
  have hu1 := hu0.up hB0
  have hs2 : w.heap.size + 2 < W0.heap.size := by omega
  clear hs hc hc'
  obtain ⟨c0, c1, c2, -, -, -⟩ := hbx.three
  obtain ⟨zx, HZX⟩ : ∃ z, Hid (ival n (val W l) = z) := ⟨_, hide rfl⟩
  obtain ⟨zy, HZY⟩ : ∃ z, Hid (ival m (val W p) = z) := ⟨_, hide rfl⟩
  rw [HZX.out, HZY.out]
  obtain ⟨X, HX⟩ : ∃ z, Hid (cM zx x = z) := ⟨_, hide rfl⟩
  obtain ⟨Y, HY⟩ : ∃ z, Hid (cM zy y = z) := ⟨_, hide rfl⟩
  obtain ⟨ex, HEX⟩ : ∃ z, Hid (cE zx x = z) := ⟨_, hide rfl⟩
  obtain ⟨ey, HEY⟩ : ∃ z, Hid (cE zy y = z) := ⟨_, hide rfl⟩
  have hex := cE_bounds zx x
  have hey := cE_bounds zy y
  rw [HEX.out] at hex
  rw [HEY.out] at hey
  rw [HX.out, HY.out, HEX.out, HEY.out]
  obtain ⟨zM, HM⟩ : ∃ zM, Hid (pM (X * Y) = zM) := ⟨_, hide rfl⟩
  obtain ⟨zE, HE⟩ : ∃ zE, Hid (pE (X * Y) (ex + ey) = zE) := ⟨_, hide rfl⟩
  rw [HM.out, HE.out]
  go_enter Try.func54, Try.ntmps54
  go_upto_region 1 with (fail)
  rw [← hW]
  clear hW
  have HP := counts_calls W0 n B _ l x h1 (by omega) hx0 hx1
  rw [HZX.out, HX.out, HEX.out] at HP
  go_wp2_with fail
  refine HP.mono ?_
  rintro e w1 ⟨hb1, m1, u1, d1, rfl, hn1, hl1, hv1⟩
  clear HP c0 c1 c2
  have hn1' := hn1
  obtain ⟨A1, cap1, rfl⟩ := hn1.form
  have s1 := hb1.size
  obtain ⟨w2, hW2, hbn2, hB2, hs3⟩ := start1 w1 24 #[.bool m1, .slice A1 d1.length cap1]
  have hn2 := hn1'.below hB2
  have hu2 := (hu1.below hb1).below hB2
  have hby2 := (hby.below hb1 (by omega)).below hB2 (by omega)
  have hrs2 := (hrs.below hb1 (by omega)).below hB2 (by omega)
  have hs3' : w1.heap.size < w2.heap.size := by omega
  have HB2 := hide ((hB0.trans (hb1.mono (by omega))).trans (hB2.mono (by omega)))
  clear hs3
  go_upto_region 2 with (fail)
  rw [← hW2]
  clear hW2
  obtain ⟨c3, c4, c5, -, -, -⟩ := hby2.three
  have HP := counts_calls w2 m C _ p y hu2 (by omega) hy0 hy1
  rw [HZY.out, HY.out, HEY.out] at HP
  go_wp2_with fail
  refine HP.mono ?_
  rintro e w3 ⟨hb3, m3, u3, d3, rfl, hn3, hl3, hv3⟩
  clear HP c3 c4 c5
  have hn3' := hn3
  obtain ⟨A3, cap3, rfl⟩ := hn3.form
  have s3 := hb3.size
  obtain ⟨w4, hW4, hbm4, hB4, hs5⟩ := start1 w3 24 #[.bool m3, .slice A3 d3.length cap3]
  have hn4 := (hn2.below hb3).below hB4
  have hn5 := hn3'.below hB4
  have hbn4 := (hbn2.below hb3 hs3').below hB4 (by omega)
  have hrs4 := (hrs2.below hb3 (by omega)).below hB4 (by omega)
  have hs5' : w3.heap.size < w4.heap.size := by omega
  have HB4 := hide ((HB2.out.trans (hb3.mono (by omega))).trans (hB4.mono (by omega)))
  clear hs5
  go_upto_region 3 with (fail)
  rw [← hW4]
  clear hW4
  obtain ⟨e0, e1, -, -⟩ := hbn4.two
  obtain ⟨e2, e3, -, -⟩ := hbm4.two
  have HP := zmul_calls w4 m1 m3 _ _ _ _ d1 d3 hn4 hn5 (by omega) (by omega)
  rw [hv1, hv3] at HP
  have hXl : Hid (X.natAbs < W ^ d1.length) := hide (by rw [← hv1]; exact natAbs_lt hn4.lt)
  have hYl : Hid (Y.natAbs < W ^ d3.length) := hide (by rw [← hv3]; exact natAbs_lt hn5.lt)
  obtain ⟨S, HS⟩ : ∃ c, Hid (X * Y = c) := ⟨_, hide rfl⟩
  rw [HS.out] at HP
  have HM' : Hid (pM S = zM) := hide (by rw [← HS.out]; exact HM.out)
  have HE' : Hid (pE S (ex + ey) = zE) := hide (by rw [← HS.out]; exact HE.out)
  have hww : IntKind.i64.wrap (ex + ey) = ex + ey := IntWalk.i64_in _ (by omega)
  clear hv1 hv3
  go_wp2_with fail
  refine HP.mono ?_
  rintro e w5 ⟨hb5, u5, d5, rfl, hu5, hd5⟩
  clear HP
  obtain ⟨A5, cap5, rfl⟩ := hu5.form
  have s5 := hb5.size
  have hrs5 := hrs4.below hb5 (by omega)
  have hd5l : d5.length ≤ d1.length + d3.length := by rw [hd5.len, ← HS.out]; exact mul_lt hXl.out hYl.out
  have HV5 : Hid (ival (decide (S < 0)) (val W d5) = S) := hide (by rw [hd5.val, ival_self])
  have HP := plain_calls w5 (decide (S < 0)) _ _ d5 (ex + ey) hu5 (by omega) (by omega) (by omega)
  rw [HV5.out, HM'.out, HE'.out] at HP
  go_wp2_with fail
  refine HP.mono ?_
  rintro e w6 ⟨hb6, u6, d6, rfl, hu6, hd6⟩
  clear HP
  obtain ⟨A6, cap6, rfl⟩ := hu6.form
  have s6 := hb6.size
  have hrs6 := hrs5.below hb6 (by omega)
  obtain ⟨f0, f1, f2, f3, f4, f5⟩ := hrs6.three
  go_wp2_with fail
  refine bodyPost_ret (results_dyad rfl _ _ _ _ _ _ _ rfl (((hrs6.set_ 0 _).set_ 1 _).set_ 2 _)) rfl ⟨below3 ((HB4.out.trans (hb5.mono (by omega))).trans (hb6.mono (by omega))) (by omega) _ _ _, ?_⟩
  exact ⟨_, d6, rfl, (nums_low3 hu6 (by omega) _ _ _).mono (by omega), hd6⟩
section
variable {w : World} {k k' : Nat} {n m : Bool} {A A' : Option Addr} {len cap len' cap' : Nat} {z z' x y : Int}
theorem c_mul (h : Q w k n A len cap z) (h' : Q w k' m A' len' cap' z') (hk : k ≤ 9000) (hk' : k' ≤ 9000)
    (hx0 : -9223372036854775808 ≤ x) (hx1 : x ≤ 9223372036854775807) (hy0 : -9223372036854775808 ≤ y) (hy1 : y ≤ 9223372036854775807) (K J : Nat) (hK : 4000 ≤ K) (hJ : 4000 ≤ J) :
    Calls Try.prog 54 #[.agg #[.bool n, .slice A len cap, .int .i64 x], .agg #[.bool m, .slice A' len' cap', .int .i64 y]] w fun e w' => Below w.heap.size w w' ∧
      RetD (k + k') (pM (av K z x * av J z' y)) (pE (av K z x * av J z' y) (-((K + J : Nat) : Int))) e w' := by
  have hz := h.lt
  have hz' := h'.lt
  obtain ⟨d, h1, h2, rfl⟩ := h
  obtain ⟨d', h1', h2', rfl⟩ := h'
  refine (mul_dyad_calls w n m 0 0 _ _ d d' x y h1 h1' (by omega) (by omega) hx0 hx1 hy0 hy1).mono ?_
  rintro e w' ⟨hb, hr⟩
  rw [mul_eqM K J _ _ _ _ hK hJ, mul_eqE K J _ _ _ _ hK hJ] at hr
  refine ⟨hb, hr.toD (k := k + k') ?_⟩
  rw [← mul_eqM K J _ _ _ _ hK hJ]
  exact pM_lt (mul_lt (Nat.lt_of_le_of_lt (cM_le _ _) hz) (Nat.lt_of_le_of_lt (cM_le _ _) hz'))
theorem c_zsub (h : Q w k n A len cap z) (h' : Q w k' m A' len' cap' z') (hk : k ≤ 50000) (hk' : k' ≤ 50000) :
    Calls Try.prog 44 #[.agg #[.bool n, .slice A len cap], .agg #[.bool m, .slice A' len' cap']] w fun e w' => Below w.heap.size w w' ∧ RetI (k + k' + 1) (z - z') e w' := by
  have hz := h.lt
  have hz' := h'.lt
  obtain ⟨d, h1, h2, rfl⟩ := h
  obtain ⟨d', h1', h2', rfl⟩ := h'
  refine (zsub_calls w n m 0 0 _ _ d d' h1 h1' (by omega) (by omega)).mono ?_
  rintro e w' ⟨hb, h⟩
  exact ⟨hb, h.toI (two_lt (k := k + k') (Int.natAbs_sub_le _ _) (Nat.lt_of_lt_of_le hz (Nat.pow_le_pow_right W_pos (by omega))) (Nat.lt_of_lt_of_le hz' (Nat.pow_le_pow_right W_pos (by omega))) (by omega))⟩
theorem c_zsign (h : Q w k n A len cap z) (hk : k ≤ 50000) :
    Calls Try.prog 45 #[.agg #[.bool n, .slice A len cap]] w fun e w' => Below w.heap.size w w' ∧ e = .returned (.int .i64 z.sign) := by
  obtain ⟨d, h1, h2, h3⟩ := h
  exact zsign_eq w n 0 _ d z.sign (by rw [h3]) h1 (by omega)
theorem c_zcmp (h : Q w k n A len cap z) (h' : Q w k' m A' len' cap' z') (hk : k ≤ 50000) (hk' : k' ≤ 50000) :
    Calls Try.prog 46 #[.agg #[.bool n, .slice A len cap], .agg #[.bool m, .slice A' len' cap']] w fun e w' => Below w.heap.size w w' ∧ e = .returned (.int .i64 (cmpZ z z')) := by
  obtain ⟨d, h1, h2, rfl⟩ := h
  obtain ⟨d', h1', h2', rfl⟩ := h'
  exact zcmp_calls w n m 0 0 _ _ d d' h1 h1' (by omega) (by omega)
theorem c_zshl (h : Q w k n A len cap z) (hk : k ≤ 50000) (p c : Nat) (hc : c ≤ 8000) (hp : c ≤ 64 * p) :
    Calls Try.prog 61 #[.agg #[.bool n, .slice A len cap], .int .i64 (c : Nat)] w fun e w' => Below w.heap.size w w' ∧ RetI (k + p) (z * 2 ^ c) e w' := by
  have hz := h.lt
  obtain ⟨d, h1, h2, rfl⟩ := h
  refine (zshl_eq w n 0 _ d c c _ h1 (by omega) (by omega) (by omega) rfl rfl).mono ?_
  rintro e w' ⟨hb, h⟩
  refine ⟨hb, h.toI ?_⟩
  have := len_mul2 (d := dig W (ival n (val W d) * 2 ^ c).natAbs) rfl hz hp
  rwa [L.dig_len W_gt] at this
end
end Go.Proofs.Ytnkembnachhicaa

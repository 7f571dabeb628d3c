/- dyad: Cmp, Add, Sub, Mul. -/
import Derived.Test.YtnkembnachhicaaDyad5
set_option linter.unusedVariables false
namespace Go.Proofs.Ytnkembnachhicaa
open Go.RowKit
open L (val dig nth)

theorem cM_le (z x : Int) : (cM z x).natAbs ≤ z.natAbs := by unfold cM; split <;> simp
theorem lift_len {d : List Nat} {z x low : Int} {k : Nat} (hd : Canon d (lift z x low).natAbs) (hz : z.natAbs < W ^ k) (hlow : -4000 ≤ low) : d.length ≤ k + 125 := by
  have hb := cE_bounds z x
  exact len_mul2 (t := 125) hd (Nat.lt_of_le_of_lt (cM_le z x) hz) (by omega)
theorem lowE_bounds (z x z' x' : Int) : -4000 ≤ lowE z x z' x' ∧ lowE z x z' x' ≤ 4000 := by
  have := cE_bounds z x
  have := cE_bounds z' x'
  unfold lowE; omega
theorem two_lt {a b c k j : Nat} (h : a ≤ b + c) (hb : b < W ^ k) (hc : c < W ^ k) (hk : k < j) : a < W ^ j := by
  have h1 : W ^ (k + 1) ≤ W ^ j := Nat.pow_le_pow_right W_pos hk
  have h2 : 2 * W ^ k ≤ W ^ (k + 1) := by rw [Nat.pow_succ, Nat.mul_comm]; exact Nat.mul_le_mul_left _ W_gt
  omega

set_option maxRecDepth 100000 in
theorem cmp_dyad_calls (w : World) (n m : Bool) (B C : Nat) (v u : Value) (l p : List Nat) (x y : Int) (h : Nums w B v l) (hu : Nums w C u p) (hl : l.length ≤ 9000) (hp : p.length ≤ 9000)
    (hx0 : -9223372036854775808 ≤ x) (hx1 : x ≤ 9223372036854775807) (hy0 : -9223372036854775808 ≤ y) (hy1 : y ≤ 9223372036854775807) :
    Calls Try.prog 40 #[.agg #[.bool n, v, .int .i64 x], .agg #[.bool m, u, .int .i64 y]] w fun e w' => Below w.heap.size w w' ∧
      e = .returned (.int .i64 (cmpZ (lift (ival n (val W l)) x (lowE (ival n (val W l)) x (ival m (val W p)) y)) (lift (ival m (val W p)) y (lowE (ival n (val W l)) x (ival m (val W p)) y)))) := by
  have h0 := h
  have hu0 := hu
  have HLT := hide h.lt
  have HLT' := hide hu.lt
  obtain ⟨A, cap, rfl, -, -, -, hc⟩ := h
  obtain ⟨A', cap', rfl, -, -, -, hc'⟩ := hu
  obtain ⟨W0, hW, hbx, hby, hB0, hs⟩ := start2 w 26 26 #[.bool n, .slice A l.length cap, .int .i64 x] #[.bool m, .slice A' p.length cap', .int .i64 y]
  have h1 := h0.up hB0
  have hu1 := hu0.up hB0
  have hs2 : w.heap.size + 1 < W0.heap.size := by omega
  clear hs hc hc'
  obtain ⟨c0, c1, c2, -, -, -⟩ := hbx.three
  obtain ⟨c3, c4, c5, -, -, -⟩ := hby.three
  obtain ⟨zx, HZX⟩ : ∃ z, Hid (ival n (val W l) = z) := ⟨_, hide rfl⟩
  obtain ⟨zy, HZY⟩ : ∃ z, Hid (ival m (val W p) = z) := ⟨_, hide rfl⟩
  go_enter Try.func40, Try.ntmps40
  go_upto_region 1 with (fail)
  rw [← hW]
  clear hW
  have HP := level_calls W0 n m B C _ _ l p x y h1 hu1 hl hp hx0 hx1 hy0 hy1
  obtain ⟨low, HL⟩ : ∃ q, Hid (lowE zx x zy y = q) := ⟨_, hide rfl⟩
  have hlb := lowE_bounds zx x zy y
  obtain ⟨X, HX⟩ : ∃ z, Hid (lift zx x low = z) := ⟨_, hide rfl⟩
  obtain ⟨Y, HY⟩ : ∃ z, Hid (lift zy y low = z) := ⟨_, hide rfl⟩
  rw [HZX.out, HZY.out, HL.out, HX.out, HY.out] at HP
  rw [HL.out] at hlb
  go_wp2_with fail
  refine HP.mono ?_
  rintro e w1 ⟨hb1, u1, d1, u2, d2, rfl, hu1', hd1, hu2', hd2⟩
  have hl1 : d1.length ≤ l.length + 125 := lift_len (HX.out ▸ hd1) (HZX.out ▸ natAbs_lt HLT.out) hlb.1
  have hl2 : d2.length ≤ p.length + 125 := lift_len (HY.out ▸ hd2) (HZY.out ▸ natAbs_lt HLT'.out) hlb.1
  have HV1 : Hid (ival (decide (X < 0)) (val W d1) = X) := hide (by rw [hd1.val, ival_self])
  have HV2 : Hid (ival (decide (Y < 0)) (val W d2) = Y) := hide (by rw [hd2.val, ival_self])
  obtain ⟨A1, cap1, rfl⟩ := hu1'.form
  obtain ⟨A2, cap2, rfl⟩ := hu2'.form
  obtain ⟨w2, hW2, hbn, hbm, hB2, hs3⟩ := start2 w1 24 24 #[.bool (decide (X < 0)), .slice A1 d1.length cap1] #[.bool (decide (Y < 0)), .slice A2 d2.length cap2]
  clear HP
  go_upto_region 2 with (fail)
  rw [← hW2]
  clear hW2
  have s1 := hb1.size
  have hu3 := hu1'.below hB2
  have hu4 := hu2'.below hB2
  obtain ⟨e0, e1, -, -⟩ := hbn.two
  obtain ⟨e2, e3, -, -⟩ := hbm.two
  have HB2 := hide ((hB0.trans (hb1.mono (by omega))).trans (hB2.mono (by omega)))
  have HP := zcmp_calls w2 (decide (X < 0)) (decide (Y < 0)) _ _ _ _ d1 d2 hu3 hu4 (by omega) (by omega)
  obtain ⟨c, HC⟩ : ∃ c, Hid (cmpZ X Y = c) := ⟨_, hide rfl⟩
  rw [HV1.out, HV2.out, HC.out] at HP
  go_wp2_with fail
  refine HP.mono ?_
  rintro e w3 ⟨hb3, rfl⟩
  go_wp2_with fail
  go_ret
  refine ⟨HB2.out.trans (hb3.mono (by omega)), ret_int ?_⟩
  rw [HZX.out, HZY.out, HL.out, HX.out, HY.out, HC.out]

set_option maxRecDepth 100000 in
theorem add_dyad_calls (w : World) (n m : Bool) (B C : Nat) (v u : Value) (l p : List Nat) (x y : Int) (h : Nums w B v l) (hu : Nums w C u p) (hl : l.length ≤ 9000) (hp : p.length ≤ 9000)
    (hx0 : -9223372036854775808 ≤ x) (hx1 : x ≤ 9223372036854775807) (hy0 : -9223372036854775808 ≤ y) (hy1 : y ≤ 9223372036854775807) :
    Calls Try.prog 50 #[.agg #[.bool n, v, .int .i64 x], .agg #[.bool m, u, .int .i64 y]] w fun e w' => Below w.heap.size w w' ∧
      RetQ w.heap.size (pM (lift (ival n (val W l)) x (lowE (ival n (val W l)) x (ival m (val W p)) y) + lift (ival m (val W p)) y (lowE (ival n (val W l)) x (ival m (val W p)) y))) (pE (lift (ival n (val W l)) x (lowE (ival n (val W l)) x (ival m (val W p)) y) + lift (ival m (val W p)) y (lowE (ival n (val W l)) x (ival m (val W p)) y)) (lowE (ival n (val W l)) x (ival m (val W p)) y)) e w' := by
  have h0 := h
  have hu0 := hu
  have HLT := hide h.lt
  have HLT' := hide hu.lt
  obtain ⟨A, cap, rfl, -, -, -, hc⟩ := h
  obtain ⟨A', cap', rfl, -, -, -, hc'⟩ := hu
  obtain ⟨W0, hW, hbx, hby, hrs, hB0, hs⟩ := start3 w 26 26 26 #[.bool n, .slice A l.length cap, .int .i64 x] #[.bool m, .slice A' p.length cap', .int .i64 y] #[.bool false, .slice none 0 0, .int .i64 0]
  have h1 := h0.up hB0
  have hu1 := hu0.up hB0
  have hs2 : w.heap.size + 2 < W0.heap.size := by omega
  clear hs hc hc'
  obtain ⟨c0, c1, c2, -, -, -⟩ := hbx.three
  obtain ⟨c3, c4, c5, -, -, -⟩ := hby.three
  obtain ⟨zx, HZX⟩ : ∃ z, Hid (ival n (val W l) = z) := ⟨_, hide rfl⟩
  obtain ⟨zy, HZY⟩ : ∃ z, Hid (ival m (val W p) = z) := ⟨_, hide rfl⟩
  go_enter Try.func50, Try.ntmps50
  go_upto_region 1 with (fail)
  rw [← hW]
  clear hW
  have HP := level_calls W0 n m B C _ _ l p x y h1 hu1 hl hp hx0 hx1 hy0 hy1
  obtain ⟨low, HL⟩ : ∃ q, Hid (lowE zx x zy y = q) := ⟨_, hide rfl⟩
  have hlb := lowE_bounds zx x zy y
  obtain ⟨X, HX⟩ : ∃ z, Hid (lift zx x low = z) := ⟨_, hide rfl⟩
  obtain ⟨Y, HY⟩ : ∃ z, Hid (lift zy y low = z) := ⟨_, hide rfl⟩
  rw [HZX.out, HZY.out, HL.out, HX.out, HY.out] at HP
  rw [HL.out] at hlb
  go_wp2_with fail
  refine HP.mono ?_
  rintro e w1 ⟨hb1, u1, d1, u2, d2, rfl, hu1', hd1, hu2', hd2⟩
  have hl1 : d1.length ≤ l.length + 125 := lift_len (HX.out ▸ hd1) (HZX.out ▸ natAbs_lt HLT.out) hlb.1
  have hl2 : d2.length ≤ p.length + 125 := lift_len (HY.out ▸ hd2) (HZY.out ▸ natAbs_lt HLT'.out) hlb.1
  have HV1 : Hid (ival (decide (X < 0)) (val W d1) = X) := hide (by rw [hd1.val, ival_self])
  have HV2 : Hid (ival (decide (Y < 0)) (val W d2) = Y) := hide (by rw [hd2.val, ival_self])
  obtain ⟨A1, cap1, rfl⟩ := hu1'.form
  obtain ⟨A2, cap2, rfl⟩ := hu2'.form
  obtain ⟨w2, hW2, hbn, hbm, hB2, hs3⟩ := start2 w1 24 24 #[.bool (decide (X < 0)), .slice A1 d1.length cap1] #[.bool (decide (Y < 0)), .slice A2 d2.length cap2]
  clear HP
  go_upto_region 2 with (fail)
  rw [← hW2]
  clear hW2
  have s1 := hb1.size
  have hu3 := hu1'.below hB2
  have hu4 := hu2'.below hB2
  obtain ⟨e0, e1, -, -⟩ := hbn.two
  obtain ⟨e2, e3, -, -⟩ := hbm.two
  have HB2 := hide ((hB0.trans (hb1.mono (by omega))).trans (hB2.mono (by omega)))
  have hrs2 := (hrs.below hb1 (by omega)).below hB2 (by omega)
  have HP := zadd_calls w2 (decide (X < 0)) (decide (Y < 0)) _ _ _ _ d1 d2 hu3 hu4 (by omega) (by omega)
  obtain ⟨S, HS⟩ : ∃ c, Hid (X + Y = c) := ⟨_, hide rfl⟩
  rw [HV1.out, HV2.out, HS.out] at HP
  go_wp2_with fail
  refine HP.mono ?_
  rintro e w3 ⟨hb3, u5, d5, rfl, hu5, hd5⟩
  obtain ⟨A5, cap5, rfl⟩ := hu5.form
  have hrs3 := hrs2.below hb3 (by omega)
  have HV5 : Hid (ival (decide (S < 0)) (val W d5) = S) := hide (by rw [hd5.val, ival_self])
  have hl5 : d5.length ≤ 20000 := by
    obtain ⟨K, hK⟩ : ∃ K : Nat, K = 9125 := ⟨_, rfl⟩
    obtain ⟨J, hJ⟩ : ∃ J : Nat, J = 20000 := ⟨_, rfl⟩
    rw [← hJ, hd5.len]
    have b1 := Int.natAbs_add_le X Y
    rw [HS.out] at b1
    have a1 : X.natAbs < W ^ K := Nat.lt_of_lt_of_le (by rw [← HV1.out]; exact natAbs_lt hu3.lt) (Nat.pow_le_pow_right W_pos (by omega))
    have a2 : Y.natAbs < W ^ K := Nat.lt_of_lt_of_le (by rw [← HV2.out]; exact natAbs_lt hu4.lt) (Nat.pow_le_pow_right W_pos (by omega))
    exact two_lt b1 a1 a2 (by omega)
  clear HP
  have s3 := hb3.size
  have HP := plain_calls w3 (decide (S < 0)) _ _ d5 low hu5 (by omega) (by omega) (by omega)
  obtain ⟨zM, HM⟩ : ∃ zM, Hid (pM S = zM) := ⟨_, hide rfl⟩
  obtain ⟨zE, HE⟩ : ∃ zE, Hid (pE S low = zE) := ⟨_, hide rfl⟩
  rw [HV5.out, HM.out, HE.out] at HP
  go_wp2_with fail
  refine HP.mono ?_
  rintro e w4 ⟨hb4, u6, d6, rfl, hu6, hd6⟩
  obtain ⟨A6, cap6, rfl⟩ := hu6.form
  have hrs4 := hrs3.below hb4 (by omega)
  obtain ⟨j0, j1, j2, j3, j4, j5⟩ := hrs4.three
  clear HP
  go_wp2_with fail
  have s4 := hb4.size
  rw [HZX.out, HZY.out, HL.out, HX.out, HY.out, HS.out, HM.out, HE.out]
  refine bodyPost_ret (results_dyad rfl _ _ _ _ _ _ _ rfl (((hrs4.set_ 0 _).set_ 1 _).set_ 2 _)) rfl ⟨below3 ((HB2.out.trans (hb3.mono (by omega))).trans (hb4.mono (by omega))) (by omega) _ _ _, ?_⟩
  exact ⟨_, d6, rfl, (nums_low3 hu6 (by omega) _ _ _).mono (by omega), hd6⟩

set_option maxRecDepth 100000 in
theorem sub_dyad_calls (w : World) (n m : Bool) (B C : Nat) (v u : Value) (l p : List Nat) (x y : Int) (h : Nums w B v l) (hu : Nums w C u p) (hl : l.length ≤ 9000) (hp : p.length ≤ 9000)
    (hx0 : -9223372036854775808 ≤ x) (hx1 : x ≤ 9223372036854775807) (hy0 : -9223372036854775808 ≤ y) (hy1 : y ≤ 9223372036854775807) :
    Calls Try.prog 52 #[.agg #[.bool n, v, .int .i64 x], .agg #[.bool m, u, .int .i64 y]] w fun e w' => Below w.heap.size w w' ∧
      RetQ w.heap.size (pM (lift (ival n (val W l)) x (lowE (ival n (val W l)) x (ival m (val W p)) y) - lift (ival m (val W p)) y (lowE (ival n (val W l)) x (ival m (val W p)) y))) (pE (lift (ival n (val W l)) x (lowE (ival n (val W l)) x (ival m (val W p)) y) - lift (ival m (val W p)) y (lowE (ival n (val W l)) x (ival m (val W p)) y)) (lowE (ival n (val W l)) x (ival m (val W p)) y)) e w' := by
  have h0 := h
  have hu0 := hu
  have HLT := hide h.lt
  have HLT' := hide hu.lt
  obtain ⟨A, cap, rfl, -, -, -, hc⟩ := h
  obtain ⟨A', cap', rfl, -, -, -, hc'⟩ := hu
  obtain ⟨W0, hW, hbx, hby, hrs, hB0, hs⟩ := start3 w 26 26 26 #[.bool n, .slice A l.length cap, .int .i64 x] #[.bool m, .slice A' p.length cap', .int .i64 y] #[.bool false, .slice none 0 0, .int .i64 0]
  have h1 := h0.up hB0
  have hu1 := hu0.up hB0
  have hs2 : w.heap.size + 2 < W0.heap.size := by omega
  clear hs hc hc'
  obtain ⟨c0, c1, c2, -, -, -⟩ := hbx.three
  obtain ⟨c3, c4, c5, -, -, -⟩ := hby.three
  obtain ⟨zx, HZX⟩ : ∃ z, Hid (ival n (val W l) = z) := ⟨_, hide rfl⟩
  obtain ⟨zy, HZY⟩ : ∃ z, Hid (ival m (val W p) = z) := ⟨_, hide rfl⟩
  go_enter Try.func52, Try.ntmps52
  go_upto_region 1 with (fail)
  rw [← hW]
  clear hW
  have HP := level_calls W0 n m B C _ _ l p x y h1 hu1 hl hp hx0 hx1 hy0 hy1
  obtain ⟨low, HL⟩ : ∃ q, Hid (lowE zx x zy y = q) := ⟨_, hide rfl⟩
  have hlb := lowE_bounds zx x zy y
  obtain ⟨X, HX⟩ : ∃ z, Hid (lift zx x low = z) := ⟨_, hide rfl⟩
  obtain ⟨Y, HY⟩ : ∃ z, Hid (lift zy y low = z) := ⟨_, hide rfl⟩
  rw [HZX.out, HZY.out, HL.out, HX.out, HY.out] at HP
  rw [HL.out] at hlb
  go_wp2_with fail
  refine HP.mono ?_
  rintro e w1 ⟨hb1, u1, d1, u2, d2, rfl, hu1', hd1, hu2', hd2⟩
  have hl1 : d1.length ≤ l.length + 125 := lift_len (HX.out ▸ hd1) (HZX.out ▸ natAbs_lt HLT.out) hlb.1
  have hl2 : d2.length ≤ p.length + 125 := lift_len (HY.out ▸ hd2) (HZY.out ▸ natAbs_lt HLT'.out) hlb.1
  have HV1 : Hid (ival (decide (X < 0)) (val W d1) = X) := hide (by rw [hd1.val, ival_self])
  have HV2 : Hid (ival (decide (Y < 0)) (val W d2) = Y) := hide (by rw [hd2.val, ival_self])
  obtain ⟨A1, cap1, rfl⟩ := hu1'.form
  obtain ⟨A2, cap2, rfl⟩ := hu2'.form
  obtain ⟨w2, hW2, hbn, hbm, hB2, hs3⟩ := start2 w1 24 24 #[.bool (decide (X < 0)), .slice A1 d1.length cap1] #[.bool (decide (Y < 0)), .slice A2 d2.length cap2]
  clear HP
  go_upto_region 2 with (fail)
  rw [← hW2]
  clear hW2
  have s1 := hb1.size
  have hu3 := hu1'.below hB2
  have hu4 := hu2'.below hB2
  obtain ⟨e0, e1, -, -⟩ := hbn.two
  obtain ⟨e2, e3, -, -⟩ := hbm.two
  have HB2 := hide ((hB0.trans (hb1.mono (by omega))).trans (hB2.mono (by omega)))
  have hrs2 := (hrs.below hb1 (by omega)).below hB2 (by omega)
  have HP := zsub_calls w2 (decide (X < 0)) (decide (Y < 0)) _ _ _ _ d1 d2 hu3 hu4 (by omega) (by omega)
  obtain ⟨S, HS⟩ : ∃ c, Hid (X - Y = c) := ⟨_, hide rfl⟩
  rw [HV1.out, HV2.out, HS.out] at HP
  go_wp2_with fail
  refine HP.mono ?_
  rintro e w3 ⟨hb3, u5, d5, rfl, hu5, hd5⟩
  obtain ⟨A5, cap5, rfl⟩ := hu5.form
  have hrs3 := hrs2.below hb3 (by omega)
  have HV5 : Hid (ival (decide (S < 0)) (val W d5) = S) := hide (by rw [hd5.val, ival_self])
  have hl5 : d5.length ≤ 20000 := by
    obtain ⟨K, hK⟩ : ∃ K : Nat, K = 9125 := ⟨_, rfl⟩
    obtain ⟨J, hJ⟩ : ∃ J : Nat, J = 20000 := ⟨_, rfl⟩
    rw [← hJ, hd5.len]
    have b1 := Int.natAbs_sub_le X Y
    rw [HS.out] at b1
    have a1 : X.natAbs < W ^ K := Nat.lt_of_lt_of_le (by rw [← HV1.out]; exact natAbs_lt hu3.lt) (Nat.pow_le_pow_right W_pos (by omega))
    have a2 : Y.natAbs < W ^ K := Nat.lt_of_lt_of_le (by rw [← HV2.out]; exact natAbs_lt hu4.lt) (Nat.pow_le_pow_right W_pos (by omega))
    exact two_lt b1 a1 a2 (by omega)
  clear HP
  have s3 := hb3.size
  have HP := plain_calls w3 (decide (S < 0)) _ _ d5 low hu5 (by omega) (by omega) (by omega)
  obtain ⟨zM, HM⟩ : ∃ zM, Hid (pM S = zM) := ⟨_, hide rfl⟩
  obtain ⟨zE, HE⟩ : ∃ zE, Hid (pE S low = zE) := ⟨_, hide rfl⟩
  rw [HV5.out, HM.out, HE.out] at HP
  go_wp2_with fail
  refine HP.mono ?_
  rintro e w4 ⟨hb4, u6, d6, rfl, hu6, hd6⟩
  obtain ⟨A6, cap6, rfl⟩ := hu6.form
  have hrs4 := hrs3.below hb4 (by omega)
  obtain ⟨j0, j1, j2, j3, j4, j5⟩ := hrs4.three
  clear HP
  go_wp2_with fail
  have s4 := hb4.size
  rw [HZX.out, HZY.out, HL.out, HX.out, HY.out, HS.out, HM.out, HE.out]
  refine bodyPost_ret (results_dyad rfl _ _ _ _ _ _ _ rfl (((hrs4.set_ 0 _).set_ 1 _).set_ 2 _)) rfl ⟨below3 ((HB2.out.trans (hb3.mono (by omega))).trans (hb4.mono (by omega))) (by omega) _ _ _, ?_⟩
  exact ⟨_, d6, rfl, (nums_low3 hu6 (by omega) _ _ _).mono (by omega), hd6⟩
end Go.Proofs.Ytnkembnachhicaa

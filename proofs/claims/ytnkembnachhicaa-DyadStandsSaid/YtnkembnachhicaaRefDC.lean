/- The document's dyads: Add Sub. The document's dyads: Sub. The document's dyads: Cmp. -/
import Derived.Test.YtnkembnachhicaaRefDB
section
set_option linter.unusedVariables false
set_option linter.unusedSimpArgs false
namespace Go.Proofs.Ytnkembnachhicaa
open Go.RowKit
open L (val dig nth)

theorem sumR (w : World) (P Q S : Int) (B C : Nat) (v u : Value) (p q : List Nat) (hp : Nums w B v p) (hq : Nums w C u q) (hpl : p.length ≤ 60000) (hql : q.length ≤ 60000) (hd : Canon p P.natAbs) (hd' : Canon q Q.natAbs) (hS : P + Q = S) :
    Calls Try.prog 84 #[.agg #[.bool (decide (P < 0)), v], .agg #[.bool (decide (Q < 0)), u]] w fun e w' => Below w.heap.size w w' ∧ RetZ w.heap.size S e w' := by
  have := zaddR_calls w (decide (P < 0)) (decide (Q < 0)) _ _ _ _ p q hp hq hpl hql
  rwa [hd.val, hd'.val, ival_self, ival_self, hS] at this
theorem subR (w : World) (P Q S : Int) (B C : Nat) (v u : Value) (p q : List Nat) (hp : Nums w B v p) (hq : Nums w C u q) (hpl : p.length ≤ 60000) (hql : q.length ≤ 60000) (hd : Canon p P.natAbs) (hd' : Canon q Q.natAbs) (hS : P - Q = S) :
    Calls Try.prog 86 #[.agg #[.bool (decide (P < 0)), v], .agg #[.bool (decide (Q < 0)), u]] w fun e w' => Below w.heap.size w w' ∧ RetZ w.heap.size S e w' := by
  have := zsubR_calls w (decide (P < 0)) (decide (Q < 0)) _ _ _ _ p q hp hq hpl hql
  rwa [hd.val, hd'.val, ival_self, ival_self, hS] at this
theorem to_low {K : Nat} (hK : 4000 ≤ K) {z x e : Int} {m : Nat} (he : -4000 ≤ e) (hm : nE z x - e = m) : sv K (nM z x * 2 ^ m) e = av K z x := by
  rw [← sv_norm hK z x]
  unfold sv
  rw [Int.mul_assoc, ← Int.pow_add, show m + (e + (K : Int)).toNat = (nE z x + K).toNat from by omega]
theorem add_norm {K : Nat} (hK : 4000 ≤ K) {z x z' y e : Int} {m k : Nat} (he : -4000 ≤ e) (hm : nE z x - e = m) (hk : nE z' y - e = k) :
    pM (nM z x * 2 ^ m + nM z' y * 2 ^ k) = pM (av K z x + av K z' y) ∧ pE (nM z x * 2 ^ m + nM z' y * 2 ^ k) e = pE (av K z x + av K z' y) (-K) := by
  rw [← to_low hK he hm, ← to_low hK he hk, ← sv_add, pM_sv, pE_sv K _ _ (by omega)]
  exact ⟨rfl, rfl⟩
theorem sub_norm {K : Nat} (hK : 4000 ≤ K) {z x z' y e : Int} {m k : Nat} (he : -4000 ≤ e) (hm : nE z x - e = m) (hk : nE z' y - e = k) :
    pM (nM z x * 2 ^ m - nM z' y * 2 ^ k) = pM (av K z x - av K z' y) ∧ pE (nM z x * 2 ^ m - nM z' y * 2 ^ k) e = pE (av K z x - av K z' y) (-K) := by
  rw [← to_low hK he hm, ← to_low hK he hk, ← sv_sub, pM_sv, pE_sv K _ _ (by omega)]
  exact ⟨rfl, rfl⟩
theorem sum_lt_W {a b : Int} {k t : Nat} (ha : a.natAbs < W ^ k) (hb : b.natAbs < W ^ t) : (a + b).natAbs < W ^ (k + t + 1) := by
  have h1 : W ^ k ≤ W ^ (k + t) := Nat.pow_le_pow_right (by decide) (by omega)
  have h2 : W ^ t ≤ W ^ (k + t) := Nat.pow_le_pow_right (by decide) (by omega)
  have h3 : W ^ (k + t) * 2 ≤ W ^ (k + t) * W := Nat.mul_le_mul_left _ (by decide)
  rw [Nat.pow_succ]
  omega
theorem diff_lt_W {a b : Int} {k t : Nat} (ha : a.natAbs < W ^ k) (hb : b.natAbs < W ^ t) : (a - b).natAbs < W ^ (k + t + 1) := by
  rw [Int.sub_eq_add_neg]
  exact sum_lt_W ha (by rwa [Int.natAbs_neg])
set_option maxRecDepth 100000 in
theorem addDR_calls (w : World) (n m : Bool) (B C : Nat) (v u : Value) (l k : List Nat) (x y : Int) (K : Nat) (h : Nums w B v l) (hk : Nums w C u k) (hl : l.length ≤ 1000) (hkl : k.length ≤ 1000) (hx0 : -9223372036854775808 ≤ x) (hx1 : x ≤ 9223372036854775807) (hy0 : -9223372036854775808 ≤ y) (hy1 : y ≤ 9223372036854775807) (hK : 4000 ≤ K) :
    Calls Try.prog 51 #[.agg #[.bool n, v, .int .i64 x], .agg #[.bool m, u, .int .i64 y]] w fun e w' => Below w.heap.size w w' ∧ RetQ w.heap.size (pM (av K (ival n (val W l)) x + av K (ival m (val W k)) y)) (pE (av K (ival n (val W l)) x + av K (ival m (val W k)) y) (-K)) e w' := by
  have h0 := h
  have hk0 := hk
  have hlt0 := h.lt
  have hlt1 := hk.lt
  obtain ⟨A, cap, rfl, -, -, -, -⟩ := h
  obtain ⟨A', cap', rfl, -, -, -, -⟩ := hk
  obtain ⟨W0, hW, hbx, hbb, hrs, hB0, hs⟩ := start3 w 26 26 26 #[.bool n, .slice A l.length cap, .int .i64 x] #[.bool m, .slice A' k.length cap', .int .i64 y] #[.bool false, .slice none 0 0, .int .i64 0]
  have h1 := h0.up hB0
  have hk1 := hk0.up hB0
  have hs2 : w.heap.size + 2 < W0.heap.size := by omega
  have hne1 : ¬ (w.heap.size = w.heap.size + 1) := by omega
  have hne2 : ¬ (w.heap.size + 1 = w.heap.size) := by omega
  have hne3 : ¬ (w.heap.size + 2 = w.heap.size) := by omega
  have hne4 : ¬ (w.heap.size + 2 = w.heap.size + 1) := by omega
  clear hs
  have HP := countsR_calls W0 n _ _ l x h1 (by omega) hx0 hx1
  obtain ⟨z, HZ⟩ : ∃ z, Hid (ival n (val W l) = z) := ⟨_, hide rfl⟩
  obtain ⟨z', HZ'⟩ : ∃ z, Hid (ival m (val W k) = z) := ⟨_, hide rfl⟩
  have HLN : Hid (z.natAbs < W ^ l.length) := hide (by rw [← HZ.out]; exact natAbs_lt hlt0)
  have HLN' : Hid (z'.natAbs < W ^ k.length) := hide (by rw [← HZ'.out]; exact natAbs_lt hlt1)
  rw [HZ.out] at HP ⊢
  rw [HZ'.out]
  have hE1 := nE_ge z x
  have hE2 := nE_le (x := x) HLN.out
  have hF1 := nE_ge z' y
  have hF2 := nE_le (x := y) HLN'.out
  obtain ⟨ee, hee⟩ : ∃ ee, min (nE z x) (nE z' y) = ee := ⟨_, rfl⟩
  have hee0 : -4000 ≤ ee := by omega
  have hee1 : ee ≤ 68000 := by omega
  obtain ⟨m1, hm1⟩ : ∃ m1 : Nat, nE z x - ee = m1 := ⟨(nE z x - ee).toNat, by omega⟩
  obtain ⟨m2, hm2⟩ : ∃ m2 : Nat, nE z' y - ee = m2 := ⟨(nE z' y - ee).toNat, by omega⟩
  have hb1 : m1 ≤ 64 * 1126 := by omega
  have hb2 : m2 ≤ 64 * 1126 := by omega
  have hR := add_norm hK hee0 hm1 hm2
  obtain ⟨M, HM⟩ : ∃ m, Hid (nM z x = m) := ⟨_, hide rfl⟩
  obtain ⟨E, HE⟩ : ∃ m, Hid (nE z x = m) := ⟨_, hide rfl⟩
  obtain ⟨M', HM'⟩ : ∃ m, Hid (nM z' y = m) := ⟨_, hide rfl⟩
  obtain ⟨E', HE'⟩ : ∃ m, Hid (nE z' y = m) := ⟨_, hide rfl⟩
  rw [HM.out, HE.out] at HP
  rw [HE.out, HE'.out] at hee
  rw [HE.out] at hE1 hE2 hm1
  rw [HE'.out] at hF1 hF2 hm2
  rw [HM.out, HM'.out] at hR
  obtain ⟨R, HR⟩ : ∃ m, Hid (pM (av K z x + av K z' y) = m) := ⟨_, hide rfl⟩
  obtain ⟨X, HX⟩ : ∃ m, Hid (pE (av K z x + av K z' y) (-K) = m) := ⟨_, hide rfl⟩
  rw [HR.out, HX.out] at hR
  rw [HR.out, HX.out]
  have HPL1 : Hid ((M * 2 ^ m1).natAbs < W ^ (l.length + 1126)) := hide (up_lt (by rw [← HM.out]; exact nM_lt HLN.out) hb1)
  have HPL2 : Hid ((M' * 2 ^ m2).natAbs < W ^ (k.length + 1126)) := hide (up_lt (by rw [← HM'.out]; exact nM_lt HLN'.out) hb2)
  obtain ⟨P1, HP1⟩ : ∃ m, Hid (M * 2 ^ m1 = m) := ⟨_, hide rfl⟩
  obtain ⟨P2, HP2⟩ : ∃ m, Hid (M' * 2 ^ m2 = m) := ⟨_, hide rfl⟩
  rw [HP1.out] at HPL1 hR
  rw [HP2.out] at HPL2 hR
  have HSL := hide (sum_lt_W HPL1.out HPL2.out)
  obtain ⟨S, HS⟩ : ∃ m, Hid (P1 + P2 = m) := ⟨_, hide rfl⟩
  rw [HS.out] at hR HSL
  have HRR := hide hR
  clear hR
  have HEE := hide hee
  have hw1 : IntKind.i64.wrap (E - ee) = (m1 : Int) := by rw [← hm1]; exact IntWalk.i64_in _ (by omega)
  have hw2 : IntKind.i64.wrap (E' - ee) = (m2 : Int) := by rw [← hm2]; exact IntWalk.i64_in _ (by omega)
  clear hm1 hm2 hee
  obtain ⟨c0, c1, c2, -, -, -⟩ := hbx.three
  go_enter Try.func51, Try.ntmps51
  go_upto_region 1 with (fail)
  rw [← hW]
  clear hW hlt0 hlt1
  go_wp2_with fail
  refine HP.mono ?_
  rintro e w1 ⟨hb1, u, d, rfl, hu, hd⟩
  obtain ⟨A1, cap1, rfl⟩ := hu.form
  have hdl : d.length ≤ l.length := by rw [hd.len, ← HM.out]; exact nM_lt HLN.out
  clear HP c0 c1 c2
  have hbx1 := hbx.below hb1 hbx.lt
  have hbb1 := hbb.below hb1 hbb.lt
  have hrs1 := hrs.below hb1 hrs.lt
  have s1 := hb1.size
  obtain ⟨g0, g1, g2, g3, g4, g5⟩ := hbx1.three
  obtain ⟨w2, hW2, hbx2, hfar2, hk2, hs3, hB2⟩ := set3_all hbx1 (.bool (decide (M < 0))) (.slice A1 d.length cap1) (.int .i64 E)
  have hbb2 := hfar2 _ _ _ (by omega) hbb1
  have hrs2 := hfar2 _ _ _ (by omega) hrs1
  have hu2 := hk2 _ _ _ (by omega) hu
  have HB2 := hide (hB2 _ _ (hB0.trans (hb1.mono hB0.size)) (Nat.le_refl _))
  have hs4 : w.heap.size + 2 < w2.heap.size := by omega
  have hk3 := hk0.up HB2.out
  have HPB := countsR_calls w2 m _ _ k y hk3 (by omega) hy0 hy1
  rw [HZ'.out, HM'.out, HE'.out] at HPB
  clear hk2 hs3 hB2 hfar2
  go_upto_region 2 with (fail)
  rw [← hW2]
  clear hW2 g0 g1 g2 g3 g4 g5
  obtain ⟨c0, c1, c2, -, -, -⟩ := hbb2.three
  go_wp2_with fail
  refine HPB.mono ?_
  rintro e w3 ⟨hb3, u3, d3, rfl, hu3, hd3⟩
  obtain ⟨A3, cap3, rfl⟩ := hu3.form
  have hdl3 : d3.length ≤ k.length := by rw [hd3.len, ← HM'.out]; exact nM_lt HLN'.out
  clear HPB c0 c1 c2
  have hbx3 := hbx2.below hb3 hbx2.lt
  have hbb3 := hbb2.below hb3 hbb2.lt
  have hrs3 := hrs2.below hb3 hrs2.lt
  have hu5 := hu2.up hb3
  have s3 := hb3.size
  obtain ⟨g0, g1, g2, g3, g4, g5⟩ := hbb3.three
  obtain ⟨w4, hW4, hbb4, hfar4, hk4, hs5, hB4⟩ := set3_all hbb3 (.bool (decide (M' < 0))) (.slice A3 d3.length cap3) (.int .i64 E')
  have hbx4 := hfar4 _ _ _ (by omega) hbx3
  have hrs4 := hfar4 _ _ _ (by omega) hrs3
  have hu4 := hk4 _ _ _ (by omega) hu3
  have hu6 := hk4 _ _ _ (by omega) hu5
  have HB4 := hide (hB4 _ _ (HB2.out.trans (hb3.mono HB2.out.size)) (by omega))
  have hs6 : w.heap.size + 2 < w4.heap.size := by omega
  clear hk4 hs5 hB4 hfar4
  go_upto_region 3 with (fail)
  rw [← hW4]
  clear hW4 g0 g1 g2 g3 g4 g5
  obtain ⟨a0, a1, a2, -, -, -⟩ := hbx4.three
  obtain ⟨c0, c1, c2, -, -, -⟩ := hbb4.three
  obtain ⟨a0, a1, a2, -, -, -⟩ := hbx4.three
  obtain ⟨c0, c1, c2, -, -, -⟩ := hbb4.three
  go_upto_region 4 with (fail)
  rw [HEE.out]
  have HQ1 := hide (raisedR_calls w4.drew (decide (M < 0)) _ _ d M P1 m1 (l.length + 1126) hu6.drew hd rfl HP1.out HPL1.out (by omega) (by omega))
  go_region_held3 (fun w' => w'.cell? ⟨w.heap.size, 0, none⟩ = some (.bool (decide (M < 0))) ∧ w'.cell? ⟨w.heap.size, 1, none⟩ = some (.slice A1 d.length cap1) ∧ w'.cell? ⟨w.heap.size, 2, none⟩ = some (.int .i64 E) ∧ w'.cell? ⟨w.heap.size + 1, 0, none⟩ = some (.bool (decide (M' < 0))) ∧ w'.cell? ⟨w.heap.size + 1, 1, none⟩ = some (.slice A3 d3.length cap3) ∧ w'.cell? ⟨w.heap.size + 1, 2, none⟩ = some (.int .i64 E')) (go_keep)
    (first
      | (go_at_call 85; (with_reducible refine HQ1.out.mono ?_); rintro e w5 ⟨hb5, u5, d5, rfl, hu5', hd5⟩
         obtain ⟨A5, cap5, rfl⟩ := hu5'.form
         have hdl5 : d5.length ≤ l.length + 1126 := by rw [hd5.len]; exact HPL1.out
         have hbx5 := hbx4.drew.below hb5 hbx4.lt
         have hbb5 := hbb4.drew.below hb5 hbb4.lt
         have hrs5 := hrs4.drew.below hb5 hrs4.lt
         have hu45 := hu4.drew.up hb5
         have HB5 := hide (HB4.out.drew.trans (hb5.mono HB4.out.size))
         obtain ⟨f0, f1, f2, -, -, -⟩ := hbx5.three
         obtain ⟨e0, e1, e2, -, -, -⟩ := hbb5.three
         have HQ2 := hide (raisedR_calls w5 (decide (M' < 0)) _ _ d3 M' P2 m2 (k.length + 1126) hu45 hd3 rfl HP2.out HPL2.out (by omega) (by omega)))
      | (go_at_call 85; (with_reducible refine HQ2.out.mono ?_); rintro e w6 ⟨hb6, u6, d6, rfl, hu6', hd6⟩
         obtain ⟨A6, cap6, rfl⟩ := hu6'.form
         have hdl6 : d6.length ≤ k.length + 1126 := by rw [hd6.len]; exact HPL2.out
         have hbx6 := hbx5.below hb6 hbx5.lt
         have hbb6 := hbb5.below hb6 hbb5.lt
         have hrs6 := hrs5.below hb6 hrs5.lt
         have hu56 := hu5'.up hb6
         have HB6 := hide (HB5.out.trans (hb6.mono HB5.out.size))
         obtain ⟨i0, i1, i2, -, -, -⟩ := hbx6.three
         obtain ⟨j0, j1, j2, -, -, -⟩ := hbb6.three
         have HPM := hide (sumR w6 P1 P2 S _ _ _ _ d5 d6 hu56 hu6' (by omega) (by omega) hd5 hd6 HS.out))
      | (go_at_call 84; (with_reducible refine HPM.out.mono ?_); rintro e w7 ⟨hb7, u7, d7, rfl, hu7', hd7⟩
         obtain ⟨A7, cap7, rfl⟩ := hu7'.form
         have hdl7 : d7.length ≤ l.length + 1126 + (k.length + 1126) + 1 := by rw [hd7.len]; exact HSL.out
         have hbx7 := hbx6.below hb7 hbx6.lt
         have hbb7 := hbb6.below hb7 hbb6.lt
         have hrs7 := hrs6.below hb7 hrs6.lt
         have HB7 := hide (HB6.out.trans (hb7.mono HB6.out.size))
         obtain ⟨k0, k1, k2, -, -, -⟩ := hbx7.three
         obtain ⟨l0, l1, l2, -, -, -⟩ := hbb7.three
         have HPL := plainR_calls w7 (decide (S < 0)) _ _ d7 ee hu7' (by omega) (by omega) (by omega)
         rw [hd7.val, ival_self, HRR.out.1, HRR.out.2] at HPL
         have HPL := hide HPL)
      | (go_at_call 83; (with_reducible refine HPL.out.mono ?_); rintro e w8 ⟨hb8, u8, d8, rfl, hu8', hd8⟩
         obtain ⟨A8, cap8, rfl⟩ := hu8'.form
         have hbx8 := hbx7.below hb8 hbx7.lt
         have hbb8 := hbb7.below hb8 hbb7.lt
         have hrs8 := hrs7.below hb8 hrs7.lt
         have HB8 := hide (HB7.out.trans (hb8.mono HB7.out.size))
         have hl78 : w.heap.size + 2 < w7.heap.size := hrs7.lt
         obtain ⟨n0, n1, n2, -, -, -⟩ := hbx8.three
         obtain ⟨o0, o1, o2, -, -, -⟩ := hbb8.three
         obtain ⟨g0, g1, g2, g3, g4, g5⟩ := hrs8.three))
  go_wp2_with fail
  refine bodyPost_ret (results_dyad rfl _ _ _ _ _ _ _ rfl (((hrs8.set_ 0 _).set_ 1 _).set_ 2 _)) rfl ⟨below3 HB8.out (by omega) _ _ _, ?_⟩
  exact retQ2 (B := w7.heap.size) (by omega) (by omega) hu8' hd8 _ _ _
end Go.Proofs.Ytnkembnachhicaa
end
section
set_option linter.unusedVariables false
set_option linter.unusedSimpArgs false
namespace Go.Proofs.Ytnkembnachhicaa
open Go.RowKit
open L (val dig nth)

set_option maxRecDepth 100000 in
theorem subDR_calls (w : World) (n m : Bool) (B C : Nat) (v u : Value) (l k : List Nat) (x y : Int) (K : Nat) (h : Nums w B v l) (hk : Nums w C u k) (hl : l.length ≤ 1000) (hkl : k.length ≤ 1000) (hx0 : -9223372036854775808 ≤ x) (hx1 : x ≤ 9223372036854775807) (hy0 : -9223372036854775808 ≤ y) (hy1 : y ≤ 9223372036854775807) (hK : 4000 ≤ K) :
    Calls Try.prog 53 #[.agg #[.bool n, v, .int .i64 x], .agg #[.bool m, u, .int .i64 y]] w fun e w' => Below w.heap.size w w' ∧ RetQ w.heap.size (pM (av K (ival n (val W l)) x - av K (ival m (val W k)) y)) (pE (av K (ival n (val W l)) x - av K (ival m (val W k)) y) (-K)) e w' := by
  have h0 := h
  have hk0 := hk
  have hlt0 := h.lt
  have hlt1 := hk.lt
  obtain ⟨A, cap, rfl, -, -, -, -⟩ := h
  obtain ⟨A', cap', rfl, -, -, -, -⟩ := hk
  obtain ⟨W0, hW, hbx, hbb, hrs, hB0, hs⟩ := start3 w 26 26 26 #[.bool n, .slice A l.length cap, .int .i64 x] #[.bool m, .slice A' k.length cap', .int .i64 y] #[.bool false, .slice none 0 0, .int .i64 0]
  have h1 := h0.up hB0
  have hk1 := hk0.up hB0
  have hs2 : w.heap.size + 2 < W0.heap.size := by omega
  have hne1 : ¬ (w.heap.size = w.heap.size + 1) := by omega
  have hne2 : ¬ (w.heap.size + 1 = w.heap.size) := by omega
  have hne3 : ¬ (w.heap.size + 2 = w.heap.size) := by omega
  have hne4 : ¬ (w.heap.size + 2 = w.heap.size + 1) := by omega
  clear hs
  have HP := countsR_calls W0 m _ _ k y hk1 (by omega) hy0 hy1
  obtain ⟨z, HZ⟩ : ∃ z, Hid (ival n (val W l) = z) := ⟨_, hide rfl⟩
  obtain ⟨z', HZ'⟩ : ∃ z, Hid (ival m (val W k) = z) := ⟨_, hide rfl⟩
  have HLN : Hid (z.natAbs < W ^ l.length) := hide (by rw [← HZ.out]; exact natAbs_lt hlt0)
  have HLN' : Hid (z'.natAbs < W ^ k.length) := hide (by rw [← HZ'.out]; exact natAbs_lt hlt1)
  rw [HZ'.out] at HP ⊢
  rw [HZ.out]
  have hE1 := nE_ge z x
  have hE2 := nE_le (x := x) HLN.out
  have hF1 := nE_ge z' y
  have hF2 := nE_le (x := y) HLN'.out
  obtain ⟨ee, hee⟩ : ∃ ee, min (nE z x) (nE z' y) = ee := ⟨_, rfl⟩
  have hee0 : -4000 ≤ ee := by omega
  have hee1 : ee ≤ 68000 := by omega
  obtain ⟨m1, hm1⟩ : ∃ m1 : Nat, nE z x - ee = m1 := ⟨(nE z x - ee).toNat, by omega⟩
  obtain ⟨m2, hm2⟩ : ∃ m2 : Nat, nE z' y - ee = m2 := ⟨(nE z' y - ee).toNat, by omega⟩
  have hb1 : m1 ≤ 64 * 1126 := by omega
  have hb2 : m2 ≤ 64 * 1126 := by omega
  have hR := sub_norm hK hee0 hm1 hm2
  obtain ⟨M, HM⟩ : ∃ m, Hid (nM z x = m) := ⟨_, hide rfl⟩
  obtain ⟨E, HE⟩ : ∃ m, Hid (nE z x = m) := ⟨_, hide rfl⟩
  obtain ⟨M', HM'⟩ : ∃ m, Hid (nM z' y = m) := ⟨_, hide rfl⟩
  obtain ⟨E', HE'⟩ : ∃ m, Hid (nE z' y = m) := ⟨_, hide rfl⟩
  rw [HM'.out, HE'.out] at HP
  rw [HE.out, HE'.out] at hee
  rw [HE.out] at hE1 hE2 hm1
  rw [HE'.out] at hF1 hF2 hm2
  rw [HM.out, HM'.out] at hR
  obtain ⟨R, HR⟩ : ∃ m, Hid (pM (av K z x - av K z' y) = m) := ⟨_, hide rfl⟩
  obtain ⟨X, HX⟩ : ∃ m, Hid (pE (av K z x - av K z' y) (-K) = m) := ⟨_, hide rfl⟩
  rw [HR.out, HX.out] at hR
  rw [HR.out, HX.out]
  have HPL1 : Hid ((M * 2 ^ m1).natAbs < W ^ (l.length + 1126)) := hide (up_lt (by rw [← HM.out]; exact nM_lt HLN.out) hb1)
  have HPL2 : Hid ((M' * 2 ^ m2).natAbs < W ^ (k.length + 1126)) := hide (up_lt (by rw [← HM'.out]; exact nM_lt HLN'.out) hb2)
  obtain ⟨P1, HP1⟩ : ∃ m, Hid (M * 2 ^ m1 = m) := ⟨_, hide rfl⟩
  obtain ⟨P2, HP2⟩ : ∃ m, Hid (M' * 2 ^ m2 = m) := ⟨_, hide rfl⟩
  rw [HP1.out] at HPL1 hR
  rw [HP2.out] at HPL2 hR
  have HSL := hide (diff_lt_W HPL1.out HPL2.out)
  obtain ⟨S, HS⟩ : ∃ m, Hid (P1 - P2 = m) := ⟨_, hide rfl⟩
  rw [HS.out] at hR HSL
  have HRR := hide hR
  clear hR
  have HEE := hide hee
  have hw1 : IntKind.i64.wrap (E - ee) = (m1 : Int) := by rw [← hm1]; exact IntWalk.i64_in _ (by omega)
  have hw2 : IntKind.i64.wrap (E' - ee) = (m2 : Int) := by rw [← hm2]; exact IntWalk.i64_in _ (by omega)
  clear hm1 hm2 hee
  obtain ⟨c0, c1, c2, -, -, -⟩ := hbb.three
  go_enter Try.func53, Try.ntmps53
  go_upto_region 1 with (fail)
  rw [← hW]
  clear hW hlt0 hlt1
  go_wp2_with fail
  refine HP.mono ?_
  rintro e w1 ⟨hb1, u, d3, rfl, hu, hd3⟩
  obtain ⟨A3, cap3, rfl⟩ := hu.form
  have hdl3 : d3.length ≤ k.length := by rw [hd3.len, ← HM'.out]; exact nM_lt HLN'.out
  clear HP c0 c1 c2
  have hbb1 := hbb.below hb1 hbb.lt
  have hbx1 := hbx.below hb1 hbx.lt
  have hrs1 := hrs.below hb1 hrs.lt
  have s1 := hb1.size
  obtain ⟨g0, g1, g2, g3, g4, g5⟩ := hbb1.three
  obtain ⟨w2, hW2, hbb2, hfar2, hk2, hs3, hB2⟩ := set3_all hbb1 (.bool (decide (M' < 0))) (.slice A3 d3.length cap3) (.int .i64 E')
  have hbx2 := hfar2 _ _ _ (by omega) hbx1
  have hrs2 := hfar2 _ _ _ (by omega) hrs1
  have hu2 := hk2 _ _ _ (by omega) hu
  have HB2 := hide (hB2 _ _ (hB0.trans (hb1.mono hB0.size)) (by omega))
  have hs4 : w.heap.size + 2 < w2.heap.size := by omega
  have hk3 := h0.up HB2.out
  have HPB := countsR_calls w2 n _ _ l x hk3 (by omega) hx0 hx1
  rw [HZ.out, HM.out, HE.out] at HPB
  clear hk2 hs3 hB2 hfar2
  go_upto_region 2 with (fail)
  rw [← hW2]
  clear hW2 g0 g1 g2 g3 g4 g5
  obtain ⟨c0, c1, c2, -, -, -⟩ := hbx2.three
  go_wp2_with fail
  refine HPB.mono ?_
  rintro e w3 ⟨hb3, u3, d, rfl, hu3, hd⟩
  obtain ⟨A1, cap1, rfl⟩ := hu3.form
  have hdl : d.length ≤ l.length := by rw [hd.len, ← HM.out]; exact nM_lt HLN.out
  clear HPB c0 c1 c2
  have hbb3 := hbb2.below hb3 hbb2.lt
  have hbx3 := hbx2.below hb3 hbx2.lt
  have hrs3 := hrs2.below hb3 hrs2.lt
  have hu5 := hu2.up hb3
  have s3 := hb3.size
  obtain ⟨g0, g1, g2, g3, g4, g5⟩ := hbx3.three
  obtain ⟨w4, hW4, hbx4, hfar4, hk4, hs5, hB4⟩ := set3_all hbx3 (.bool (decide (M < 0))) (.slice A1 d.length cap1) (.int .i64 E)
  have hbb4 := hfar4 _ _ _ (by omega) hbb3
  have hrs4 := hfar4 _ _ _ (by omega) hrs3
  have hu4 := hk4 _ _ _ (by omega) hu3
  have hu6 := hk4 _ _ _ (by omega) hu5
  have HB4 := hide (hB4 _ _ (HB2.out.trans (hb3.mono HB2.out.size)) (by omega))
  have hs6 : w.heap.size + 2 < w4.heap.size := by omega
  clear hk4 hs5 hB4 hfar4
  go_upto_region 3 with (fail)
  rw [← hW4]
  clear hW4 g0 g1 g2 g3 g4 g5
  obtain ⟨a0, a1, a2, -, -, -⟩ := hbx4.three
  obtain ⟨c0, c1, c2, -, -, -⟩ := hbb4.three
  obtain ⟨a0, a1, a2, -, -, -⟩ := hbx4.three
  obtain ⟨c0, c1, c2, -, -, -⟩ := hbb4.three
  go_upto_region 4 with (fail)
  rw [HEE.out]
  have HQ1 := hide (raisedR_calls w4.drew (decide (M < 0)) _ _ d M P1 m1 (l.length + 1126) hu4.drew hd rfl HP1.out HPL1.out (by omega) (by omega))
  go_region_held3 (fun w' => w'.cell? ⟨w.heap.size, 0, none⟩ = some (.bool (decide (M < 0))) ∧ w'.cell? ⟨w.heap.size, 1, none⟩ = some (.slice A1 d.length cap1) ∧ w'.cell? ⟨w.heap.size, 2, none⟩ = some (.int .i64 E) ∧ w'.cell? ⟨w.heap.size + 1, 0, none⟩ = some (.bool (decide (M' < 0))) ∧ w'.cell? ⟨w.heap.size + 1, 1, none⟩ = some (.slice A3 d3.length cap3) ∧ w'.cell? ⟨w.heap.size + 1, 2, none⟩ = some (.int .i64 E')) (go_keep)
    (first
      | (go_at_call 85; (with_reducible refine HQ1.out.mono ?_); rintro e w5 ⟨hb5, u5, d5, rfl, hu5', hd5⟩
         obtain ⟨A5, cap5, rfl⟩ := hu5'.form
         have hdl5 : d5.length ≤ l.length + 1126 := by rw [hd5.len]; exact HPL1.out
         have hbx5 := hbx4.drew.below hb5 hbx4.lt
         have hbb5 := hbb4.drew.below hb5 hbb4.lt
         have hrs5 := hrs4.drew.below hb5 hrs4.lt
         have hu45 := hu6.drew.up hb5
         have HB5 := hide (HB4.out.drew.trans (hb5.mono HB4.out.size))
         obtain ⟨f0, f1, f2, -, -, -⟩ := hbx5.three
         obtain ⟨e0, e1, e2, -, -, -⟩ := hbb5.three
         have HQ2 := hide (raisedR_calls w5 (decide (M' < 0)) _ _ d3 M' P2 m2 (k.length + 1126) hu45 hd3 rfl HP2.out HPL2.out (by omega) (by omega)))
      | (go_at_call 85; (with_reducible refine HQ2.out.mono ?_); rintro e w6 ⟨hb6, u6, d6, rfl, hu6', hd6⟩
         obtain ⟨A6, cap6, rfl⟩ := hu6'.form
         have hdl6 : d6.length ≤ k.length + 1126 := by rw [hd6.len]; exact HPL2.out
         have hbx6 := hbx5.below hb6 hbx5.lt
         have hbb6 := hbb5.below hb6 hbb5.lt
         have hrs6 := hrs5.below hb6 hrs5.lt
         have hu56 := hu5'.up hb6
         have HB6 := hide (HB5.out.trans (hb6.mono HB5.out.size))
         obtain ⟨i0, i1, i2, -, -, -⟩ := hbx6.three
         obtain ⟨j0, j1, j2, -, -, -⟩ := hbb6.three
         have HPM := hide (subR w6 P1 P2 S _ _ _ _ d5 d6 hu56 hu6' (by omega) (by omega) hd5 hd6 HS.out))
      | (go_at_call 86; (with_reducible refine HPM.out.mono ?_); rintro e w7 ⟨hb7, u7, d7, rfl, hu7', hd7⟩
         obtain ⟨A7, cap7, rfl⟩ := hu7'.form
         have hdl7 : d7.length ≤ l.length + 1126 + (k.length + 1126) + 1 := by rw [hd7.len]; exact HSL.out
         have hbx7 := hbx6.below hb7 hbx6.lt
         have hbb7 := hbb6.below hb7 hbb6.lt
         have hrs7 := hrs6.below hb7 hrs6.lt
         have HB7 := hide (HB6.out.trans (hb7.mono HB6.out.size))
         obtain ⟨k0, k1, k2, -, -, -⟩ := hbx7.three
         obtain ⟨l0, l1, l2, -, -, -⟩ := hbb7.three
         have HPL := plainR_calls w7 (decide (S < 0)) _ _ d7 ee hu7' (by omega) (by omega) (by omega)
         rw [hd7.val, ival_self, HRR.out.1, HRR.out.2] at HPL
         have HPL := hide HPL)
      | (go_at_call 83; (with_reducible refine HPL.out.mono ?_); rintro e w8 ⟨hb8, u8, d8, rfl, hu8', hd8⟩
         obtain ⟨A8, cap8, rfl⟩ := hu8'.form
         have hbx8 := hbx7.below hb8 hbx7.lt
         have hbb8 := hbb7.below hb8 hbb7.lt
         have hrs8 := hrs7.below hb8 hrs7.lt
         have HB8 := hide (HB7.out.trans (hb8.mono HB7.out.size))
         have hl78 : w.heap.size + 2 < w7.heap.size := hrs7.lt
         obtain ⟨n0, n1, n2, -, -, -⟩ := hbx8.three
         obtain ⟨o0, o1, o2, -, -, -⟩ := hbb8.three
         obtain ⟨g0, g1, g2, g3, g4, g5⟩ := hrs8.three))
  go_wp2_with fail
  refine bodyPost_ret (results_dyad rfl _ _ _ _ _ _ _ rfl (((hrs8.set_ 0 _).set_ 1 _).set_ 2 _)) rfl ⟨below3 HB8.out (by omega) _ _ _, ?_⟩
  exact retQ2 (B := w7.heap.size) (by omega) (by omega) hu8' hd8 _ _ _
end Go.Proofs.Ytnkembnachhicaa
end
section
set_option linter.unusedVariables false
set_option linter.unusedSimpArgs false
namespace Go.Proofs.Ytnkembnachhicaa
open Go.RowKit
open L (val dig nth)

theorem subN_lt {K : Nat} (hK : 4000 ≤ K) {z x z' y : Int} {l k : Nat} (hz : z.natAbs < W ^ l) (hz' : z'.natAbs < W ^ k) (hl : l ≤ 1000) (hk : k ≤ 1000) :
    (pM (av K z x - av K z' y)).natAbs < W ^ (l + 1126 + (k + 1126) + 1) := by
  have hE1 := nE_ge z x
  have hE2 := nE_le (x := x) hz
  have hF1 := nE_ge z' y
  have hF2 := nE_le (x := y) hz'
  obtain ⟨ee, hee⟩ : ∃ ee, min (nE z x) (nE z' y) = ee := ⟨_, rfl⟩
  have hee0 : -4000 ≤ ee := by omega
  obtain ⟨m1, hm1⟩ : ∃ m1 : Nat, nE z x - ee = m1 := ⟨(nE z x - ee).toNat, by omega⟩
  obtain ⟨m2, hm2⟩ : ∃ m2 : Nat, nE z' y - ee = m2 := ⟨(nE z' y - ee).toNat, by omega⟩
  rw [← (sub_norm hK hee0 hm1 hm2).1]
  exact pM_lt (diff_lt_W (up_lt (nM_lt hz) (by omega)) (up_lt (nM_lt hz') (by omega)))
theorem pM_sgn (V : Int) : (pM V).sign = V.sign := by
  have := pM_mul V
  conv => rhs; rw [← this, Int.sign_mul, Int.sign_eq_one_of_pos (two_pow_int _), Int.mul_one]
set_option maxRecDepth 100000 in
theorem cmpDR_calls (w : World) (n m : Bool) (B C : Nat) (v u : Value) (l k : List Nat) (x y : Int) (K : Nat) (h : Nums w B v l) (hk : Nums w C u k) (hl : l.length ≤ 1000) (hkl : k.length ≤ 1000) (hx0 : -9223372036854775808 ≤ x) (hx1 : x ≤ 9223372036854775807) (hy0 : -9223372036854775808 ≤ y) (hy1 : y ≤ 9223372036854775807) (hK : 4000 ≤ K) :
    Calls Try.prog 41 #[.agg #[.bool n, v, .int .i64 x], .agg #[.bool m, u, .int .i64 y]] w fun e w' => Below w.heap.size w w' ∧ e = .returned (.int .i64 (av K (ival n (val W l)) x - av K (ival m (val W k)) y).sign) := by
  have h0 := h
  have hk0 := hk
  have hlt0 := h.lt
  have hlt1 := hk.lt
  obtain ⟨A, cap, rfl, -, -, -, -⟩ := h
  obtain ⟨A', cap', rfl, -, -, -, -⟩ := hk
  obtain ⟨W0, hW, hbx, hbb, hB0, hs⟩ := start2 w 26 26 #[.bool n, .slice A l.length cap, .int .i64 x] #[.bool m, .slice A' k.length cap', .int .i64 y]
  have h1 := h0.up hB0
  have hk1 := hk0.up hB0
  have hs2 : w.heap.size + 1 < W0.heap.size := by omega
  have hne1 : ¬ (w.heap.size = w.heap.size + 1) := by omega
  have hne2 : ¬ (w.heap.size + 1 = w.heap.size) := by omega
  clear hs
  have HP := subDR_calls W0 n m _ _ _ _ l k x y K h1 hk1 hl hkl hx0 hx1 hy0 hy1 hK
  obtain ⟨z, HZ⟩ : ∃ z, Hid (ival n (val W l) = z) := ⟨_, hide rfl⟩
  obtain ⟨z', HZ'⟩ : ∃ z, Hid (ival m (val W k) = z) := ⟨_, hide rfl⟩
  rw [HZ.out, HZ'.out] at HP ⊢
  have HL := hide (subN_lt (z := z) (z' := z') (x := x) (y := y) hK (by rw [← HZ.out]; exact natAbs_lt hlt0) (by rw [← HZ'.out]; exact natAbs_lt hlt1) hl hkl)
  rw [← pM_sgn]
  obtain ⟨R, HR⟩ : ∃ m, Hid (pM (av K z x - av K z' y) = m) := ⟨_, hide rfl⟩
  obtain ⟨X, HX⟩ : ∃ m, Hid (pE (av K z x - av K z' y) (-K) = m) := ⟨_, hide rfl⟩
  rw [HR.out, HX.out] at HP
  rw [HR.out] at HL ⊢
  obtain ⟨s, HSG⟩ : ∃ s, Hid (R.sign = s) := ⟨_, hide rfl⟩
  rw [HSG.out]
  obtain ⟨c0, c1, c2, -, -, -⟩ := hbx.three
  obtain ⟨b0, b1, b2, -, -, -⟩ := hbb.three
  go_enter Try.func41, Try.ntmps41
  go_upto_region 1 with (fail)
  rw [← hW]
  clear hW hlt0 hlt1
  go_wp2_with fail
  refine HP.mono ?_
  rintro e w1 ⟨hb1, u, d, rfl, hu, hd⟩
  obtain ⟨A1, cap1, rfl⟩ := hu.form
  have hdl : d.length ≤ l.length + 1126 + (k.length + 1126) + 1 := by rw [hd.len]; exact HL.out
  have HP2 := zsignR_calls w1 (decide (R < 0)) _ _ d hu (by omega)
  rw [hd.val, ival_self, HSG.out] at HP2
  have hfl := field_dyad0 (.bool (decide (R < 0))) (.slice A1 d.length cap1) (.int .i64 X) w1
  clear HP
  go_wp2_with fail
  refine HP2.mono ?_
  rintro e w2 ⟨hb2, rfl⟩
  go_wp2_with fail
  go_ret
  exact ⟨(hB0.trans (hb1.mono hB0.size)).trans (hb2.mono (by have := hB0.size; have := hb1.size; omega)), rfl⟩
end Go.Proofs.Ytnkembnachhicaa
end

/- law03's 'shown' is true. -/
import Derived.Test.YtnkembnachhicaaLaw3
set_option linter.unusedVariables false
set_option linter.unusedSimpArgs false
namespace Go.Proofs.Ytnkembnachhicaa
open Go.RowKit
open L (val dig nth)

theorem nM_12 : nM 12 (-1) = 3 := nM_pow (z := 3) (n := 2) (by omega) (by omega) rfl
theorem nE_12 : nE 12 (-1) = 1 := nE_pow (z := 3) (n := 2) (by omega) (by omega) rfl
theorem nM_1 : nM 1 (-1) = 1 := nM_odd (by omega) (by omega) rfl
theorem nE_1 : nE 1 (-1) = -1 := nE_odd (by omega) (by omega) rfl
theorem nM_32 : nM 3 (-2) = 3 := nM_odd (by omega) (by omega) rfl
theorem nE_32 : nE 3 (-2) = -2 := nE_odd (by omega) (by omega) rfl
theorem nM_m32 : nM (-3) (-2) = -3 := nM_odd (by omega) (by omega) rfl
theorem nE_m32 : nE (-3) (-2) = -2 := nE_odd (by omega) (by omega) rfl
theorem sum_one (K : Nat) (hK : 4000 ≤ K) : av K 1 (-1) + av K 1 (-1) = sv K 1 0 := by
  rw [av_of (by omega) (by omega), ← sv_add, show (1 : Int) + 1 = 1 * 2 ^ 1 from rfl, sv_shift K _ _ _ (by omega)]; rfl
theorem sum_M : pM (av 4000 1 (-1) + av 4000 1 (-1)) = 1 := by rw [sum_one _ (by omega), pM_sv]; exact pM_one
theorem sum_E : pE (av 4000 1 (-1) + av 4000 1 (-1)) (-(4000 : Nat)) = 0 := by rw [sum_one _ (by omega), pE_sv _ _ _ (by omega)]; exact pE_one _
theorem lg_3 : lgN 3 (-2) = -1 := by
  unfold lgN; rw [cM_in (by omega) (by omega), cE_in (by omega) (by omega) (by omega), if_neg (by omega), show (3 : Int).natAbs = 3 from rfl, nbits_3]; rfl
theorem lgOk_3 : lgOk 3 (-2) = true := by unfold lgOk; rw [cM_in (by omega) (by omega)]; rfl
theorem near_1 : nearZ 1 = 1 := rfl
theorem floor_m3 : vFloor 4000 (av 4000 (-3) (-2)) (nearZ 1) = -2 := by
  rw [near_1, av_of (by omega) (by omega), ← scF_sv 4000 _ _ _ (by omega)]; rfl
theorem ceil_m3 : vCeil 4000 (av 4000 (-3) (-2)) (nearZ 1) = -1 := by
  rw [near_1, av_of (by omega) (by omega), ← scC_sv 4000 _ _ _ (by omega)]; rfl
theorem txt_3 : txt (decide ((3 : Int) < 0)) 3 = .string ⟨#[51]⟩ := rfl
theorem txt_m2 : txt (decide ((-2 : Int) < 0)) 2 = .string ⟨#[45, 50]⟩ := rfl
theorem txt_m1 : txt (decide ((-1 : Int) < 0)) 1 = .string ⟨#[45, 49]⟩ := rfl

set_option maxRecDepth 100000 in
theorem shown3_calls (w : World) : Calls Try.prog 14 #[] w fun e w' => Below w.heap.size w w' ∧ e = .returned (.bool true) := by
  go_enter Try.func14, Try.ntmps14
  go_wp2_with fail
  refine (c_zof 12 (by omega) (by omega)).mono ?_
  rintro e w1 ⟨hb1, n1, A1, l1, k1, rfl, hq1⟩
  have HP := c_norm (x := -1) hq1 (by omega) (by omega) (by omega)
  rw [nM_12, nE_12] at HP
  go_wp2_with fail
  refine HP.mono ?_
  rintro e w2 ⟨hb2, n2, A2, l2, k2, rfl, hq2⟩
  clear HP
  have s1 := hb1.size
  have s2 := hb2.size
  obtain ⟨w3, hW, hbd3, hB3, hs3⟩ := start1 w2 26 #[.bool n2, .slice A2 l2 k2, .int .i64 1]
  have hq3 := hq2.below hB3
  have hs3' : w2.heap.size < w3.heap.size := by omega
  have HB3 := hide ((hb1.trans (hb2.mono hb1.size)).trans (hB3.mono (by omega)))
  clear hs3
  go_upto_region 2 with (fail)
  rw [← hW]
  clear hW
  have HP := of3_calls w3 1 (-1) (by omega) (by omega) (by omega) (by omega)
  rw [nM_1, nE_1] at HP
  go_wp2_with fail
  refine HP.mono ?_
  rintro e w4 ⟨hb4, n4, A4, l4, k4, rfl, hq4⟩
  clear HP
  have s4 := hb4.size
  have hbd4 := hbd3.below hb4 hs3'
  have hq3 := hq3.below hb4
  have HP := of3_calls w4 1 (-1) (by omega) (by omega) (by omega) (by omega)
  rw [nM_1, nE_1] at HP
  go_wp2_with fail
  refine HP.mono ?_
  rintro e w5 ⟨hb5, n5, A5, l5, k5, rfl, hq5⟩
  clear HP
  have s5 := hb5.size
  have hbd5 := hbd4.below hb5 hbd4.lt
  have hq3 := hq3.below hb5
  have hq4 := hq4.below hb5
  have HP := c_add (x := -1) (y := -1) hq4 hq5 (by omega) (by omega) (by omega) (by omega) (by omega) (by omega) 4000 (Nat.le_refl _)
  rw [sum_M, sum_E] at HP
  go_wp2_with fail
  refine HP.mono ?_
  rintro e w6 ⟨hb6, n6, A6, l6, k6, rfl, hq6⟩
  clear HP
  have s6 := hb6.size
  have hbd6 := hbd5.below hb6 hbd5.lt
  have hq3 := hq3.below hb6
  obtain ⟨w7, hW, hbs7, hB7, hs7⟩ := start1 w6 26 #[.bool n6, .slice A6 l6 k6, .int .i64 0]
  have hq3 := hq3.below hB7
  have hq7 := hq6.below hB7
  have hbd7 := hbd6.below hB7 hbd6.lt
  have hs7' : w6.heap.size < w7.heap.size := by omega
  have HB7 := hide ((((HB3.out.trans (hb4.mono (by omega))).trans (hb5.mono (by omega))).trans (hb6.mono (by omega))).trans (hB7.mono (by omega)))
  clear hs7
  go_upto_region 3 with (fail)
  rw [← hW]
  clear hW
  have HP := of3_calls w7 3 (-2) (by omega) (by omega) (by omega) (by omega)
  rw [nM_32, nE_32] at HP
  go_wp2_with fail
  refine HP.mono ?_
  rintro e w8 ⟨hb8, n8, A8, l8, k8, rfl, hq8⟩
  clear HP
  have s8 := hb8.size
  have hbd8 := hbd7.below hb8 hbd7.lt
  have hbs8 := hbs7.below hb8 hs7'
  have hq3 := hq3.below hb8
  have hq7 := hq7.below hb8
  have HP := c_log (x := -2) hq8 (by omega) (by omega) (by omega)
  rw [lg_3, lgOk_3] at HP
  go_wp2_with fail
  refine HP.mono ?_
  rintro e w9 ⟨hb9, rfl⟩
  clear HP
  have s9 := hb9.size
  have hbd9 := hbd8.below hb9 hbd8.lt
  have hbs9 := hbs8.below hb9 hbs8.lt
  have hq3 := hq3.below hb9
  have hq7 := hq7.below hb9
  have HB9 := hide ((HB7.out.trans (hb8.mono (by omega))).trans (hb9.mono (by omega)))
  obtain ⟨i0, i1, i2, -, -, -⟩ := hbd9.three
  have HP := c_text (z := 3) hq3 (by omega) 3 rfl (by omega) (by omega)
  rw [txt_3] at HP
  go_wp2_with fail
  refine HP.mono ?_
  rintro e w10 ⟨hb10, rfl⟩
  clear HP
  have s10 := hb10.size
  have hbd10 := hbd9.below hb10 hbd9.lt
  have hbs10 := hbs9.below hb10 hbs9.lt
  have hq7 := hq7.below hb10
  obtain ⟨j0, j1, j2, -, -, -⟩ := hbd10.three
  obtain ⟨f0, f1, f2, -, -, -⟩ := hbs10.three
  have HP := c_text (z := 1) hq7 (by omega) 1 rfl (by omega) (by omega)
  rw [txt_one] at HP
  go_wp2_with fail
  refine HP.mono ?_
  rintro e w11 ⟨hb11, rfl⟩
  clear HP
  have s11 := hb11.size
  have hbd11 := hbd10.below hb11 hbd10.lt
  have hbs11 := hbs10.below hb11 hbs10.lt
  have HB11 := hide ((HB9.out.trans (hb10.mono (by omega))).trans (hb11.mono (by omega)))
  obtain ⟨o0, o1, o2, -, -, -⟩ := hbs11.three
  have HP := of3_calls w11 (-3) (-2) (by omega) (by omega) (by omega) (by omega)
  rw [nM_m32, nE_m32] at HP
  go_wp2_with fail
  refine HP.mono ?_
  rintro e w12 ⟨hb12, n12, A12, l12, k12, rfl, hq12⟩
  clear HP
  have s12 := hb12.size
  have HP := c_floor (x := -2) hq12 (by omega) (by omega) (by omega) 4000 (Nat.le_refl _) 1
  rw [floor_m3] at HP
  go_wp2_with fail
  refine HP.mono ?_
  rintro e w13 ⟨hb13, n13, A13, l13, k13, rfl, hq13⟩
  clear HP
  have s13 := hb13.size
  have HP := c_text (z := -2) hq13 (by omega) 2 rfl (by omega) (by omega)
  rw [txt_m2] at HP
  go_wp2_with fail
  refine HP.mono ?_
  rintro e w14 ⟨hb14, rfl⟩
  clear HP
  have s14 := hb14.size
  have HB14 := hide (((HB11.out.trans (hb12.mono (by omega))).trans (hb13.mono (by omega))).trans (hb14.mono (by omega)))
  have HP := of3_calls w14 (-3) (-2) (by omega) (by omega) (by omega) (by omega)
  rw [nM_m32, nE_m32] at HP
  go_wp2_with fail
  refine HP.mono ?_
  rintro e w15 ⟨hb15, n15, A15, l15, k15, rfl, hq15⟩
  clear HP
  have s15 := hb15.size
  have HP := c_ceil (x := -2) hq15 (by omega) (by omega) (by omega) 4000 (Nat.le_refl _) 1
  rw [ceil_m3] at HP
  go_wp2_with fail
  refine HP.mono ?_
  rintro e w16 ⟨hb16, n16, A16, l16, k16, rfl, hq16⟩
  clear HP
  have s16 := hb16.size
  have HP := c_text (z := -1) hq16 (by omega) 1 rfl (by omega) (by omega)
  rw [txt_m1] at HP
  go_wp2_with fail
  refine HP.mono ?_
  rintro e w17 ⟨hb17, rfl⟩
  clear HP
  go_wp2_with fail
  go_ret
  exact ⟨((HB14.out.trans (hb15.mono (by omega))).trans (hb16.mono (by omega))).trans (hb17.mono (by omega)), rfl⟩
end Go.Proofs.Ytnkembnachhicaa

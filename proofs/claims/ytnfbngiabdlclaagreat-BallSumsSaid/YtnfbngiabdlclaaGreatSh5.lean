/- hairlinelaw05: made, shown. -/
import Derived.Test.YtnfbngiabdlclaaGreatBa7
import Derived.Test.YtnfbngiabdlclaaGreatLaws
set_option linter.unusedVariables false
set_option linter.unusedSimpArgs false
namespace Go.Proofs.YtnfbngiabdlclaaGreat
open Go.RowKit
open L (val dig nth)

set_option maxRecDepth 100000 in
theorem made5_calls (w : World) (a b q : Int) (ha0 : -9223372036854775808 ≤ a) (ha1 : a ≤ 9223372036854775807) (hb0 : -9223372036854775808 ≤ b) (hb1_ : b ≤ 9223372036854775807) :
    Calls Tryz.prog 53 #[.int .i64 a, .int .i64 b, .int .i64 q] w fun e w' => Below w.heap.size w w' ∧ ∃ n A l c n' A' l' c', e = .returned (.agg #[.bool n, .slice A l c, .bool n', .slice A' l' c', .int .i64 q]) ∧ QB w' w.heap.size 1 n A l c a ∧ QB w' w.heap.size 1 n' A' l' c' b := by
  obtain ⟨W0, hW, hrs, hB0, hs⟩ := start1 w 27 #[.bool false, .slice none 0 0, .bool false, .slice none 0 0, .int .i64 0]
  have HB0 := hide hB0
  have hs2 : w.heap.size + 1 ≤ W0.heap.size := by omega
  clear hs hB0
  have HA : Hid (a.natAbs < W ^ 1) := hide (by rw [Nat.pow_one]; unfold W; omega)
  have HBB : Hid (b.natAbs < W ^ 1) := hide (by rw [Nat.pow_one]; unfold W; omega)
  go_enter Tryz.func53, Tryz.ntmps53
  go_upto_region 1 with (fail)
  rw [← hW]
  clear hW
  go_wp2_with fail
  refine (zof_calls W0 a ha0 ha1).mono ?_
  rintro e w1 ⟨hb1, u1, d1, rfl, hu1, hd1⟩
  obtain ⟨C1, cc1, rfl⟩ := hu1.form
  have hrs := hrs.below hb1 hrs.lt
  have HB1 := hide (HB0.out.trans (hb1.mono HB0.out.size))
  have hs3 := hb1.size
  go_wp2_with fail
  refine (zof_calls w1 b hb0 hb1_).mono ?_
  rintro e w2 ⟨hb2, u2, d2, rfl, hu2, hd2⟩
  obtain ⟨C2, cc2, rfl⟩ := hu2.form
  have hrs := hrs.below hb2 hrs.lt
  have hu1 := hu1.below hb2
  have HB2 := hide (HB1.out.trans (hb2.mono HB1.out.size))
  have q1 := (RetZ.qb hu1 hd1 HA.out).mono (show w.heap.size + 1 ≤ _ from hs2)
  have q2 := (RetZ.qb hu2 hd2 HBB.out).mono (show w.heap.size + 1 ≤ _ by omega)
  obtain ⟨r0, r1, r2, r3, r4, r5, r6, r7, r8, r9⟩ := hrs.five
  go_wp2_with fail
  obtain ⟨W2, hW2, bl, kq, kb, -⟩ := set5_all hrs (.bool (decide (a < 0))) (.slice C1 d1.length cc1) (.bool (decide (b < 0))) (.slice C2 d2.length cc2) (.int .i64 q)
  rw [← hW2]
  refine bodyPost_ret (results_ball rfl _ _ _ _ _ _ _ _ _ rfl bl) rfl ⟨kb _ _ HB2.out (Nat.le_refl _), _, _, _, _, _, _, _, _, rfl, (kq _ _ _ _ _ _ _ (by omega) q1).mono (by omega), (kq _ _ _ _ _ _ _ (by omega) q2).mono (by omega)⟩

theorem pt_m : mayQ 1 = true := by decide
theorem pt_av : av 4000 3 (-2) = sv 4000 3 (-2) := by unfold av; rfl
theorem pt_f : vFloor 4000 (av 4000 3 (-2)) (nearZ 1) = 1 := by
  rw [pt_av, ← scF_sv 4000 3 (-2) (nearZ 1) (by omega)]; rfl
theorem pt_c : vCeil 4000 (av 4000 3 (-2)) (nearZ 1) = 2 := by
  rw [pt_av, ← scC_sv 4000 3 (-2) (nearZ 1) (by omega)]; rfl
theorem mu_p : pairB (-1) 2 0 3 4 0 = true := by decide
theorem mu_f : vDn (min4 (-1 * 3) (-1 * 4) (2 * 3) (2 * 4)) 0 = -4 := by decide
theorem mu_c : vOv (max4 (-1 * 3) (-1 * 4) (2 * 3) (2 * 4)) 0 = 8 := by decide
theorem dv_p : (pairB 1 1 2 3 3 2 && decide (0 < Int.sign 3 * Int.sign 3)) = true := by decide
theorem dv_f : min4 (vLo 2 1 3) (vLo 2 1 3) (vLo 2 1 3) (vLo 2 1 3) = 1 := by decide
theorem dv_c : max4 (vHi 2 1 3) (vHi 2 1 3) (vHi 2 1 3) (vHi 2 1 3) = 2 := by decide
theorem dv_e : (if pairB 1 1 2 3 3 2 = true then (2 : Int) else 1) = 2 := by decide
theorem ex_p : (pairB 1 1 2 (-3) 3 2 && decide (0 < Int.sign (-3) * Int.sign 3)) = false := by decide
theorem ex_e : (if pairB 1 1 2 (-3) 3 2 = true then (2 : Int) else 1) = 2 := by decide
theorem tx_1 : txt (decide ((1 : Int) < 0)) 1 = .string ⟨#[49]⟩ := rfl
theorem tx_2 : txt (decide ((2 : Int) < 0)) 2 = .string ⟨#[50]⟩ := rfl
theorem tx_m4 : txt (decide ((-4 : Int) < 0)) 4 = .string ⟨#[45, 52]⟩ := rfl
theorem tx_8 : txt (decide ((8 : Int) < 0)) 8 = .string ⟨#[56]⟩ := rfl

set_option maxHeartbeats 4000000 in
set_option maxRecDepth 100000 in
theorem shown5_calls (w : World) : Calls Tryz.prog 14 #[] w fun e w' => Below w.heap.size w w' ∧ e = .returned (.bool true) := by
  go_enter Tryz.func14, Tryz.ntmps14
  have HP := hide (zof_calls w 3 (by omega) (by omega))
  go_wp2_with fail
  refine HP.out.mono ?_
  rintro e w1 ⟨hb, u1, d1, rfl, hu1, hd1⟩
  clear HP
  have HB := hide hb
  obtain ⟨A1, c1, rfl⟩ := hu1.form
  have q1 := (RetZ.qb (k := 1) hu1 hd1 (by unfold W; decide)).q
  have HP0 := c_of (x := -2) q1 (by omega) (by omega) (by omega)
  rw [nM_32, nE_32] at HP0
  have HP := hide (HP0)
  go_wp2_with fail
  refine HP.out.mono ?_
  rintro e w2 ⟨hb, n2, A2, l2, k2, rfl, q2⟩
  clear HP
  have q1 := q1.below hb
  have HB := hide (HB.out.trans (hb.mono HB.out.size))
  have HP0 := point_calls (x := -2) 1 q2 (by omega) (by omega) (by omega)
  rw [pt_f, pt_c, pt_m] at HP0
  have HP := hide (HP0)
  go_wp2_with fail
  refine HP.out.mono ?_
  rintro e w3 ⟨hb, n3, A3, l3, k3, n4, A4, l4, k4, rfl, q3, q4⟩
  clear HP
  have q1 := q1.below hb
  have q2 := q2.below hb
  have HB := hide (HB.out.trans (hb.mono HB.out.size))
  obtain ⟨w4, hW, bp, hb, hs⟩ := start1 w3 27 #[.bool n3, .slice A3 l3 k3, .bool n4, .slice A4 l4 k4, .int .i64 1]
  clear hs
  have q1 := q1.below hb
  have q2 := q2.below hb
  have q3 := q3.below hb
  have q4 := q4.below hb
  have HB := hide (HB.out.trans (hb.mono HB.out.size))
  go_upto_region 2 with (fail)
  rw [← hW]
  clear hW
  have HP := hide (made5_calls w4 (-1) 2 0 (by omega) (by omega) (by omega) (by omega))
  go_wp2_with fail
  refine HP.out.mono ?_
  rintro e w5 ⟨hb, n5, A5, l5, k5, m5, B5, j5, i5, rfl, q5, r5⟩
  clear HP
  have bp := bp.below hb bp.lt
  have q1 := q1.below hb
  have q2 := q2.below hb
  have q3 := q3.below hb
  have q4 := q4.below hb
  have HB := hide (HB.out.trans (hb.mono HB.out.size))
  have HP := hide (made5_calls w5 3 4 0 (by omega) (by omega) (by omega) (by omega))
  go_wp2_with fail
  refine HP.out.mono ?_
  rintro e w6 ⟨hb, n6, A6, l6, k6, m6, B6, j6, i6, rfl, q6, r6⟩
  clear HP
  have bp := bp.below hb bp.lt
  have q1 := q1.below hb
  have q2 := q2.below hb
  have q3 := q3.below hb
  have q4 := q4.below hb
  have q5 := q5.below hb
  have r5 := r5.below hb
  have HB := hide (HB.out.trans (hb.mono HB.out.size))
  have HP0 := bmul_calls 0 0 q5.q r5.q q6.q r6.q (by omega)
  rw [mu_p, mu_f, mu_c] at HP0
  have HP := hide (HP0)
  go_wp2_with fail
  refine HP.out.mono ?_
  rintro e w7 ⟨hb, n7, A7, l7, k7, m7, B7, j7, i7, rfl, q7, r7⟩
  clear HP
  have bp := bp.below hb bp.lt
  have q1 := q1.below hb
  have q2 := q2.below hb
  have q3 := q3.below hb
  have q4 := q4.below hb
  have q5 := q5.below hb
  have r5 := r5.below hb
  have q6 := q6.below hb
  have r6 := r6.below hb
  have HB := hide (HB.out.trans (hb.mono HB.out.size))
  clear q1
  clear q2
  clear q5
  clear r5
  clear q6
  clear r6
  obtain ⟨w8, hW, bm, hb, hs⟩ := start1 w7 27 #[.bool n7, .slice A7 l7 k7, .bool m7, .slice B7 j7 i7, .int .i64 0]
  clear hs
  have bp := bp.below hb bp.lt
  have q3 := q3.below hb
  have q4 := q4.below hb
  have q7 := q7.below hb
  have r7 := r7.below hb
  have HB := hide (HB.out.trans (hb.mono HB.out.size))
  go_upto_region 3 with (fail)
  rw [← hW]
  clear hW
  have HP := hide (made5_calls w8 1 1 2 (by omega) (by omega) (by omega) (by omega))
  go_wp2_with fail
  refine HP.out.mono ?_
  rintro e w9 ⟨hb, n8, A8, l8, k8, m8, B8, j8, i8, rfl, q8, r8⟩
  clear HP
  have bp := bp.below hb bp.lt
  have bm := bm.below hb bm.lt
  have q3 := q3.below hb
  have q4 := q4.below hb
  have q7 := q7.below hb
  have r7 := r7.below hb
  have HB := hide (HB.out.trans (hb.mono HB.out.size))
  have HP := hide (made5_calls w9 3 3 2 (by omega) (by omega) (by omega) (by omega))
  go_wp2_with fail
  refine HP.out.mono ?_
  rintro e w10 ⟨hb, n9, A9, l9, k9, m9, B9, j9, i9, rfl, q9, r9⟩
  clear HP
  have bp := bp.below hb bp.lt
  have bm := bm.below hb bm.lt
  have q3 := q3.below hb
  have q4 := q4.below hb
  have q7 := q7.below hb
  have r7 := r7.below hb
  have q8 := q8.below hb
  have r8 := r8.below hb
  have HB := hide (HB.out.trans (hb.mono HB.out.size))
  have HP0 := bdiv_calls 2 2 q8.q r8.q q9.q r9.q (by omega)
  rw [dv_p, dv_f, dv_c, dv_e] at HP0
  have HP := hide (HP0)
  go_wp2_with fail
  refine HP.out.mono ?_
  rintro e w11 ⟨hb, n10, A10, l10, k10, m10, B10, j10, i10, rfl, q10, r10⟩
  clear HP
  have bp := bp.below hb bp.lt
  have bm := bm.below hb bm.lt
  have q3 := q3.below hb
  have q4 := q4.below hb
  have q7 := q7.below hb
  have r7 := r7.below hb
  have q8 := q8.below hb
  have r8 := r8.below hb
  have q9 := q9.below hb
  have r9 := r9.below hb
  have HB := hide (HB.out.trans (hb.mono HB.out.size))
  clear q8
  clear r8
  clear q9
  clear r9
  obtain ⟨w12, hW, bd, hb, hs⟩ := start1 w11 27 #[.bool n10, .slice A10 l10 k10, .bool m10, .slice B10 j10 i10, .int .i64 2]
  clear hs
  have bp := bp.below hb bp.lt
  have bm := bm.below hb bm.lt
  have q3 := q3.below hb
  have q4 := q4.below hb
  have q7 := q7.below hb
  have r7 := r7.below hb
  have q10 := q10.below hb
  have r10 := r10.below hb
  have HB := hide (HB.out.trans (hb.mono HB.out.size))
  go_upto_region 4 with (fail)
  rw [← hW]
  clear hW
  have HP := hide (made5_calls w12 1 1 2 (by omega) (by omega) (by omega) (by omega))
  go_wp2_with fail
  refine HP.out.mono ?_
  rintro e w13 ⟨hb, n11, A11, l11, k11, m11, B11, j11, i11, rfl, q11, r11⟩
  clear HP
  have bp := bp.below hb bp.lt
  have bm := bm.below hb bm.lt
  have bd := bd.below hb bd.lt
  have q3 := q3.below hb
  have q4 := q4.below hb
  have q7 := q7.below hb
  have r7 := r7.below hb
  have q10 := q10.below hb
  have r10 := r10.below hb
  have HB := hide (HB.out.trans (hb.mono HB.out.size))
  have HP := hide (made5_calls w13 (-3) 3 2 (by omega) (by omega) (by omega) (by omega))
  go_wp2_with fail
  refine HP.out.mono ?_
  rintro e w14 ⟨hb, n12, A12, l12, k12, m12, B12, j12, i12, rfl, q12, r12⟩
  clear HP
  have bp := bp.below hb bp.lt
  have bm := bm.below hb bm.lt
  have bd := bd.below hb bd.lt
  have q3 := q3.below hb
  have q4 := q4.below hb
  have q7 := q7.below hb
  have r7 := r7.below hb
  have q10 := q10.below hb
  have r10 := r10.below hb
  have q11 := q11.below hb
  have r11 := r11.below hb
  have HB := hide (HB.out.trans (hb.mono HB.out.size))
  have HP0 := bdiv_calls 2 2 q11.q r11.q q12.q r12.q (by omega)
  rw [ex_p, ex_e] at HP0
  have HP := hide (HP0)
  go_wp2_with fail
  refine HP.out.mono ?_
  rintro e w15 ⟨hb, n13, A13, l13, k13, m13, B13, j13, i13, rfl, q13, r13⟩
  clear HP
  have bp := bp.below hb bp.lt
  have bm := bm.below hb bm.lt
  have bd := bd.below hb bd.lt
  have q3 := q3.below hb
  have q4 := q4.below hb
  have q7 := q7.below hb
  have r7 := r7.below hb
  have q10 := q10.below hb
  have r10 := r10.below hb
  have q11 := q11.below hb
  have r11 := r11.below hb
  have q12 := q12.below hb
  have r12 := r12.below hb
  have HB := hide (HB.out.trans (hb.mono HB.out.size))
  clear q11
  clear r11
  clear q12
  clear r12
  obtain ⟨w16, hW, be, hb, hs⟩ := start1 w15 27 #[.bool n13, .slice A13 l13 k13, .bool m13, .slice B13 j13 i13, .int .i64 0]
  clear hs
  have bp := bp.below hb bp.lt
  have bm := bm.below hb bm.lt
  have bd := bd.below hb bd.lt
  have q3 := q3.below hb
  have q4 := q4.below hb
  have q7 := q7.below hb
  have r7 := r7.below hb
  have q10 := q10.below hb
  have r10 := r10.below hb
  have HB := hide (HB.out.trans (hb.mono HB.out.size))
  go_upto_region 5 with (fail)
  rw [← hW]
  clear hW
  obtain ⟨a0, a1, a2, a3, a4, -⟩ := bp.five
  have HP0 := c_text (z := 1) q3.q (by omega) 1 rfl (by omega) (by omega)
  rw [tx_1] at HP0
  have HP := hide (HP0)
  go_wp2_with fail
  refine HP.out.mono ?_
  rintro e w17 ⟨hb, rfl⟩
  clear HP
  have bp := bp.below hb bp.lt
  have bm := bm.below hb bm.lt
  have bd := bd.below hb bd.lt
  have be := be.below hb be.lt
  have q3 := q3.below hb
  have q4 := q4.below hb
  have q7 := q7.below hb
  have r7 := r7.below hb
  have q10 := q10.below hb
  have r10 := r10.below hb
  have HB := hide (HB.out.trans (hb.mono HB.out.size))
  clear a0 a1 a2 a3 a4
  obtain ⟨a0, a1, a2, a3, a4, -⟩ := bp.five
  have HP0 := c_text (z := 2) q4.q (by omega) 2 rfl (by omega) (by omega)
  rw [tx_2] at HP0
  have HP := hide (HP0)
  go_wp2_with fail
  refine HP.out.mono ?_
  rintro e w18 ⟨hb, rfl⟩
  clear HP
  have bp := bp.below hb bp.lt
  have bm := bm.below hb bm.lt
  have bd := bd.below hb bd.lt
  have be := be.below hb be.lt
  have q3 := q3.below hb
  have q4 := q4.below hb
  have q7 := q7.below hb
  have r7 := r7.below hb
  have q10 := q10.below hb
  have r10 := r10.below hb
  have HB := hide (HB.out.trans (hb.mono HB.out.size))
  clear a0 a1 a2 a3 a4
  obtain ⟨a0, a1, a2, a3, a4, -⟩ := bm.five
  have HP0 := c_text (z := -4) q7.q (by omega) 4 rfl (by omega) (by omega)
  rw [tx_m4] at HP0
  have HP := hide (HP0)
  go_wp2_with fail
  refine HP.out.mono ?_
  rintro e w19 ⟨hb, rfl⟩
  clear HP
  have bp := bp.below hb bp.lt
  have bm := bm.below hb bm.lt
  have bd := bd.below hb bd.lt
  have be := be.below hb be.lt
  have q3 := q3.below hb
  have q4 := q4.below hb
  have q7 := q7.below hb
  have r7 := r7.below hb
  have q10 := q10.below hb
  have r10 := r10.below hb
  have HB := hide (HB.out.trans (hb.mono HB.out.size))
  clear a0 a1 a2 a3 a4
  obtain ⟨a0, a1, a2, a3, a4, -⟩ := bm.five
  have HP0 := c_text (z := 8) r7.q (by omega) 8 rfl (by omega) (by omega)
  rw [tx_8] at HP0
  have HP := hide (HP0)
  go_wp2_with fail
  refine HP.out.mono ?_
  rintro e w20 ⟨hb, rfl⟩
  clear HP
  have bp := bp.below hb bp.lt
  have bm := bm.below hb bm.lt
  have bd := bd.below hb bd.lt
  have be := be.below hb be.lt
  have q3 := q3.below hb
  have q4 := q4.below hb
  have q7 := q7.below hb
  have r7 := r7.below hb
  have q10 := q10.below hb
  have r10 := r10.below hb
  have HB := hide (HB.out.trans (hb.mono HB.out.size))
  clear a0 a1 a2 a3 a4
  obtain ⟨a0, a1, a2, a3, a4, -⟩ := bd.five
  have HP0 := c_text (z := 1) q10.q (by omega) 1 rfl (by omega) (by omega)
  rw [tx_1] at HP0
  have HP := hide (HP0)
  go_wp2_with fail
  refine HP.out.mono ?_
  rintro e w21 ⟨hb, rfl⟩
  clear HP
  have bp := bp.below hb bp.lt
  have bm := bm.below hb bm.lt
  have bd := bd.below hb bd.lt
  have be := be.below hb be.lt
  have q3 := q3.below hb
  have q4 := q4.below hb
  have q7 := q7.below hb
  have r7 := r7.below hb
  have q10 := q10.below hb
  have r10 := r10.below hb
  have HB := hide (HB.out.trans (hb.mono HB.out.size))
  clear a0 a1 a2 a3 a4
  obtain ⟨a0, a1, a2, a3, a4, -⟩ := bd.five
  have HP0 := c_text (z := 2) r10.q (by omega) 2 rfl (by omega) (by omega)
  rw [tx_2] at HP0
  have HP := hide (HP0)
  go_wp2_with fail
  refine HP.out.mono ?_
  rintro e w22 ⟨hb, rfl⟩
  clear HP
  have bp := bp.below hb bp.lt
  have bm := bm.below hb bm.lt
  have bd := bd.below hb bd.lt
  have be := be.below hb be.lt
  have q3 := q3.below hb
  have q4 := q4.below hb
  have q7 := q7.below hb
  have r7 := r7.below hb
  have q10 := q10.below hb
  have r10 := r10.below hb
  have HB := hide (HB.out.trans (hb.mono HB.out.size))
  clear a0 a1 a2 a3 a4
  go_wp2_with fail
  go_ret
  exact ⟨HB.out, rfl⟩
end Go.Proofs.YtnfbngiabdlclaaGreat

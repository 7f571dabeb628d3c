/- What law04's 'shown' comes to. Plain facts. law04's 'shown' is true. -/
import Derived.Test.YtnkembnachhicaaCons
section
set_option linter.unusedVariables false
namespace Go.Proofs.Ytnkembnachhicaa
open Go.RowKit
open L (val dig nth)

theorem cM_in {z x : Int} (h1 : -4000 ≤ x) (h2 : x ≤ 4000) : cM z x = z := by
  unfold cM
  by_cases hz : z = 0
  · subst hz; split <;> rfl
  · rw [if_neg (by omega)]
theorem cE_in {z x : Int} (h1 : -4000 ≤ x) (h2 : x ≤ 4000) (hz : z ≠ 0) : cE z x = x := by
  unfold cE; rw [if_neg (by omega)]
theorem nM_odd {z x : Int} (h1 : -4000 ≤ x) (h2 : x ≤ 4000) (ho : z.natAbs % 2 = 1) : nM z x = z := by
  unfold nM; rw [cM_in h1 h2]; exact nf_pM (x := x) (.inr ho)
theorem nE_odd {z x : Int} (h1 : -4000 ≤ x) (h2 : x ≤ 4000) (ho : z.natAbs % 2 = 1) : nE z x = x := by
  have hz : z ≠ 0 := by intro h; subst h; simp at ho
  unfold nE; rw [cM_in h1 h2, cE_in h1 h2 hz]; exact nf_pE (.inr ho)
theorem nM_pow {z x : Int} {n : Nat} (h1 : -4000 ≤ x) (h2 : x ≤ 4000) (ho : z.natAbs % 2 = 1) : nM (z * 2 ^ n) x = z := by
  unfold nM; rw [cM_in h1 h2, pM_pow]; exact nf_pM (x := x) (.inr ho)
theorem nE_pow {z x : Int} {n : Nat} (h1 : -4000 ≤ x) (h2 : x ≤ 4000) (ho : z.natAbs % 2 = 1) : nE (z * 2 ^ n) x = x + n := by
  have hz : z ≠ 0 := by intro h; subst h; simp at ho
  have hz2 : z * 2 ^ n ≠ 0 := fun h => by rcases Int.mul_eq_zero.1 h with h | h; exact hz h; exact pow_ne _ h
  unfold nE; rw [cM_in h1 h2, cE_in h1 h2 hz2, pE_of hz2, Int.natAbs_mul, natAbs_pow, tz_pow ho]
theorem pow52 : ((2 : Int) ^ 52) = 4503599627370496 := rfl

def one : Nat := 4607182418800017408
theorem one_lt : one < W := by unfold one W; omega
theorem fs_zero : fsB 0 = one := rfl
theorem fx_zero : fsX 0 = 0 := rfl
theorem one_fld : pFld one = 1023 := rfl
theorem one_frc : pFrc one = 0 := rfl
theorem one_neg : pNeg one = false := by unfold pNeg one; rw [decide_eq_false]; omega
theorem one_rM : rM one = 1 * 2 ^ 52 := by unfold rM; rw [one_fld, one_frc, one_neg, if_neg (by omega)]; rfl
theorem one_rE : rE one = -52 := by unfold rE; rw [one_fld, if_neg (by omega)]; rfl
theorem one_vM : vM one = 1 := by
  unfold vM; rw [one_fld, if_neg (by omega), one_rM, one_rE]; exact nM_pow (by omega) (by omega) (by rfl)
theorem one_vE : vE one = 0 := by
  unfold vE; rw [one_fld, if_neg (by omega), one_rM, one_rE, nE_pow (by omega) (by omega) (by rfl)]; rfl
theorem one_vX : vX one = 0 := by unfold vX; rw [one_fld, if_neg (by omega)]

/-- Of's pattern of a dyad in its normal form. -/
theorem oB1_of {z x m : Int} (h1 : -4000 ≤ x) (h2 : x ≤ 4000) (hz : z ≠ 0) (hm : x + nbits z.natAbs - 1 = m) (hb : ¬ ofBad z x m) : oB1 z x = ofPat z x m ∧ oX1 z x = 0 := by
  have hok : lgOk z x = true := by unfold lgOk; rw [cM_in h1 h2]; simpa using hz
  have hlg : lgN z x = m := by unfold lgN; rw [cM_in h1 h2, cE_in h1 h2 hz, if_neg hz]; exact hm
  unfold oB1 oX1
  rw [hok, hlg, if_neg (by simp), if_neg hb, if_neg (by simp), if_neg hb]
  exact ⟨rfl, rfl⟩
theorem dig_one {N : Nat} (h : N < W) : (dig W N).length ≤ 1 := by rw [L.dig_len W_gt, Nat.pow_one]; exact h
theorem nbits_3 : nbits 3 = 2 := nbits_eq (by omega) (.inr (by omega))
theorem nbits_1 : nbits 1 = 1 := nbits_eq (by omega) (.inr (by omega))
theorem lg_31 : (-1 : Int) + nbits (3 : Int).natAbs - 1 = 0 := by rw [show (3 : Int).natAbs = 3 from rfl, nbits_3]; rfl
theorem three_of : oB1 3 (-1) = 4609434218613702656 ∧ oX1 3 (-1) = 0 := by
  have h := oB1_of (z := 3) (x := -1) (m := 0) (by omega) (by omega) (by omega) lg_31 (by
    have := dig_one (N := (3 : Int).natAbs) (by unfold W; omega)
    unfold ofBad ofLow; omega)
  refine ⟨h.1.trans ?_, h.2⟩
  rfl
theorem one_of : oB1 1 0 = one ∧ oX1 1 0 = 0 := by
  have h := oB1_of (z := 1) (x := 0) (m := 0) (by omega) (by omega) (by omega) (by rw [show (1 : Int).natAbs = 1 from rfl, nbits_1]; rfl) (by
    have := dig_one (N := (1 : Int).natAbs) (by unfold W; omega)
    unfold ofBad ofLow; omega)
  refine ⟨h.1.trans ?_, h.2⟩
  rfl
theorem lg_one : lgN 1 0 = 0 := by
  unfold lgN; rw [cM_in (by omega) (by omega), cE_in (by omega) (by omega) (by omega), if_neg (by omega), show (1 : Int).natAbs = 1 from rfl, nbits_1]; rfl
theorem nr_ok : ¬ nrBad 1 0 := by
  unfold nrBad lgOk
  rw [lg_one, cM_in (by omega) (by omega)]
  simp
theorem nrM_one : nrM 1 0 = 1 * 2 ^ 52 := by
  unfold nrM; rw [lg_one, cM_in (by omega) (by omega), cE_in (by omega) (by omega) (by omega)]; rfl
theorem nrZ_one : nrZ 1 0 = 1 := by unfold nrZ; rw [nrM_one, lg_one]; exact nM_pow (by omega) (by omega) (by rfl)
theorem nrY_one : nrY 1 0 = 0 := by unfold nrY; rw [nrM_one, lg_one, nE_pow (by omega) (by omega) (by rfl)]; rfl
theorem near_one : nrB 1 0 = one ∧ nrX 1 0 = 0 := by
  unfold nrB nrX
  rw [if_neg nr_ok, if_neg nr_ok, nrZ_one, nrY_one, nM_odd (by omega) (by omega) (by rfl), nE_odd (by omega) (by omega) (by rfl)]
  exact one_of
theorem nM_3 : nM 3 (-1) = 3 := nM_odd (by omega) (by omega) (by rfl)
theorem nE_3 : nE 3 (-1) = -1 := nE_odd (by omega) (by omega) (by rfl)
end Go.Proofs.Ytnkembnachhicaa
end
section
set_option linter.unusedVariables false
namespace Go.Proofs.Ytnkembnachhicaa
open Go.RowKit
open L (val dig nth)

theorem txt_one : txt (decide ((1 : Int) < 0)) 1 = .string ⟨#[49]⟩ := rfl
theorem one_int : ((one : Nat) : Int) = 4607182418800017408 := rfl
set_option maxRecDepth 100000 in
theorem shown4_calls (w : World) : Calls Try.prog 21 #[] w fun e w' => Below w.heap.size w w' ∧ e = .returned (.bool true) := by
  go_enter Try.func21, Try.ntmps21
  go_wp2_with fail
  refine (first_calls w 0).mono ?_
  rw [fs_zero, fx_zero]
  rintro e w' ⟨rfl, rfl⟩
  have HP := c_value (w := w) one one_lt
  rw [one_vM, one_vE, one_vX] at HP
  go_wp2_with fail
  refine HP.mono ?_
  rintro e w1 ⟨hb1, n1, A1, len1, cap1, rfl, hq1⟩
  clear HP
  obtain ⟨w2, hW, hbx2, hB2, hs2⟩ := start1 w1 26 #[.bool n1, .slice A1 len1 cap1, .int .i64 0]
  have hq2 := hq1.below hB2
  have HB2 := hide (hb1.trans (hB2.mono hb1.size))
  have s1 := hb1.size
  have hs2' : w1.heap.size < w2.heap.size := by omega
  clear hs2
  go_upto_region 3 with (fail)
  rw [← hW]
  clear hW
  have HP := c_zof (w := w2) 3 (by omega) (by omega)
  go_wp2_with fail
  refine HP.mono ?_
  rintro e w3 ⟨hb3, n3, A3, len3, cap3, rfl, hq3⟩
  clear HP
  have hbx3 := hbx2.below hb3 hs2'
  have hq2 := hq2.below hb3
  have HB3 := hide (HB2.out.trans (hb3.mono (by omega)))
  have s3 := hb3.size
  have HP := c_of (x := -1) hq3 (by omega) (by omega) (by omega)
  rw [nM_3, nE_3] at HP
  go_wp2_with fail
  refine HP.mono ?_
  rintro e w4 ⟨hb4, n4, A4, len4, cap4, rfl, hq4⟩
  clear HP
  have hbx4 := hbx3.below hb4 (by omega)
  have hq2 := hq2.below hb4
  have HB4 := hide (HB3.out.trans (hb4.mono (by omega)))
  have s4 := hb4.size
  have HP := c_ofpat (x := -1) hq4 (by omega) (by omega) (by omega)
  rw [nM_3, nE_3, three_of.1, three_of.2] at HP
  go_wp2_with fail
  refine HP.mono ?_
  rintro e w5 ⟨hb5, rfl⟩
  clear HP
  have hbx5 := hbx4.below hb5 (by omega)
  have hq2 := hq2.below hb5
  have HB5 := hide (HB4.out.trans (hb5.mono (by omega)))
  have s5 := hb5.size
  have HP := c_zof (w := w5) 1 (by omega) (by omega)
  go_wp2_with fail
  refine HP.mono ?_
  rintro e w6 ⟨hb6, n6, A6, len6, cap6, rfl, hq6⟩
  clear HP
  have hbx6 := hbx5.below hb6 (by omega)
  have hq2 := hq2.below hb6
  have HB6 := hide (HB5.out.trans (hb6.mono (by omega)))
  have s6 := hb6.size
  have HP := c_near (x := 0) hq6 (by omega) (by omega) (by omega)
  rw [near_one.1, near_one.2] at HP
  go_wp2_with fail
  refine HP.mono ?_
  rintro e w7 ⟨hb7, rfl⟩
  clear HP
  have hbx7 := hbx6.below hb7 (by omega)
  have hq2 := hq2.below hb7
  have HB7 := hide (HB6.out.trans (hb7.mono (by omega)))
  have s7 := hb7.size
  obtain ⟨c0, c1, c2, -, -, -⟩ := hbx7.three
  have HP := c_text (z := 1) hq2 (by omega) 1 rfl (by omega) (by omega)
  rw [txt_one] at HP
  have h1 : (((one : Nat) : Int) == 4607182418800017408) = true := by rw [one_int]; rfl
  have h2 : IntKind.u64.wrap (((one : Nat) : Int) + 2251799813685248) = 4609434218613702656 := by rw [one_int]; rfl
  go_wp2_with fail
  refine HP.mono ?_
  rintro e w8 ⟨hb8, rfl⟩
  clear HP
  have hbx8 := hbx7.below hb8 (by omega)
  have HB8 := hide (HB7.out.trans (hb8.mono (by omega)))
  obtain ⟨d0, d1, d2, -, -, -⟩ := hbx8.three
  go_wp2_with fail
  go_ret
  exact ⟨HB8.out, rfl⟩
end Go.Proofs.Ytnkembnachhicaa
end

/- law04's 'shown' is true. -/
import Derived.Test.YtnkembnachhicaaSee4
set_option linter.unusedVariables false
namespace Go.Proofs.Ytnkembnachhicaa
open Go.RowKit
open L (val dig nth)

theorem txt_one : txt (decide ((1 : Int) < 0)) 1 = .string ⟨#[49]⟩ := rfl
theorem one_int : ((one : Nat) : Int) = 4607182418800017408 := rfl
set_option maxRecDepth 100000 in
theorem shown4_calls (w : World) : Calls Try.prog 21 #[] w fun e w' => Below w.heap.size w w' ∧ e = .returned (.bool true) := by
  go_enter Try.func21, Try.ntmps21
  go_wp2_with fail
  refine (first_calls w 0).mono ?_
  rw [fs_zero, fx_zero]
  rintro e w' ⟨rfl, rfl⟩
  have HP := c_value (w := w) one one_lt
  rw [one_vM, one_vE, one_vX] at HP
  go_wp2_with fail
  refine HP.mono ?_
  rintro e w1 ⟨hb1, n1, A1, len1, cap1, rfl, hq1⟩
  clear HP
  obtain ⟨w2, hW, hbx2, hB2, hs2⟩ := start1 w1 26 #[.bool n1, .slice A1 len1 cap1, .int .i64 0]
  have hq2 := hq1.below hB2
  have HB2 := hide (hb1.trans (hB2.mono hb1.size))
  have s1 := hb1.size
  have hs2' : w1.heap.size < w2.heap.size := by omega
  clear hs2
  go_upto_region 3 with (fail)
  rw [← hW]
  clear hW
  have HP := c_zof (w := w2) 3 (by omega) (by omega)
  go_wp2_with fail
  refine HP.mono ?_
  rintro e w3 ⟨hb3, n3, A3, len3, cap3, rfl, hq3⟩
  clear HP
  have hbx3 := hbx2.below hb3 hs2'
  have hq2 := hq2.below hb3
  have HB3 := hide (HB2.out.trans (hb3.mono (by omega)))
  have s3 := hb3.size
  have HP := c_of (x := -1) hq3 (by omega) (by omega) (by omega)
  rw [nM_3, nE_3] at HP
  go_wp2_with fail
  refine HP.mono ?_
  rintro e w4 ⟨hb4, n4, A4, len4, cap4, rfl, hq4⟩
  clear HP
  have hbx4 := hbx3.below hb4 (by omega)
  have hq2 := hq2.below hb4
  have HB4 := hide (HB3.out.trans (hb4.mono (by omega)))
  have s4 := hb4.size
  have HP := c_ofpat (x := -1) hq4 (by omega) (by omega) (by omega)
  rw [nM_3, nE_3, three_of.1, three_of.2] at HP
  go_wp2_with fail
  refine HP.mono ?_
  rintro e w5 ⟨hb5, rfl⟩
  clear HP
  have hbx5 := hbx4.below hb5 (by omega)
  have hq2 := hq2.below hb5
  have HB5 := hide (HB4.out.trans (hb5.mono (by omega)))
  have s5 := hb5.size
  have HP := c_zof (w := w5) 1 (by omega) (by omega)
  go_wp2_with fail
  refine HP.mono ?_
  rintro e w6 ⟨hb6, n6, A6, len6, cap6, rfl, hq6⟩
  clear HP
  have hbx6 := hbx5.below hb6 (by omega)
  have hq2 := hq2.below hb6
  have HB6 := hide (HB5.out.trans (hb6.mono (by omega)))
  have s6 := hb6.size
  have HP := c_near (x := 0) hq6 (by omega) (by omega) (by omega)
  rw [near_one.1, near_one.2] at HP
  go_wp2_with fail
  refine HP.mono ?_
  rintro e w7 ⟨hb7, rfl⟩
  clear HP
  have hbx7 := hbx6.below hb7 (by omega)
  have hq2 := hq2.below hb7
  have HB7 := hide (HB6.out.trans (hb7.mono (by omega)))
  have s7 := hb7.size
  obtain ⟨c0, c1, c2, -, -, -⟩ := hbx7.three
  have HP := c_text (z := 1) hq2 (by omega) 1 rfl (by omega) (by omega)
  rw [txt_one] at HP
  have h1 : (((one : Nat) : Int) == 4607182418800017408) = true := by rw [one_int]; rfl
  have h2 : IntKind.u64.wrap (((one : Nat) : Int) + 2251799813685248) = 4609434218613702656 := by rw [one_int]; rfl
  go_wp2_with fail
  refine HP.mono ?_
  rintro e w8 ⟨hb8, rfl⟩
  clear HP
  have hbx8 := hbx7.below hb8 (by omega)
  have HB8 := hide (HB7.out.trans (hb8.mono (by omega)))
  obtain ⟨d0, d1, d2, -, -, -⟩ := hbx8.three
  go_wp2_with fail
  go_ret
  exact ⟨HB8.out, rfl⟩
end Go.Proofs.Ytnkembnachhicaa

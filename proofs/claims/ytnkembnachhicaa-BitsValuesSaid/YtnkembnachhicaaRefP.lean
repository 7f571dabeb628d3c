/- The document's patterns: Parts Normal Binade. The document's patterns: Value. -/
import Derived.Test.YtnkembnachhicaaRefDC
import Derived.Test.YtnkembnachhicaaPats
section
set_option linter.unusedVariables false
set_option linter.unusedSimpArgs false
namespace Go.Proofs.Ytnkembnachhicaa
open Go.RowKit
open L (val dig nth)

theorem partsPR_calls (w : World) (b : Nat) (hb : b < W) :
    Calls Try.prog 25 #[.int .u64 b] w fun e w' => w = w' ∧ e = .returned (.tuple #[.bool (pNeg b), .int .i64 (pFld b : Nat), .int .u64 (pFrc b : Nat)]) := by
  unfold W at hb
  have h11 : bits .and .u64 ((b : Int) / 4503599627370496) 2047 = (pFld b : Nat) := by
    have h := bits_and_u64_nat (b / 4503599627370496) 2047 (by omega) (by omega)
    have e : (b / 4503599627370496) &&& 2047 = (b / 4503599627370496) % 2048 := Nat.and_two_pow_sub_one_eq_mod _ 11
    rw [e] at h
    exact h
  have hw : IntKind.i64.wrap (pFld b : Nat) = (pFld b : Nat) := IntWalk.i64_in _ (by unfold pFld; omega)
  go_enter Try.func25, Try.ntmps25
  go_wp2_with fail
  go_ret3
  refine ⟨rfl, ?_⟩
  have e1 : ((b : Int) / 9223372036854775808 == 1) = pNeg b := by
    unfold pNeg
    by_cases h : 9223372036854775808 ≤ b
    · rw [decide_eq_true h, beq_iff_eq]; omega
    · rw [decide_eq_false h, beq_eq_false_iff_ne]; omega
  have e2 : (b : Int) % 4503599627370496 = (pFrc b : Nat) := by unfold pFrc; omega
  simp [e1, e2]
set_option maxRecDepth 100000 in
theorem normalPR_calls (w : World) (b : Nat) (hb : b < W) : Calls Try.prog 31 #[.int .u64 b] w fun e w' => w = w' ∧ e = .returned (.bool (pNorm b)) := by
  go_enter Try.func31, Try.ntmps31
  go_wp2_with fail
  refine (partsPR_calls _ b hb).mono ?_
  rintro e w1 ⟨rfl, rfl⟩
  have hf := pFld_lt b
  by_cases h0 : pFld b = 0
  · have h0p : ¬ 0 < pFld b := by omega
    have HN : Hid (pNorm b = false) := hide (by unfold pNorm; simp [h0])
    clear h0
    go_wp2_with fail
    go_ret
    exact ⟨rfl, ret_bool HN.out.symm⟩
  · have h0p : 0 < pFld b := by omega
    have HN : Hid (pNorm b = decide (((pFld b : Nat) : Int) < 2047)) := hide (by
      unfold pNorm
      by_cases h : pFld b = 2047
      · rw [decide_eq_false (show ¬ (((pFld b : Nat) : Int) < 2047) by omega)]; simp [h]
      · rw [decide_eq_true (show ((pFld b : Nat) : Int) < 2047 by omega)]; simp [h0, h])
    clear h0
    go_wp2_with fail
    go_ret
    exact ⟨rfl, ret_bool HN.out.symm⟩
theorem binadePR_calls (w : World) (b : Nat) (hb : b < W) : Calls Try.prog 29 #[.int .u64 b] w fun e w' => w = w' ∧ e = .returned (.tuple #[.int .i64 (bnE b), .int .i64 (bnX b)]) := by
  go_enter Try.func29, Try.ntmps29
  go_wp2_with fail
  refine (normalPR_calls _ b hb).mono ?_
  rintro e w1 ⟨rfl, rfl⟩
  obtain ⟨p, HP⟩ : ∃ p, Hid (pNorm b = p) := ⟨_, hide rfl⟩
  rw [HP.out]
  have hf := pFld_lt b
  cases p with
  | false =>
    go_wp2_with fail
    go_ret2
    refine ⟨rfl, ?_⟩
    rw [show bnE b = 0 from by unfold bnE; rw [HP.out]; rfl, show bnX b = 1 from by unfold bnX; rw [HP.out]; rfl]
    rfl
  | true =>
    go_wp2_with fail
    refine (partsPR_calls _ b hb).mono ?_
    rintro e w1 ⟨rfl, rfl⟩
    have hw : IntKind.i64.wrap ((pFld b : Nat) - 1023 : Int) = (pFld b : Nat) - 1023 := IntWalk.i64_in _ (by omega)
    go_wp2_with fail
    go_ret2
    refine ⟨rfl, ?_⟩
    rw [show bnE b = (pFld b : Int) - 1023 from by unfold bnE; rw [HP.out]; rfl, show bnX b = 0 from by unfold bnX; rw [HP.out]; rfl]
    rfl
end Go.Proofs.Ytnkembnachhicaa
end
section
set_option linter.unusedVariables false
set_option linter.unusedSimpArgs false
namespace Go.Proofs.Ytnkembnachhicaa
open Go.RowKit
open L (val dig nth)

set_option maxRecDepth 100000 in
theorem valuePR_calls (w : World) (b : Nat) (hb : b < W) :
    Calls Try.prog 26 #[.int .u64 b] w fun e w' => Below w.heap.size w w' ∧ RetQX w.heap.size (vM b) (vE b) (vX b) e w' := by
  obtain ⟨W0, hW, hrs, hB0, hs⟩ := start1 w 26 #[.bool false, .slice none 0 0, .int .i64 0]
  have HS := hide hs
  have hs2 : w.heap.size < W0.heap.size := by omega
  clear hs
  obtain ⟨c0, c1, c2, c3, c4, c5⟩ := hrs.three
  go_enter Try.func26, Try.ntmps26
  go_upto_region 1 with (fail)
  rw [← hW]
  clear hW
  go_wp2_with fail
  refine (partsPR_calls _ b hb).mono ?_
  rintro e w1 ⟨rfl, rfl⟩
  have hf := pFld_lt b
  by_cases h7 : pFld b = 2047
  · have h7' : (((pFld b : Nat) : Int) == 2047) = true := by rw [beq_iff_eq]; omega
    have E1 : Hid (vM b = 0) := hide (by unfold vM; rw [if_pos h7])
    have E2 : Hid (vE b = 0) := hide (by unfold vE; rw [if_pos h7])
    have E3 : Hid (vX b = 1) := hide (by unfold vX; rw [if_pos h7])
    clear h7
    go_wp2_with fail
    rw [E1.out, E2.out, E3.out]
    refine bodyPost_ret (results_dyad_tmp rfl _ _ _ _ _ _ _ rfl (((hrs.set_ 0 _).set_ 1 _).set_ 2 _)) rfl ⟨below3 hB0 (by omega) _ _ _, ?_⟩
    exact ⟨_, [], rfl, Nums.nil _ _, (L.dig_zero W).symm⟩
  · have h7' : (((pFld b : Nat) : Int) == 2047) = false := by rw [beq_eq_false_iff_ne]; omega
    have E1 : Hid (vM b = nM (rM b) (rE b)) := hide (by unfold vM; rw [if_neg h7])
    have E2 : Hid (vE b = nE (rM b) (rE b)) := hide (by unfold vE; rw [if_neg h7])
    have E3 : Hid (vX b = 0) := hide (by unfold vX; rw [if_neg h7])
    have hfr : pFrc b < 4503599627370496 := Nat.mod_lt _ (by omega)
    clear h7
    go_upto_region 5 with (fail)
    obtain ⟨W1, hW1, harr, hbm, hB1, hs1⟩ := start2 W0 32 24 #[.int .u64 (pFrc b : Nat)] #[.bool (pNeg b), .slice (some ⟨W0.heap.size, 0, none⟩) 1 1]
    have hone : Nums W1 0 (.slice (some ⟨W0.heap.size, 0, none⟩) 1 1) [pFrc b] := by
      rw [hW1]
      exact ((Nums.one W0 (pFrc b : Nat) (pFrc b) rfl (by unfold W; omega)).up ((Below.refl _ _).alloc (Nat.le_refl _) _)).mono (Nat.zero_le _)
    rw [← hW1]
    have hrs1 := hrs.below hB1 hrs.lt
    have hs3 : w.heap.size < W1.heap.size := by omega
    have HB1 := hide (hB0.trans (hB1.mono hB0.size))
    obtain ⟨b0, b1, -, -⟩ := hbm.two
    clear hW1 hs1
    by_cases h0 : pFld b = 0
    · have h0' : (((pFld b : Nat) : Int) == 0) = true := by rw [beq_iff_eq]; omega
      have E4 : Hid (rM b = ival (pNeg b) (pFrc b)) := hide (by unfold rM; rw [if_pos h0])
      have E5 : Hid (rE b = -1074) := hide (by unfold rE; rw [if_pos h0])
      clear h0
      have HP := ofDR_calls W1 (pNeg b) 0 _ [pFrc b] (-1074) hone (by simp) (by omega) (by omega)
      rw [show val W [pFrc b] = pFrc b from by simp [L.val], ← E4.out] at HP
      obtain ⟨zM, HM⟩ : ∃ zM, Hid (nM (rM b) (-1074) = zM) := ⟨_, hide rfl⟩
      obtain ⟨zE, HE⟩ : ∃ zE, Hid (nE (rM b) (-1074) = zE) := ⟨_, hide rfl⟩
      rw [HM.out, HE.out] at HP
      go_wp2_with fail
      refine HP.mono ?_
      rintro e w2 ⟨hb2, u2, d2, rfl, hu2, hd2⟩
      have hrs2 := hrs1.below hb2 hrs1.lt
      obtain ⟨A2, cap2, rfl⟩ := hu2.form
      obtain ⟨j0, j1, j2, j3, j4, j5⟩ := hrs2.three
      clear HP
      go_wp2_with fail
      rw [E1.out, E2.out, E3.out, E5.out, HM.out, HE.out]
      refine bodyPost_ret (results_dyad_tmp rfl _ _ _ _ _ _ _ rfl (((hrs2.set_ 0 _).set_ 1 _).set_ 2 _)) rfl ⟨below3 (HB1.out.trans (hb2.mono HB1.out.size)) (by omega) _ _ _, ?_⟩
      exact ⟨_, d2, rfl, (nums_low3 hu2 (by omega) _ _ _).mono (by omega), hd2⟩
    · have h0' : (((pFld b : Nat) : Int) == 0) = false := by rw [beq_eq_false_iff_ne]; omega
      have E4 : Hid (rM b = ival (pNeg b) (pFrc b + 4503599627370496)) := hide (by unfold rM; rw [if_neg h0])
      have E5 : Hid (rE b = (pFld b : Int) - 1075) := hide (by unfold rE; rw [if_neg h0])
      clear h0
      have hww : IntKind.i64.wrap ((pFld b : Nat) - 1075 : Int) = (pFld b : Nat) - 1075 := IntWalk.i64_in _ (by omega)
      have hwu : IntKind.u64.wrap ((pFrc b : Nat) + 4503599627370496 : Int) = ((pFrc b + 4503599627370496 : Nat) : Int) := by rw [IntKind.wrap_u64]; omega
      obtain ⟨y, HY⟩ : ∃ y, Hid (pFrc b + 4503599627370496 = y) := ⟨_, hide rfl⟩
      have hyW : y < W := by rw [← HY.out]; unfold W; omega
      rw [HY.out] at E4 hwu
      have hfz := harr.frozen 0
      have hc0 := harr.cell_ 0 (v := .int .u64 (pFrc b : Nat)) rfl
      obtain ⟨W2, hW2⟩ : ∃ W2, W2 = W1.setCell ⟨W0.heap.size, 0, none⟩ (.int .u64 (y : Nat)) := ⟨_, rfl⟩
      have harr2 : Out W2 W0.heap.size [y] := by rw [hW2]; exact harr.set_ 0 _
      have hone2 : Nums W2 0 (.slice (some ⟨W0.heap.size, 0, none⟩) 1 1) [y] := harr2.nums (Nat.zero_le _) (by simp) (by simpa using hyW)
      have hneA : W0.heap.size + 1 ≠ W0.heap.size := by omega
      have hneB : w.heap.size ≠ W0.heap.size := by omega
      have hbm2 : Blk W2 (W0.heap.size + 1) 24 #[.bool (pNeg b), .slice (some ⟨W0.heap.size, 0, none⟩) 1 1] := by rw [hW2]; exact hbm.far hneA _
      have hrs2 : Blk W2 w.heap.size 26 #[.bool false, .slice none 0 0, .int .i64 0] := by rw [hW2]; exact hrs1.far hneB _
      have HB2 : Hid (Below w.heap.size w W2) := hide (by rw [hW2]; exact HB1.out.setCell (p := ⟨W0.heap.size, 0, none⟩) (by show w.heap.size ≤ W0.heap.size; omega) _)
      have hs4 : w.heap.size < W2.heap.size := hrs2.lt
      go_upto_region 8 with (fail)
      rw [← hW2]
      clear hW2 b0 b1 hfz hc0
      obtain ⟨b0, b1, -, -⟩ := hbm2.two
      have HP := ofDR_calls W2 (pNeg b) 0 _ [y] ((pFld b : Int) - 1075) hone2 (by simp) (by omega) (by omega)
      rw [show val W [y] = y from by simp [L.val], show ival (pNeg b) y = rM b from by rw [E4.out, ← HY.out]] at HP
      obtain ⟨zM, HM⟩ : ∃ zM, Hid (nM (rM b) ((pFld b : Int) - 1075) = zM) := ⟨_, hide rfl⟩
      obtain ⟨zE, HE⟩ : ∃ zE, Hid (nE (rM b) ((pFld b : Int) - 1075) = zE) := ⟨_, hide rfl⟩
      rw [HM.out, HE.out] at HP
      go_wp2_with fail
      refine HP.mono ?_
      rintro e w2 ⟨hb2, u2, d2, rfl, hu2, hd2⟩
      have hrs3 := hrs2.below hb2 hrs2.lt
      obtain ⟨A2, cap2, rfl⟩ := hu2.form
      obtain ⟨j0, j1, j2, j3, j4, j5⟩ := hrs3.three
      clear HP
      go_wp2_with fail
      rw [E1.out, E2.out, E3.out, E5.out, HM.out, HE.out]
      refine bodyPost_ret (results_dyad_tmp rfl _ _ _ _ _ _ _ rfl (((hrs3.set_ 0 _).set_ 1 _).set_ 2 _)) rfl ⟨below3 (HB2.out.trans (hb2.mono HB2.out.size)) (by omega) _ _ _, ?_⟩
      exact ⟨_, d2, rfl, (nums_low3 hu2 (by omega) _ _ _).mono (by omega), hd2⟩
end Go.Proofs.Ytnkembnachhicaa
end

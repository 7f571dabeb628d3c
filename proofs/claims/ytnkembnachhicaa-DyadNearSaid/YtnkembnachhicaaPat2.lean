/- bits: Value. -/
import Derived.Test.YtnkembnachhicaaPat
set_option linter.unusedVariables false
namespace Go.Proofs.Ytnkembnachhicaa
open Go.RowKit
open L (val dig nth)

/-- A dyad and an error number are handed back. -/
def RetQX (B : Nat) (z x er : Int) (e : Ending) (w : World) : Prop := ∃ u d, e = .returned (.tuple #[.agg #[.bool (decide (z < 0)), u, .int .i64 x], .int .i64 er]) ∧ Nums w B u d ∧ Canon d z.natAbs
/-- A pattern's integer and exponent, as they stand in it. -/
def rM (b : Nat) : Int := ival (pNeg b) (if pFld b = 0 then pFrc b else pFrc b + 4503599627370496)
def rE (b : Nat) : Int := if pFld b = 0 then -1074 else (pFld b : Int) - 1075
def vM (b : Nat) : Int := if pFld b = 2047 then 0 else nM (rM b) (rE b)
def vE (b : Nat) : Int := if pFld b = 2047 then 0 else nE (rM b) (rE b)
def vX (b : Nat) : Int := if pFld b = 2047 then 1 else 0
theorem or52 (a : Nat) (ha : a < 4503599627370496) : bits .or .u64 (a : Int) 4503599627370496 = ((a + 4503599627370496 : Nat) : Int) := by
  have h := bits_or_u64_nat a 4503599627370496 (by omega) (by omega)
  have e := or_add a 1 52 (by omega)
  rw [Nat.one_mul] at e
  rw [show (2 ^ 52 : Nat) = 4503599627370496 from rfl] at e
  rw [e] at h
  exact h

set_option maxRecDepth 100000 in
theorem value_calls (w : World) (b : Nat) (hb : b < W) :
    Calls Try.prog 22 #[.int .u64 b] w fun e w' => Below w.heap.size w w' ∧ RetQX w.heap.size (vM b) (vE b) (vX b) e w' := by
  obtain ⟨W0, hW, hrs, hB0, hs⟩ := start1 w 26 #[.bool false, .slice none 0 0, .int .i64 0]
  have HS := hide hs
  have hs2 : w.heap.size < W0.heap.size := by omega
  clear hs
  obtain ⟨c0, c1, c2, c3, c4, c5⟩ := hrs.three
  go_enter Try.func22, Try.ntmps22
  go_upto_region 1 with (fail)
  rw [← hW]
  clear hW
  go_wp2_with fail
  refine (parts_calls _ b hb).mono ?_
  rintro e w1 ⟨rfl, rfl⟩
  have hf := pFld_lt b
  have hw1 : IntKind.i64.wrap ((pFld b : Nat) - 1023 : Int) = (pFld b : Nat) - 1023 := IntWalk.i64_in _ (by omega)
  have hw2 : IntKind.i64.wrap ((pFld b : Nat) - 1023 - 52 : Int) = (pFld b : Nat) - 1075 := by rw [IntWalk.i64_in _ (by omega)]; omega
  by_cases h7 : pFld b = 2047
  · have h7' : (((pFld b : Nat) : Int) == 2047) = true := by rw [beq_iff_eq]; omega
    have E1 : Hid (vM b = 0) := hide (by unfold vM; rw [if_pos h7])
    have E2 : Hid (vE b = 0) := hide (by unfold vE; rw [if_pos h7])
    have E3 : Hid (vX b = 1) := hide (by unfold vX; rw [if_pos h7])
    clear h7
    go_wp2_with fail
    rw [E1.out, E2.out, E3.out]
    refine bodyPost_ret (results_dyad_tmp rfl _ _ _ _ _ _ _ rfl (((hrs.set_ 0 _).set_ 1 _).set_ 2 _)) rfl ⟨below3 hB0 (by omega) _ _ _, ?_⟩
    exact ⟨_, [], rfl, Nums.nil _ _, (L.dig_zero W).symm⟩
  · have h7' : (((pFld b : Nat) : Int) == 2047) = false := by rw [beq_eq_false_iff_ne]; omega
    have E1 : Hid (vM b = nM (rM b) (rE b)) := hide (by unfold vM; rw [if_neg h7])
    have E2 : Hid (vE b = nE (rM b) (rE b)) := hide (by unfold vE; rw [if_neg h7])
    have E3 : Hid (vX b = 0) := hide (by unfold vX; rw [if_neg h7])
    have hfr : pFrc b < 4503599627370496 := Nat.mod_lt _ (by omega)
    have hor := or52 (pFrc b) hfr
    clear h7
    by_cases h0 : pFld b = 0
    · have h0' : (((pFld b : Nat) : Int) == 0) = true := by rw [beq_iff_eq]; omega
      have E4 : Hid (rM b = ival (pNeg b) (pFrc b)) := hide (by unfold rM; rw [if_pos h0])
      have E5 : Hid (rE b = -1074) := hide (by unfold rE; rw [if_pos h0])
      clear h0
      go_wp2_with fail
      have hone := Nums.one W0 (pFrc b : Nat) (pFrc b) rfl (by unfold W; omega)
      have HP := of_dyad_calls _ (pNeg b) 0 _ [pFrc b] (-1074) hone (by simp) (by omega) (by omega)
      rw [show val W [pFrc b] = pFrc b from by simp [L.val], ← E4.out] at HP
      obtain ⟨zM, HM⟩ : ∃ zM, Hid (nM (rM b) (-1074) = zM) := ⟨_, hide rfl⟩
      obtain ⟨zE, HE⟩ : ∃ zE, Hid (nE (rM b) (-1074) = zE) := ⟨_, hide rfl⟩
      rw [HM.out, HE.out] at HP
      refine HP.mono ?_
      clear hone
      rintro e w2 ⟨hb2, u2, d2, rfl, hu2, hd2⟩
      have hrs2 := (hrs.alloc (.cells #[.int .u64 (pFrc b : Nat)] 32)).below hb2 (by simp; omega)
      obtain ⟨A2, cap2, rfl⟩ := hu2.form
      obtain ⟨j0, j1, j2, j3, j4, j5⟩ := hrs2.three
      clear HP
      go_wp2_with fail
      have s2 := hb2.size
      simp at s2
      rw [E1.out, E2.out, E3.out, E5.out, HM.out, HE.out]
      refine bodyPost_ret (results_dyad_tmp rfl _ _ _ _ _ _ _ rfl (((hrs2.set_ 0 _).set_ 1 _).set_ 2 _)) rfl ⟨below3 ((hB0.alloc (by omega) (.cells #[.int .u64 (pFrc b : Nat)] 32)).trans (hb2.mono (by simp; omega))) (by omega) _ _ _, ?_⟩
      exact ⟨_, d2, rfl, (nums_low3 hu2 (by simp; omega) _ _ _).mono (by simp; omega), hd2⟩
    · have h0' : (((pFld b : Nat) : Int) == 0) = false := by rw [beq_eq_false_iff_ne]; omega
      have E4 : Hid (rM b = ival (pNeg b) (pFrc b + 4503599627370496)) := hide (by unfold rM; rw [if_neg h0])
      have E5 : Hid (rE b = (pFld b : Int) - 1075) := hide (by unfold rE; rw [if_neg h0])
      clear h0
      go_wp2_with fail
      have hone := Nums.one W0 ((pFrc b + 4503599627370496 : Nat) : Int) (pFrc b + 4503599627370496) rfl (by unfold W; omega)
      have HP := of_dyad_calls _ (pNeg b) 0 _ [pFrc b + 4503599627370496] ((pFld b : Int) - 1075) hone (by simp) (by omega) (by omega)
      rw [show val W [pFrc b + 4503599627370496] = pFrc b + 4503599627370496 from by simp [L.val], ← E4.out] at HP
      obtain ⟨zM, HM⟩ : ∃ zM, Hid (nM (rM b) ((pFld b : Int) - 1075) = zM) := ⟨_, hide rfl⟩
      obtain ⟨zE, HE⟩ : ∃ zE, Hid (nE (rM b) ((pFld b : Int) - 1075) = zE) := ⟨_, hide rfl⟩
      rw [HM.out, HE.out] at HP
      refine HP.mono ?_
      clear hone
      rintro e w2 ⟨hb2, u2, d2, rfl, hu2, hd2⟩
      have hrs2 := (hrs.alloc (.cells #[.int .u64 ((pFrc b + 4503599627370496 : Nat) : Int)] 32)).below hb2 (by simp; omega)
      obtain ⟨A2, cap2, rfl⟩ := hu2.form
      obtain ⟨j0, j1, j2, j3, j4, j5⟩ := hrs2.three
      clear HP
      go_wp2_with fail
      have s2 := hb2.size
      simp at s2
      rw [E1.out, E2.out, E3.out, E5.out, HM.out, HE.out]
      refine bodyPost_ret (results_dyad_tmp rfl _ _ _ _ _ _ _ rfl (((hrs2.set_ 0 _).set_ 1 _).set_ 2 _)) rfl ⟨below3 ((hB0.alloc (by omega) (.cells #[.int .u64 ((pFrc b + 4503599627370496 : Nat) : Int)] 32)).trans (hb2.mono (by simp; omega))) (by omega) _ _ _, ?_⟩
      exact ⟨_, d2, rfl, (nums_low3 hu2 (by simp; omega) _ _ _).mono (by simp; omega), hd2⟩
end Go.Proofs.Ytnkembnachhicaa

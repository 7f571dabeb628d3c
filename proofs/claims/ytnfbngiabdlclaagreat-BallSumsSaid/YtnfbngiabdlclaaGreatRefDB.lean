/- The document's dyads: Floor Ceil. The document's dyads: Neg Shift. The document's dyads: Mul. -/
import Derived.Test.YtnfbngiabdlclaaGreatRefDA
import Derived.Test.YtnfbngiabdlclaaGreatLaws
section
set_option linter.unusedVariables false
set_option linter.unusedSimpArgs false
namespace Go.Proofs.YtnfbngiabdlclaaGreat
open Go.RowKit
open L (val dig nth)

theorem nE_ge (z x : Int) : -4000 ≤ nE z x := by
  have := cE_bounds z x
  unfold nE pE; split <;> omega
theorem sv_norm {K : Nat} (hK : 4000 ≤ K) (z x : Int) : sv K (nM z x) (nE z x) = av K z x := by
  have := cE_bounds z x
  unfold nM nE av; exact sv_plain K _ _ (by omega)
theorem scF_norm {K : Nat} (hK : 4000 ≤ K) (z x p : Int) : scF (nM z x) (nE z x + p) = vFloor K (av K z x) p := by
  have := nE_ge z x
  rw [scF_sv K _ _ _ (by omega), sv_norm hK]
theorem scC_norm {K : Nat} (hK : 4000 ≤ K) (z x p : Int) : -scF (-nM z x) (nE z x + p) = vCeil K (av K z x) p := by
  have := nE_ge z x
  rw [scF_sv K _ _ _ (by omega), sv_neg, sv_norm hK]; rfl
theorem nE_le {z x : Int} {k : Nat} (hz : z.natAbs < W ^ k) : nE z x ≤ 4000 + 64 * k := by
  have h := cE_bounds z x
  have h2 := tz_le _ _ (by have := Nat.lt_of_le_of_lt (cM_le z x) hz; rwa [W_pow] at this)
  unfold nE pE; split <;> omega

theorem scF_lt_any {m e : Int} {k t : Nat} (hm : m.natAbs < W ^ k) (he : e ≤ 64 * t) : (scF m e).natAbs < W ^ (k + t) := by
  unfold scF
  split
  · exact up_lt hm (by omega)
  · exact Nat.lt_of_le_of_lt (Int.natAbs_ediv_le_natAbs _ _) (Nat.lt_of_lt_of_le hm (Nat.pow_le_pow_right W_pos (by omega)))
set_option maxRecDepth 100000 in
theorem floorDR_calls (w : World) (n : Bool) (B : Nat) (v : Value) (l : List Nat) (x q : Int) (K : Nat) (h : Nums w B v l) (hl : l.length ≤ 1000) (hx0 : -9223372036854775808 ≤ x) (hx1 : x ≤ 9223372036854775807) (hK : 4000 ≤ K) :
    Calls Tryz.prog 57 #[.agg #[.bool n, v, .int .i64 x], .int .i64 q] w fun e w' => Below w.heap.size w w' ∧ RetZ w.heap.size (vFloor K (av K (ival n (val W l)) x) (nearZ q)) e w' := by
  have h0 := h
  have hlt0 := h.lt
  obtain ⟨A, cap, rfl, -, -, -, hc⟩ := h
  obtain ⟨W0, hW, hbx, hrs, hB0, hs⟩ := start2 w 34 25 #[.bool n, .slice A l.length cap, .int .i64 x] #[.bool false, .slice none 0 0]
  have h1 := h0.up hB0
  have hs2 : w.heap.size + 1 < W0.heap.size := by omega
  have hne1 : ¬ (w.heap.size = w.heap.size + 1) := by omega
  have hne2 : ¬ (w.heap.size + 1 = w.heap.size) := by omega
  clear hs hc
  have HP := countsR_calls W0 n B _ l x h1 (by omega) hx0 hx1
  obtain ⟨z, HZ⟩ : ∃ z, Hid (ival n (val W l) = z) := ⟨_, hide rfl⟩
  have HLN : Hid (z.natAbs < W ^ l.length) := hide (by rw [← HZ.out]; exact natAbs_lt hlt0)
  rw [HZ.out] at HP ⊢
  have hnq := nearZ_bounds q
  have hE1 := nE_ge z x
  have hE2 := nE_le (x := x) HLN.out
  have hR := scF_norm hK z x (nearZ q)
  obtain ⟨M, HM⟩ : ∃ m, Hid (nM z x = m) := ⟨_, hide rfl⟩
  obtain ⟨E, HE⟩ : ∃ m, Hid (nE z x = m) := ⟨_, hide rfl⟩
  obtain ⟨p, HPP⟩ : ∃ m, Hid (nearZ q = m) := ⟨_, hide rfl⟩
  rw [HM.out, HE.out] at HP
  rw [HE.out] at hE1 hE2
  rw [HPP.out] at hnq ⊢
  rw [HM.out, HE.out, HPP.out] at hR
  obtain ⟨R, HR⟩ : ∃ m, Hid (vFloor K (av K z x) p = m) := ⟨_, hide rfl⟩
  rw [HR.out] at hR ⊢
  have HRR := hide hR
  clear hR
  have hww : IntKind.i64.wrap (E + p) = E + p := IntWalk.i64_in _ (by omega)
  obtain ⟨c0, c1, c2, -, -, -⟩ := hbx.three
  go_enter Tryz.func57, Tryz.ntmps57
  go_upto_region 1 with (fail)
  rw [← hW]
  clear hW hlt0
  go_wp2_with fail
  refine HP.mono ?_
  rintro e w1 ⟨hb1, u, d, rfl, hu, hd⟩
  obtain ⟨A1, cap1, rfl⟩ := hu.form
  have hdl : d.length ≤ l.length := by rw [hd.len, ← HM.out]; exact nM_lt HLN.out
  clear HP c0 c1 c2
  have hbx1 := hbx.below hb1 hbx.lt
  have hrs1 := hrs.below hb1 hrs.lt
  have s1 := hb1.size
  obtain ⟨g0, g1, g2, g3, g4, g5⟩ := hbx1.three
  obtain ⟨w2, hW2, hbx2, hrs2, hk2, hs3, hB2⟩ := set3_two hbx1 hrs1 (by omega) (.bool (decide (M < 0))) (.slice A1 d.length cap1) (.int .i64 E)
  have hu2 := hk2 _ _ _ (by omega) hu
  have HB2 := hide (hB2 _ _ (hB0.trans (hb1.mono hB0.size)) (Nat.le_refl _))
  have hs4 : w.heap.size + 1 < w2.heap.size := by omega
  clear hk2 hs3 hB2
  go_upto_region 2 with (fail)
  rw [← hW2]
  clear hW2 g0 g1 g2 g3 g4 g5
  obtain ⟨c0, c1, c2, -, -, -⟩ := hbx2.three
  have HPL := lowerR_calls w2.drew (decide (M < 0)) _ _ d M (E + p) R hu2.drew hd rfl (by omega) (by omega) (by omega) HRR.out
  have HPL := hide HPL
  have HPN : Hid (∀ w', Calls Tryz.prog 112 #[.int .i64 q] w' fun e w'' => w' = w'' ∧ e = .returned (.int .i64 p)) := hide (fun w' => by have := nearR_calls w' q; rwa [HPP.out] at this)
  go_region_held3 (fun w' => w'.cell? ⟨w.heap.size, 0, none⟩ = some (.bool (decide (M < 0))) ∧ w'.cell? ⟨w.heap.size, 1, none⟩ = some (.slice A1 d.length cap1) ∧ w'.cell? ⟨w.heap.size, 2, none⟩ = some (.int .i64 E)) (go_keep)
    (first
      | (go_at_call 112; (with_reducible refine (HPN.out _).mono ?_); rintro e w3 ⟨rfl, rfl⟩)
      | (go_at_call 111; (with_reducible refine HPL.out.mono ?_); rintro e w4 ⟨hb4, u4, d4, rfl, hu4, hd4⟩
         obtain ⟨A4, cap4, rfl⟩ := hu4.form
         have hbx4 := hbx2.drew.below hb4 hbx2.lt
         have hrs4 := hrs2.drew.below hb4 hrs2.lt
         have HB4 := hide (HB2.out.drew.trans (hb4.mono HB2.out.size))
         obtain ⟨f0, f1, f2, -, -, -⟩ := hbx4.three
         obtain ⟨g0, g1, g2, g3⟩ := hrs4.two))
  go_wp2_with fail
  have s4 := hb4.size
  simp at s4
  refine bodyPost_ret (results_int rfl _ _ _ _ _ _ rfl ((hrs4.set_ 0 _).set_ 1 _)) rfl ⟨below2 HB4.out (by omega) _ _, ?_⟩
  exact retZ2 (B := w2.heap.size) (by omega) (by omega) hu4 hd4 _ _
set_option maxRecDepth 100000 in
theorem ceilDR_calls (w : World) (n : Bool) (B : Nat) (v : Value) (l : List Nat) (x q : Int) (K : Nat) (h : Nums w B v l) (hl : l.length ≤ 1000) (hx0 : -9223372036854775808 ≤ x) (hx1 : x ≤ 9223372036854775807) (hK : 4000 ≤ K) :
    Calls Tryz.prog 58 #[.agg #[.bool n, v, .int .i64 x], .int .i64 q] w fun e w' => Below w.heap.size w w' ∧ RetZ w.heap.size (vCeil K (av K (ival n (val W l)) x) (nearZ q)) e w' := by
  have h0 := h
  have hlt0 := h.lt
  obtain ⟨A, cap, rfl, -, -, -, hc⟩ := h
  obtain ⟨W0, hW, hbx, hrs, hB0, hs⟩ := start2 w 34 25 #[.bool n, .slice A l.length cap, .int .i64 x] #[.bool false, .slice none 0 0]
  have h1 := h0.up hB0
  have hs2 : w.heap.size + 1 < W0.heap.size := by omega
  have hne1 : ¬ (w.heap.size = w.heap.size + 1) := by omega
  have hne2 : ¬ (w.heap.size + 1 = w.heap.size) := by omega
  clear hs hc
  have HP := countsR_calls W0 n B _ l x h1 (by omega) hx0 hx1
  obtain ⟨z, HZ⟩ : ∃ z, Hid (ival n (val W l) = z) := ⟨_, hide rfl⟩
  have HLN : Hid (z.natAbs < W ^ l.length) := hide (by rw [← HZ.out]; exact natAbs_lt hlt0)
  rw [HZ.out] at HP ⊢
  have hnq := nearZ_bounds q
  have hE1 := nE_ge z x
  have hE2 := nE_le (x := x) HLN.out
  have hR := scC_norm hK z x (nearZ q)
  obtain ⟨M, HM⟩ : ∃ m, Hid (nM z x = m) := ⟨_, hide rfl⟩
  obtain ⟨E, HE⟩ : ∃ m, Hid (nE z x = m) := ⟨_, hide rfl⟩
  obtain ⟨p, HPP⟩ : ∃ m, Hid (nearZ q = m) := ⟨_, hide rfl⟩
  rw [HM.out, HE.out] at HP
  rw [HE.out] at hE1 hE2
  rw [HPP.out] at hnq ⊢
  rw [HM.out, HE.out, HPP.out] at hR
  obtain ⟨R, HR⟩ : ∃ m, Hid (vCeil K (av K z x) p = m) := ⟨_, hide rfl⟩
  rw [HR.out] at hR ⊢
  have HRR := hide hR
  clear hR
  have hww : IntKind.i64.wrap (E + p) = E + p := IntWalk.i64_in _ (by omega)
  obtain ⟨c0, c1, c2, -, -, -⟩ := hbx.three
  go_enter Tryz.func58, Tryz.ntmps58
  go_upto_region 1 with (fail)
  rw [← hW]
  clear hW hlt0
  go_wp2_with fail
  refine HP.mono ?_
  rintro e w1 ⟨hb1, u, d, rfl, hu, hd⟩
  obtain ⟨A1, cap1, rfl⟩ := hu.form
  have hdl : d.length ≤ l.length := by rw [hd.len, ← HM.out]; exact nM_lt HLN.out
  clear HP c0 c1 c2
  have hbx1 := hbx.below hb1 hbx.lt
  have hrs1 := hrs.below hb1 hrs.lt
  have s1 := hb1.size
  obtain ⟨g0, g1, g2, g3, g4, g5⟩ := hbx1.three
  obtain ⟨w2, hW2, hbx2, hrs2, hk2, hs3, hB2⟩ := set3_two hbx1 hrs1 (by omega) (.bool (decide (M < 0))) (.slice A1 d.length cap1) (.int .i64 E)
  have hu2 := hk2 _ _ _ (by omega) hu
  have HB2 := hide (hB2 _ _ (hB0.trans (hb1.mono hB0.size)) (Nat.le_refl _))
  have hs4 : w.heap.size + 1 < w2.heap.size := by omega
  clear hk2 hs3 hB2
  go_upto_region 2 with (fail)
  rw [← hW2]
  clear hW2 g0 g1 g2 g3 g4 g5
  obtain ⟨c0, c1, c2, -, -, -⟩ := hbx2.three
  have HPM := znegR_calls w2.drew (decide (M < 0)) _ _ d hu2.drew (by omega)
  rw [hd.val, ival_self] at HPM
  obtain ⟨M2, HM2⟩ : ∃ m, Hid (-M = m) := ⟨_, hide rfl⟩
  obtain ⟨S, HS⟩ : ∃ m, Hid (scF M2 (E + p) = m) := ⟨_, hide rfl⟩
  have HSR : Hid (-S = R) := hide (by rw [← HS.out, ← HM2.out]; exact HRR.out)
  have hM2l : Hid (M2.natAbs < W ^ l.length) := hide (by rw [← HM2.out, Int.natAbs_neg, ← HM.out]; exact nM_lt HLN.out)
  rw [HM2.out] at HPM
  have HPM := hide HPM
  have HPN : Hid (∀ w', Calls Tryz.prog 112 #[.int .i64 q] w' fun e w'' => w' = w'' ∧ e = .returned (.int .i64 p)) := hide (fun w' => by have := nearR_calls w' q; rwa [HPP.out] at this)
  have tok0 : True := trivial
  go_region_held3 (fun w' => w'.cell? ⟨w.heap.size, 0, none⟩ = some (.bool (decide (M < 0))) ∧ w'.cell? ⟨w.heap.size, 1, none⟩ = some (.slice A1 d.length cap1) ∧ w'.cell? ⟨w.heap.size, 2, none⟩ = some (.int .i64 E)) (go_keep)
    (first
      | (go_at_call 113; have _t := tok0; (with_reducible refine HPM.out.mono ?_); rintro e w3 ⟨hb3, u3, d3, rfl, hu3, hd3⟩
         obtain ⟨A3, cap3, rfl⟩ := hu3.form
         have hdl3 : d3.length ≤ l.length := by rw [hd3.len]; exact hM2l.out
         have hbx3 := hbx2.drew.below hb3 hbx2.lt
         have hrs3 := hrs2.drew.below hb3 hrs2.lt
         have HB3 := hide (HB2.out.drew.trans (hb3.mono HB2.out.size))
         obtain ⟨f0, f1, f2, -, -, -⟩ := hbx3.three
         have HPL := hide (lowerR_calls w3 (decide (M2 < 0)) _ _ d3 M2 (E + p) S hu3 hd3 rfl (by omega) (by omega) (by omega) HS.out)
         clear _t tok0)
      | (go_at_call 112; (with_reducible refine (HPN.out _).mono ?_); rintro e w9 ⟨rfl, rfl⟩)
      | (go_at_call 111; (with_reducible refine HPL.out.mono ?_); rintro e w5 ⟨hb5, u5, d5, rfl, hu5, hd5⟩
         obtain ⟨A5, cap5, rfl⟩ := hu5.form
         have hbx5 := hbx3.below hb5 hbx3.lt
         have hrs5 := hrs3.below hb5 hrs3.lt
         have HB5 := hide (HB3.out.trans (hb5.mono HB3.out.size))
         obtain ⟨o0, o1, o2, -, -, -⟩ := hbx5.three
         have hdl5 : d5.length ≤ l.length + 1600 := by rw [hd5.len, ← HS.out]; exact scF_lt_any hM2l.out (by omega)
         have HPM2 := znegR_calls w5 (decide (S < 0)) _ _ d5 hu5 (by omega)
         rw [hd5.val, ival_self, HSR.out] at HPM2
         have HPM2 := hide HPM2
         have tok1 : True := trivial)
      | (go_at_call 113; have _t := tok1; (with_reducible refine HPM2.out.mono ?_); rintro e w4 ⟨hb4, u4, d4, rfl, hu4, hd4⟩
         obtain ⟨A4, cap4, rfl⟩ := hu4.form
         have hbx4 := hbx5.below hb4 hbx5.lt
         have hrs4 := hrs5.below hb4 hrs5.lt
         have HB4 := hide (HB5.out.trans (hb4.mono HB5.out.size))
         have hl54 : w.heap.size + 1 < w5.heap.size := hrs5.lt
         obtain ⟨i0, i1, i2, -, -, -⟩ := hbx4.three
         obtain ⟨g0, g1, g2, g3⟩ := hrs4.two))
  go_wp2_with fail
  refine bodyPost_ret (results_int rfl _ _ _ _ _ _ rfl ((hrs4.set_ 0 _).set_ 1 _)) rfl ⟨below2 HB4.out (by omega) _ _, ?_⟩
  exact retZ2 (B := w5.heap.size) (by omega) (by omega) hu4 hd4 _ _
end Go.Proofs.YtnfbngiabdlclaaGreat
end
section
set_option linter.unusedVariables false
set_option linter.unusedSimpArgs false
namespace Go.Proofs.YtnfbngiabdlclaaGreat
open Go.RowKit
open L (val dig nth)

theorem neg_norm {K : Nat} (hK : 4000 ≤ K) (z x : Int) : pM (-nM z x) = pM (-av K z x) ∧ pE (-nM z x) (nE z x) = pE (-av K z x) (-K) := by
  have := nE_ge z x
  rw [← sv_norm hK z x, ← sv_neg, pM_sv, pE_sv K _ _ (by omega)]
  exact ⟨rfl, rfl⟩
theorem shift_norm {K : Nat} (hK : 4000 ≤ K) (z x p : Int) : pM (nM z x) = pM (av K z x) ∧ pE (nM z x) (nE z x + p) = pE (av K z x) (p - K) := by
  have := nE_ge z x
  rw [show p - (K : Int) = -K + p from by omega, pE_add, pE_add, ← sv_norm hK z x, pM_sv, pE_sv K _ _ (by omega)]
  refine ⟨rfl, ?_⟩
  by_cases h : nM z x = 0
  · rw [if_pos h, if_pos (by rw [h]; exact sv_zero _ _)]
  · rw [if_neg h, if_neg (fun hh => h (sv_eq_zero.1 hh))]
end Go.Proofs.YtnfbngiabdlclaaGreat
end
section
set_option linter.unusedVariables false
set_option linter.unusedSimpArgs false
namespace Go.Proofs.YtnfbngiabdlclaaGreat
open Go.RowKit
open L (val dig nth)

theorem mul_norm {K J : Nat} (hK : 4000 ≤ K) (hJ : 4000 ≤ J) (z x z' x' : Int) : pM (nM z x * nM z' x') = pM (av K z x * av J z' x') ∧ pE (nM z x * nM z' x') (nE z x + nE z' x') = pE (av K z x * av J z' x') (-((K + J : Nat) : Int)) := by
  have := nE_ge z x
  have := nE_ge z' x'
  rw [← sv_norm hK z x, ← sv_norm hJ z' x', ← sv_mul K J _ _ _ _ (by omega) (by omega), pM_sv, pE_sv (K + J) _ _ (by omega)]
  exact ⟨rfl, rfl⟩
theorem natAbs_mul_W {a b : Int} {k t : Nat} (ha : a.natAbs < W ^ k) (hb : b.natAbs < W ^ t) : (a * b).natAbs < W ^ (k + t) := by
  rw [Int.natAbs_mul, Nat.pow_add]
  exact Nat.mul_lt_mul'' ha hb
end Go.Proofs.YtnfbngiabdlclaaGreat
end

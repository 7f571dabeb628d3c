/- The document's dyads: Floor Ceil. The document's dyads: Neg Shift. The document's dyads: Mul. -/
import Derived.Test.YtnkembnachhicaaRefDA
import Derived.Test.YtnkembnachhicaaLaws
section
set_option linter.unusedVariables false
set_option linter.unusedSimpArgs false
namespace Go.Proofs.Ytnkembnachhicaa
open Go.RowKit
open L (val dig nth)

theorem nE_ge (z x : Int) : -4000 ≤ nE z x := by
  have := cE_bounds z x
  unfold nE pE; split <;> omega
theorem sv_norm {K : Nat} (hK : 4000 ≤ K) (z x : Int) : sv K (nM z x) (nE z x) = av K z x := by
  have := cE_bounds z x
  unfold nM nE av; exact sv_plain K _ _ (by omega)
theorem scF_norm {K : Nat} (hK : 4000 ≤ K) (z x p : Int) : scF (nM z x) (nE z x + p) = vFloor K (av K z x) p := by
  have := nE_ge z x
  rw [scF_sv K _ _ _ (by omega), sv_norm hK]
theorem scC_norm {K : Nat} (hK : 4000 ≤ K) (z x p : Int) : -scF (-nM z x) (nE z x + p) = vCeil K (av K z x) p := by
  have := nE_ge z x
  rw [scF_sv K _ _ _ (by omega), sv_neg, sv_norm hK]; rfl
theorem nE_le {z x : Int} {k : Nat} (hz : z.natAbs < W ^ k) : nE z x ≤ 4000 + 64 * k := by
  have h := cE_bounds z x
  have h2 := tz_le _ _ (by have := Nat.lt_of_le_of_lt (cM_le z x) hz; rwa [W_pow] at this)
  unfold nE pE; split <;> omega

theorem scF_lt_any {m e : Int} {k t : Nat} (hm : m.natAbs < W ^ k) (he : e ≤ 64 * t) : (scF m e).natAbs < W ^ (k + t) := by
  unfold scF
  split
  · exact up_lt hm (by omega)
  · exact Nat.lt_of_le_of_lt (Int.natAbs_ediv_le_natAbs _ _) (Nat.lt_of_lt_of_le hm (Nat.pow_le_pow_right W_pos (by omega)))
set_option maxRecDepth 100000 in
theorem floorDR_calls (w : World) (n : Bool) (B : Nat) (v : Value) (l : List Nat) (x q : Int) (K : Nat) (h : Nums w B v l) (hl : l.length ≤ 1000) (hx0 : -9223372036854775808 ≤ x) (hx1 : x ≤ 9223372036854775807) (hK : 4000 ≤ K) :
    Calls Try.prog 18 #[.agg #[.bool n, v, .int .i64 x], .int .i64 q] w fun e w' => Below w.heap.size w w' ∧ RetZ w.heap.size (vFloor K (av K (ival n (val W l)) x) (nearZ q)) e w' := by
  have h0 := h
  have hlt0 := h.lt
  obtain ⟨A, cap, rfl, -, -, -, hc⟩ := h
  obtain ⟨W0, hW, hbx, hrs, hB0, hs⟩ := start2 w 26 24 #[.bool n, .slice A l.length cap, .int .i64 x] #[.bool false, .slice none 0 0]
  have h1 := h0.up hB0
  have hs2 : w.heap.size + 1 < W0.heap.size := by omega
  have hne1 : ¬ (w.heap.size = w.heap.size + 1) := by omega
  have hne2 : ¬ (w.heap.size + 1 = w.heap.size) := by omega
  clear hs hc
  have HP := countsR_calls W0 n B _ l x h1 (by omega) hx0 hx1
  obtain ⟨z, HZ⟩ : ∃ z, Hid (ival n (val W l) = z) := ⟨_, hide rfl⟩
  have HLN : Hid (z.natAbs < W ^ l.length) := hide (by rw [← HZ.out]; exact natAbs_lt hlt0)
  rw [HZ.out] at HP ⊢
  have hnq := nearZ_bounds q
  have hE1 := nE_ge z x
  have hE2 := nE_le (x := x) HLN.out
  have hR := scF_norm hK z x (nearZ q)
  obtain ⟨M, HM⟩ : ∃ m, Hid (nM z x = m) := ⟨_, hide rfl⟩
  obtain ⟨E, HE⟩ : ∃ m, Hid (nE z x = m) := ⟨_, hide rfl⟩
  obtain ⟨p, HPP⟩ : ∃ m, Hid (nearZ q = m) := ⟨_, hide rfl⟩
  rw [HM.out, HE.out] at HP
  rw [HE.out] at hE1 hE2
  rw [HPP.out] at hnq ⊢
  rw [HM.out, HE.out, HPP.out] at hR
  obtain ⟨R, HR⟩ : ∃ m, Hid (vFloor K (av K z x) p = m) := ⟨_, hide rfl⟩
  rw [HR.out] at hR ⊢
  have HRR := hide hR
  clear hR
  have hww : IntKind.i64.wrap (E + p) = E + p := IntWalk.i64_in _ (by omega)
  obtain ⟨c0, c1, c2, -, -, -⟩ := hbx.three
  go_enter Try.func18, Try.ntmps18
  go_upto_region 1 with (fail)
  rw [← hW]
  clear hW hlt0
  go_wp2_with fail
  refine HP.mono ?_
  rintro e w1 ⟨hb1, u, d, rfl, hu, hd⟩
  obtain ⟨A1, cap1, rfl⟩ := hu.form
  have hdl : d.length ≤ l.length := by rw [hd.len, ← HM.out]; exact nM_lt HLN.out
  clear HP c0 c1 c2
  have hbx1 := hbx.below hb1 hbx.lt
  have hrs1 := hrs.below hb1 hrs.lt
  have s1 := hb1.size
  obtain ⟨g0, g1, g2, g3, g4, g5⟩ := hbx1.three
  obtain ⟨w2, hW2, hbx2, hrs2, hk2, hs3, hB2⟩ := set3_two hbx1 hrs1 (by omega) (.bool (decide (M < 0))) (.slice A1 d.length cap1) (.int .i64 E)
  have hu2 := hk2 _ _ _ (by omega) hu
  have HB2 := hide (hB2 _ _ (hB0.trans (hb1.mono hB0.size)) (Nat.le_refl _))
  have hs4 : w.heap.size + 1 < w2.heap.size := by omega
  clear hk2 hs3 hB2
  go_upto_region 2 with (fail)
  rw [← hW2]
  clear hW2 g0 g1 g2 g3 g4 g5
  obtain ⟨c0, c1, c2, -, -, -⟩ := hbx2.three
  have HPL := lowerR_calls w2.drew (decide (M < 0)) _ _ d M (E + p) R hu2.drew hd rfl (by omega) (by omega) (by omega) HRR.out
  have HPL := hide HPL
  have HPN : Hid (∀ w', Calls Try.prog 70 #[.int .i64 q] w' fun e w'' => w' = w'' ∧ e = .returned (.int .i64 p)) := hide (fun w' => by have := nearR_calls w' q; rwa [HPP.out] at this)
  go_region_held3 (fun w' => w'.cell? ⟨w.heap.size, 0, none⟩ = some (.bool (decide (M < 0))) ∧ w'.cell? ⟨w.heap.size, 1, none⟩ = some (.slice A1 d.length cap1) ∧ w'.cell? ⟨w.heap.size, 2, none⟩ = some (.int .i64 E)) (go_keep)
    (first
      | (go_at_call 70; (with_reducible refine (HPN.out _).mono ?_); rintro e w3 ⟨rfl, rfl⟩)
      | (go_at_call 69; (with_reducible refine HPL.out.mono ?_); rintro e w4 ⟨hb4, u4, d4, rfl, hu4, hd4⟩
         obtain ⟨A4, cap4, rfl⟩ := hu4.form
         have hbx4 := hbx2.drew.below hb4 hbx2.lt
         have hrs4 := hrs2.drew.below hb4 hrs2.lt
         have HB4 := hide (HB2.out.drew.trans (hb4.mono HB2.out.size))
         obtain ⟨f0, f1, f2, -, -, -⟩ := hbx4.three
         obtain ⟨g0, g1, g2, g3⟩ := hrs4.two))
  go_wp2_with fail
  have s4 := hb4.size
  simp at s4
  refine bodyPost_ret (results_int rfl _ _ _ _ _ _ rfl ((hrs4.set_ 0 _).set_ 1 _)) rfl ⟨below2 HB4.out (by omega) _ _, ?_⟩
  exact retZ2 (B := w2.heap.size) (by omega) (by omega) hu4 hd4 _ _
set_option maxRecDepth 100000 in
theorem ceilDR_calls (w : World) (n : Bool) (B : Nat) (v : Value) (l : List Nat) (x q : Int) (K : Nat) (h : Nums w B v l) (hl : l.length ≤ 1000) (hx0 : -9223372036854775808 ≤ x) (hx1 : x ≤ 9223372036854775807) (hK : 4000 ≤ K) :
    Calls Try.prog 20 #[.agg #[.bool n, v, .int .i64 x], .int .i64 q] w fun e w' => Below w.heap.size w w' ∧ RetZ w.heap.size (vCeil K (av K (ival n (val W l)) x) (nearZ q)) e w' := by
  have h0 := h
  have hlt0 := h.lt
  obtain ⟨A, cap, rfl, -, -, -, hc⟩ := h
  obtain ⟨W0, hW, hbx, hrs, hB0, hs⟩ := start2 w 26 24 #[.bool n, .slice A l.length cap, .int .i64 x] #[.bool false, .slice none 0 0]
  have h1 := h0.up hB0
  have hs2 : w.heap.size + 1 < W0.heap.size := by omega
  have hne1 : ¬ (w.heap.size = w.heap.size + 1) := by omega
  have hne2 : ¬ (w.heap.size + 1 = w.heap.size) := by omega
  clear hs hc
  have HP := countsR_calls W0 n B _ l x h1 (by omega) hx0 hx1
  obtain ⟨z, HZ⟩ : ∃ z, Hid (ival n (val W l) = z) := ⟨_, hide rfl⟩
  have HLN : Hid (z.natAbs < W ^ l.length) := hide (by rw [← HZ.out]; exact natAbs_lt hlt0)
  rw [HZ.out] at HP ⊢
  have hnq := nearZ_bounds q
  have hE1 := nE_ge z x
  have hE2 := nE_le (x := x) HLN.out
  have hR := scC_norm hK z x (nearZ q)
  obtain ⟨M, HM⟩ : ∃ m, Hid (nM z x = m) := ⟨_, hide rfl⟩
  obtain ⟨E, HE⟩ : ∃ m, Hid (nE z x = m) := ⟨_, hide rfl⟩
  obtain ⟨p, HPP⟩ : ∃ m, Hid (nearZ q = m) := ⟨_, hide rfl⟩
  rw [HM.out, HE.out] at HP
  rw [HE.out] at hE1 hE2
  rw [HPP.out] at hnq ⊢
  rw [HM.out, HE.out, HPP.out] at hR
  obtain ⟨R, HR⟩ : ∃ m, Hid (vCeil K (av K z x) p = m) := ⟨_, hide rfl⟩
  rw [HR.out] at hR ⊢
  have HRR := hide hR
  clear hR
  have hww : IntKind.i64.wrap (E + p) = E + p := IntWalk.i64_in _ (by omega)
  obtain ⟨c0, c1, c2, -, -, -⟩ := hbx.three
  go_enter Try.func20, Try.ntmps20
  go_upto_region 1 with (fail)
  rw [← hW]
  clear hW hlt0
  go_wp2_with fail
  refine HP.mono ?_
  rintro e w1 ⟨hb1, u, d, rfl, hu, hd⟩
  obtain ⟨A1, cap1, rfl⟩ := hu.form
  have hdl : d.length ≤ l.length := by rw [hd.len, ← HM.out]; exact nM_lt HLN.out
  clear HP c0 c1 c2
  have hbx1 := hbx.below hb1 hbx.lt
  have hrs1 := hrs.below hb1 hrs.lt
  have s1 := hb1.size
  obtain ⟨g0, g1, g2, g3, g4, g5⟩ := hbx1.three
  obtain ⟨w2, hW2, hbx2, hrs2, hk2, hs3, hB2⟩ := set3_two hbx1 hrs1 (by omega) (.bool (decide (M < 0))) (.slice A1 d.length cap1) (.int .i64 E)
  have hu2 := hk2 _ _ _ (by omega) hu
  have HB2 := hide (hB2 _ _ (hB0.trans (hb1.mono hB0.size)) (Nat.le_refl _))
  have hs4 : w.heap.size + 1 < w2.heap.size := by omega
  clear hk2 hs3 hB2
  go_upto_region 2 with (fail)
  rw [← hW2]
  clear hW2 g0 g1 g2 g3 g4 g5
  obtain ⟨c0, c1, c2, -, -, -⟩ := hbx2.three
  have HPM := znegR_calls w2.drew (decide (M < 0)) _ _ d hu2.drew (by omega)
  rw [hd.val, ival_self] at HPM
  obtain ⟨M2, HM2⟩ : ∃ m, Hid (-M = m) := ⟨_, hide rfl⟩
  obtain ⟨S, HS⟩ : ∃ m, Hid (scF M2 (E + p) = m) := ⟨_, hide rfl⟩
  have HSR : Hid (-S = R) := hide (by rw [← HS.out, ← HM2.out]; exact HRR.out)
  have hM2l : Hid (M2.natAbs < W ^ l.length) := hide (by rw [← HM2.out, Int.natAbs_neg, ← HM.out]; exact nM_lt HLN.out)
  rw [HM2.out] at HPM
  have HPM := hide HPM
  have HPN : Hid (∀ w', Calls Try.prog 70 #[.int .i64 q] w' fun e w'' => w' = w'' ∧ e = .returned (.int .i64 p)) := hide (fun w' => by have := nearR_calls w' q; rwa [HPP.out] at this)
  have tok0 : True := trivial
  go_region_held3 (fun w' => w'.cell? ⟨w.heap.size, 0, none⟩ = some (.bool (decide (M < 0))) ∧ w'.cell? ⟨w.heap.size, 1, none⟩ = some (.slice A1 d.length cap1) ∧ w'.cell? ⟨w.heap.size, 2, none⟩ = some (.int .i64 E)) (go_keep)
    (first
      | (go_at_call 72; have _t := tok0; (with_reducible refine HPM.out.mono ?_); rintro e w3 ⟨hb3, u3, d3, rfl, hu3, hd3⟩
         obtain ⟨A3, cap3, rfl⟩ := hu3.form
         have hdl3 : d3.length ≤ l.length := by rw [hd3.len]; exact hM2l.out
         have hbx3 := hbx2.drew.below hb3 hbx2.lt
         have hrs3 := hrs2.drew.below hb3 hrs2.lt
         have HB3 := hide (HB2.out.drew.trans (hb3.mono HB2.out.size))
         obtain ⟨f0, f1, f2, -, -, -⟩ := hbx3.three
         have HPL := hide (lowerR_calls w3 (decide (M2 < 0)) _ _ d3 M2 (E + p) S hu3 hd3 rfl (by omega) (by omega) (by omega) HS.out)
         clear _t tok0)
      | (go_at_call 70; (with_reducible refine (HPN.out _).mono ?_); rintro e w9 ⟨rfl, rfl⟩)
      | (go_at_call 69; (with_reducible refine HPL.out.mono ?_); rintro e w5 ⟨hb5, u5, d5, rfl, hu5, hd5⟩
         obtain ⟨A5, cap5, rfl⟩ := hu5.form
         have hbx5 := hbx3.below hb5 hbx3.lt
         have hrs5 := hrs3.below hb5 hrs3.lt
         have HB5 := hide (HB3.out.trans (hb5.mono HB3.out.size))
         obtain ⟨o0, o1, o2, -, -, -⟩ := hbx5.three
         have hdl5 : d5.length ≤ l.length + 1600 := by rw [hd5.len, ← HS.out]; exact scF_lt_any hM2l.out (by omega)
         have HPM2 := znegR_calls w5 (decide (S < 0)) _ _ d5 hu5 (by omega)
         rw [hd5.val, ival_self, HSR.out] at HPM2
         have HPM2 := hide HPM2
         have tok1 : True := trivial)
      | (go_at_call 72; have _t := tok1; (with_reducible refine HPM2.out.mono ?_); rintro e w4 ⟨hb4, u4, d4, rfl, hu4, hd4⟩
         obtain ⟨A4, cap4, rfl⟩ := hu4.form
         have hbx4 := hbx5.below hb4 hbx5.lt
         have hrs4 := hrs5.below hb4 hrs5.lt
         have HB4 := hide (HB5.out.trans (hb4.mono HB5.out.size))
         have hl54 : w.heap.size + 1 < w5.heap.size := hrs5.lt
         obtain ⟨i0, i1, i2, -, -, -⟩ := hbx4.three
         obtain ⟨g0, g1, g2, g3⟩ := hrs4.two))
  go_wp2_with fail
  refine bodyPost_ret (results_int rfl _ _ _ _ _ _ rfl ((hrs4.set_ 0 _).set_ 1 _)) rfl ⟨below2 HB4.out (by omega) _ _, ?_⟩
  exact retZ2 (B := w5.heap.size) (by omega) (by omega) hu4 hd4 _ _
end Go.Proofs.Ytnkembnachhicaa
end
section
set_option linter.unusedVariables false
set_option linter.unusedSimpArgs false
namespace Go.Proofs.Ytnkembnachhicaa
open Go.RowKit
open L (val dig nth)

theorem neg_norm {K : Nat} (hK : 4000 ≤ K) (z x : Int) : pM (-nM z x) = pM (-av K z x) ∧ pE (-nM z x) (nE z x) = pE (-av K z x) (-K) := by
  have := nE_ge z x
  rw [← sv_norm hK z x, ← sv_neg, pM_sv, pE_sv K _ _ (by omega)]
  exact ⟨rfl, rfl⟩
theorem shift_norm {K : Nat} (hK : 4000 ≤ K) (z x p : Int) : pM (nM z x) = pM (av K z x) ∧ pE (nM z x) (nE z x + p) = pE (av K z x) (p - K) := by
  have := nE_ge z x
  rw [show p - (K : Int) = -K + p from by omega, pE_add, pE_add, ← sv_norm hK z x, pM_sv, pE_sv K _ _ (by omega)]
  refine ⟨rfl, ?_⟩
  by_cases h : nM z x = 0
  · rw [if_pos h, if_pos (by rw [h]; exact sv_zero _ _)]
  · rw [if_neg h, if_neg (fun hh => h (sv_eq_zero.1 hh))]
set_option maxRecDepth 100000 in
theorem negDR_calls (w : World) (n : Bool) (B : Nat) (v : Value) (l : List Nat) (x : Int) (K : Nat) (h : Nums w B v l) (hl : l.length ≤ 1000) (hx0 : -9223372036854775808 ≤ x) (hx1 : x ≤ 9223372036854775807) (hK : 4000 ≤ K) :
    Calls Try.prog 57 #[.agg #[.bool n, v, .int .i64 x]] w fun e w' => Below w.heap.size w w' ∧ RetQ w.heap.size (pM (-av K (ival n (val W l)) x)) (pE (-av K (ival n (val W l)) x) (-K)) e w' := by
  have h0 := h
  have hlt0 := h.lt
  obtain ⟨A, cap, rfl, -, -, -, hc⟩ := h
  obtain ⟨W0, hW, hbx, hrs, hB0, hs⟩ := start2 w 26 26 #[.bool n, .slice A l.length cap, .int .i64 x] #[.bool false, .slice none 0 0, .int .i64 0]
  have h1 := h0.up hB0
  have hs2 : w.heap.size + 1 < W0.heap.size := by omega
  have hne1 : ¬ (w.heap.size = w.heap.size + 1) := by omega
  have hne2 : ¬ (w.heap.size + 1 = w.heap.size) := by omega
  clear hs hc
  have HP := countsR_calls W0 n B _ l x h1 (by omega) hx0 hx1
  obtain ⟨z, HZ⟩ : ∃ z, Hid (ival n (val W l) = z) := ⟨_, hide rfl⟩
  have HLN : Hid (z.natAbs < W ^ l.length) := hide (by rw [← HZ.out]; exact natAbs_lt hlt0)
  rw [HZ.out] at HP ⊢
  have hE1 := nE_ge z x
  have hE2 := nE_le (x := x) HLN.out
  have hR := neg_norm hK z x
  obtain ⟨M, HM⟩ : ∃ m, Hid (nM z x = m) := ⟨_, hide rfl⟩
  obtain ⟨E, HE⟩ : ∃ m, Hid (nE z x = m) := ⟨_, hide rfl⟩
  rw [HM.out, HE.out] at HP
  rw [HE.out] at hE1 hE2
  rw [HM.out, HE.out] at hR
  obtain ⟨R, HR⟩ : ∃ m, Hid (pM (-av K z x) = m) := ⟨_, hide rfl⟩
  obtain ⟨X, HX⟩ : ∃ m, Hid (pE (-av K z x) (-K) = m) := ⟨_, hide rfl⟩
  rw [HR.out, HX.out] at hR
  rw [HR.out, HX.out]
  obtain ⟨M2, HM2⟩ : ∃ m, Hid (-M = m) := ⟨_, hide rfl⟩
  rw [HM2.out] at hR
  have HRR := hide hR
  clear hR
  obtain ⟨c0, c1, c2, -, -, -⟩ := hbx.three
  go_enter Try.func57, Try.ntmps57
  go_upto_region 1 with (fail)
  rw [← hW]
  clear hW hlt0
  go_wp2_with fail
  refine HP.mono ?_
  rintro e w1 ⟨hb1, u, d, rfl, hu, hd⟩
  obtain ⟨A1, cap1, rfl⟩ := hu.form
  have hdl : d.length ≤ l.length := by rw [hd.len, ← HM.out]; exact nM_lt HLN.out
  clear HP c0 c1 c2
  have hbx1 := hbx.below hb1 hbx.lt
  have hrs1 := hrs.below hb1 hrs.lt
  have s1 := hb1.size
  obtain ⟨g0, g1, g2, g3, g4, g5⟩ := hbx1.three
  obtain ⟨w2, hW2, hbx2, hrs2, hk2, hs3, hB2⟩ := set3_two hbx1 hrs1 (by omega) (.bool (decide (M < 0))) (.slice A1 d.length cap1) (.int .i64 E)
  have hu2 := hk2 _ _ _ (by omega) hu
  have HB2 := hide (hB2 _ _ (hB0.trans (hb1.mono hB0.size)) (Nat.le_refl _))
  have hs4 : w.heap.size + 1 < w2.heap.size := by omega
  clear hk2 hs3 hB2
  go_upto_region 2 with (fail)
  rw [← hW2]
  clear hW2 g0 g1 g2 g3 g4 g5
  obtain ⟨c0, c1, c2, -, -, -⟩ := hbx2.three
  have HPM := znegR_calls w2.drew (decide (M < 0)) _ _ d hu2.drew (by omega)
  rw [hd.val, ival_self, HM2.out] at HPM
  have HPM := hide HPM
  have hM2l : Hid (M2.natAbs < W ^ l.length) := hide (by rw [← HM2.out, Int.natAbs_neg, ← HM.out]; exact nM_lt HLN.out)
  go_region_held3 (fun w' => w'.cell? ⟨w.heap.size, 0, none⟩ = some (.bool (decide (M < 0))) ∧ w'.cell? ⟨w.heap.size, 1, none⟩ = some (.slice A1 d.length cap1) ∧ w'.cell? ⟨w.heap.size, 2, none⟩ = some (.int .i64 E)) (go_keep)
    (first
      | (go_at_call 72; (with_reducible refine HPM.out.mono ?_); rintro e w3 ⟨hb3, u3, d3, rfl, hu3, hd3⟩
         obtain ⟨A3, cap3, rfl⟩ := hu3.form
         have hdl3 : d3.length ≤ l.length := by rw [hd3.len]; exact hM2l.out
         have hbx3 := hbx2.drew.below hb3 hbx2.lt
         have hrs3 := hrs2.drew.below hb3 hrs2.lt
         have HB3 := hide (HB2.out.drew.trans (hb3.mono HB2.out.size))
         obtain ⟨f0, f1, f2, -, -, -⟩ := hbx3.three
         have HPL := plainR_calls w3 (decide (M2 < 0)) _ _ d3 E hu3 (by omega) (by omega) (by omega)
         rw [hd3.val, ival_self, HRR.out.1, HRR.out.2] at HPL
         have HPL := hide HPL)
      | (go_at_call 83; (with_reducible refine HPL.out.mono ?_); rintro e w4 ⟨hb4, u4, d4, rfl, hu4, hd4⟩
         obtain ⟨A4, cap4, rfl⟩ := hu4.form
         have hbx4 := hbx3.below hb4 hbx3.lt
         have hrs4 := hrs3.below hb4 hrs3.lt
         have HB4 := hide (HB3.out.trans (hb4.mono HB3.out.size))
         have hl34 : w.heap.size + 1 < w3.heap.size := hrs3.lt
         obtain ⟨i0, i1, i2, -, -, -⟩ := hbx4.three
         obtain ⟨g0, g1, g2, g3, g4, g5⟩ := hrs4.three))
  go_wp2_with fail
  refine bodyPost_ret (results_dyad rfl _ _ _ _ _ _ _ rfl (((hrs4.set_ 0 _).set_ 1 _).set_ 2 _)) rfl ⟨below3 HB4.out (by omega) _ _ _, ?_⟩
  exact retQ2 (B := w3.heap.size) (by omega) (by omega) hu4 hd4 _ _ _
set_option maxRecDepth 100000 in
theorem shiftDR_calls (w : World) (n : Bool) (B : Nat) (v : Value) (l : List Nat) (x q : Int) (K : Nat) (h : Nums w B v l) (hl : l.length ≤ 1000) (hx0 : -9223372036854775808 ≤ x) (hx1 : x ≤ 9223372036854775807) (hK : 4000 ≤ K) :
    Calls Try.prog 58 #[.agg #[.bool n, v, .int .i64 x], .int .i64 q] w fun e w' => Below w.heap.size w w' ∧ RetQ w.heap.size (pM (av K (ival n (val W l)) x)) (pE (av K (ival n (val W l)) x) (nearZ q - K)) e w' := by
  have h0 := h
  have hlt0 := h.lt
  obtain ⟨A, cap, rfl, -, -, -, hc⟩ := h
  obtain ⟨W0, hW, hbx, hrs, hB0, hs⟩ := start2 w 26 26 #[.bool n, .slice A l.length cap, .int .i64 x] #[.bool false, .slice none 0 0, .int .i64 0]
  have h1 := h0.up hB0
  have hs2 : w.heap.size + 1 < W0.heap.size := by omega
  have hne1 : ¬ (w.heap.size = w.heap.size + 1) := by omega
  have hne2 : ¬ (w.heap.size + 1 = w.heap.size) := by omega
  clear hs hc
  have HP := countsR_calls W0 n B _ l x h1 (by omega) hx0 hx1
  obtain ⟨z, HZ⟩ : ∃ z, Hid (ival n (val W l) = z) := ⟨_, hide rfl⟩
  have HLN : Hid (z.natAbs < W ^ l.length) := hide (by rw [← HZ.out]; exact natAbs_lt hlt0)
  rw [HZ.out] at HP ⊢
  have hnq := nearZ_bounds q
  have hE1 := nE_ge z x
  have hE2 := nE_le (x := x) HLN.out
  have hR := shift_norm hK z x (nearZ q)
  obtain ⟨M, HM⟩ : ∃ m, Hid (nM z x = m) := ⟨_, hide rfl⟩
  obtain ⟨E, HE⟩ : ∃ m, Hid (nE z x = m) := ⟨_, hide rfl⟩
  obtain ⟨p, HPP⟩ : ∃ m, Hid (nearZ q = m) := ⟨_, hide rfl⟩
  rw [HM.out, HE.out] at HP
  rw [HE.out] at hE1 hE2
  rw [HPP.out] at hnq ⊢
  rw [HM.out, HE.out, HPP.out] at hR
  obtain ⟨R, HR⟩ : ∃ m, Hid (pM (av K z x) = m) := ⟨_, hide rfl⟩
  obtain ⟨X, HX⟩ : ∃ m, Hid (pE (av K z x) (p - K) = m) := ⟨_, hide rfl⟩
  rw [HR.out, HX.out] at hR
  rw [HR.out, HX.out]
  have HRR := hide hR
  clear hR
  have hww : IntKind.i64.wrap (E + p) = E + p := IntWalk.i64_in _ (by omega)
  obtain ⟨c0, c1, c2, -, -, -⟩ := hbx.three
  go_enter Try.func58, Try.ntmps58
  go_upto_region 1 with (fail)
  rw [← hW]
  clear hW hlt0
  go_wp2_with fail
  refine HP.mono ?_
  rintro e w1 ⟨hb1, u, d, rfl, hu, hd⟩
  obtain ⟨A1, cap1, rfl⟩ := hu.form
  have hdl : d.length ≤ l.length := by rw [hd.len, ← HM.out]; exact nM_lt HLN.out
  clear HP c0 c1 c2
  have hbx1 := hbx.below hb1 hbx.lt
  have hrs1 := hrs.below hb1 hrs.lt
  have s1 := hb1.size
  obtain ⟨g0, g1, g2, g3, g4, g5⟩ := hbx1.three
  obtain ⟨w2, hW2, hbx2, hrs2, hk2, hs3, hB2⟩ := set3_two hbx1 hrs1 (by omega) (.bool (decide (M < 0))) (.slice A1 d.length cap1) (.int .i64 E)
  have hu2 := hk2 _ _ _ (by omega) hu
  have HB2 := hide (hB2 _ _ (hB0.trans (hb1.mono hB0.size)) (Nat.le_refl _))
  have hs4 : w.heap.size + 1 < w2.heap.size := by omega
  clear hk2 hs3 hB2
  go_upto_region 2 with (fail)
  rw [← hW2]
  clear hW2 g0 g1 g2 g3 g4 g5
  obtain ⟨c0, c1, c2, -, -, -⟩ := hbx2.three
  have HPL := plainR_calls w2.drew (decide (M < 0)) _ _ d (E + p) hu2.drew (by omega) (by omega) (by omega)
  rw [hd.val, ival_self, HRR.out.1, HRR.out.2] at HPL
  have HPL := hide HPL
  have HPN : Hid (∀ w', Calls Try.prog 70 #[.int .i64 q] w' fun e w'' => w' = w'' ∧ e = .returned (.int .i64 p)) := hide (fun w' => by have := nearR_calls w' q; rwa [HPP.out] at this)
  go_region_held3 (fun w' => w'.cell? ⟨w.heap.size, 0, none⟩ = some (.bool (decide (M < 0))) ∧ w'.cell? ⟨w.heap.size, 1, none⟩ = some (.slice A1 d.length cap1) ∧ w'.cell? ⟨w.heap.size, 2, none⟩ = some (.int .i64 E)) (go_keep)
    (first
      | (go_at_call 70; (with_reducible refine (HPN.out _).mono ?_); rintro e w3 ⟨rfl, rfl⟩)
      | (go_at_call 83; (with_reducible refine HPL.out.mono ?_); rintro e w4 ⟨hb4, u4, d4, rfl, hu4, hd4⟩
         obtain ⟨A4, cap4, rfl⟩ := hu4.form
         have hbx4 := hbx2.drew.below hb4 hbx2.lt
         have hrs4 := hrs2.drew.below hb4 hrs2.lt
         have HB4 := hide (HB2.out.drew.trans (hb4.mono HB2.out.size))
         obtain ⟨f0, f1, f2, -, -, -⟩ := hbx4.three
         obtain ⟨g0, g1, g2, g3, g4, g5⟩ := hrs4.three))
  go_wp2_with fail
  refine bodyPost_ret (results_dyad rfl _ _ _ _ _ _ _ rfl (((hrs4.set_ 0 _).set_ 1 _).set_ 2 _)) rfl ⟨below3 HB4.out (by omega) _ _ _, ?_⟩
  exact retQ2 (B := w2.heap.size) (by omega) (by omega) hu4 hd4 _ _ _
end Go.Proofs.Ytnkembnachhicaa
end
section
set_option linter.unusedVariables false
set_option linter.unusedSimpArgs false
namespace Go.Proofs.Ytnkembnachhicaa
open Go.RowKit
open L (val dig nth)

theorem mul_norm {K J : Nat} (hK : 4000 ≤ K) (hJ : 4000 ≤ J) (z x z' x' : Int) : pM (nM z x * nM z' x') = pM (av K z x * av J z' x') ∧ pE (nM z x * nM z' x') (nE z x + nE z' x') = pE (av K z x * av J z' x') (-((K + J : Nat) : Int)) := by
  have := nE_ge z x
  have := nE_ge z' x'
  rw [← sv_norm hK z x, ← sv_norm hJ z' x', ← sv_mul K J _ _ _ _ (by omega) (by omega), pM_sv, pE_sv (K + J) _ _ (by omega)]
  exact ⟨rfl, rfl⟩
theorem natAbs_mul_W {a b : Int} {k t : Nat} (ha : a.natAbs < W ^ k) (hb : b.natAbs < W ^ t) : (a * b).natAbs < W ^ (k + t) := by
  rw [Int.natAbs_mul, Nat.pow_add]
  exact Nat.mul_lt_mul'' ha hb
set_option maxRecDepth 100000 in
theorem mulDR_calls (w : World) (n m : Bool) (B C : Nat) (v u : Value) (l k : List Nat) (x y : Int) (K J : Nat) (h : Nums w B v l) (hk : Nums w C u k) (hl : l.length ≤ 1000) (hkl : k.length ≤ 1000) (hx0 : -9223372036854775808 ≤ x) (hx1 : x ≤ 9223372036854775807) (hy0 : -9223372036854775808 ≤ y) (hy1 : y ≤ 9223372036854775807) (hK : 4000 ≤ K) (hJ : 4000 ≤ J) :
    Calls Try.prog 55 #[.agg #[.bool n, v, .int .i64 x], .agg #[.bool m, u, .int .i64 y]] w fun e w' => Below w.heap.size w w' ∧ RetQ w.heap.size (pM (av K (ival n (val W l)) x * av J (ival m (val W k)) y)) (pE (av K (ival n (val W l)) x * av J (ival m (val W k)) y) (-((K + J : Nat) : Int))) e w' := by
  have h0 := h
  have hk0 := hk
  have hlt0 := h.lt
  have hlt1 := hk.lt
  obtain ⟨A, cap, rfl, -, -, -, -⟩ := h
  obtain ⟨A', cap', rfl, -, -, -, -⟩ := hk
  obtain ⟨W0, hW, hbx, hbb, hrs, hB0, hs⟩ := start3 w 26 26 26 #[.bool n, .slice A l.length cap, .int .i64 x] #[.bool m, .slice A' k.length cap', .int .i64 y] #[.bool false, .slice none 0 0, .int .i64 0]
  have h1 := h0.up hB0
  have hk1 := hk0.up hB0
  have hs2 : w.heap.size + 2 < W0.heap.size := by omega
  have hne1 : ¬ (w.heap.size = w.heap.size + 1) := by omega
  have hne2 : ¬ (w.heap.size + 1 = w.heap.size) := by omega
  have hne3 : ¬ (w.heap.size + 2 = w.heap.size) := by omega
  have hne4 : ¬ (w.heap.size + 2 = w.heap.size + 1) := by omega
  clear hs
  have HP := countsR_calls W0 n _ _ l x h1 (by omega) hx0 hx1
  obtain ⟨z, HZ⟩ : ∃ z, Hid (ival n (val W l) = z) := ⟨_, hide rfl⟩
  obtain ⟨z', HZ'⟩ : ∃ z, Hid (ival m (val W k) = z) := ⟨_, hide rfl⟩
  have HLN : Hid (z.natAbs < W ^ l.length) := hide (by rw [← HZ.out]; exact natAbs_lt hlt0)
  have HLN' : Hid (z'.natAbs < W ^ k.length) := hide (by rw [← HZ'.out]; exact natAbs_lt hlt1)
  rw [HZ.out] at HP ⊢
  rw [HZ'.out]
  have hE1 := nE_ge z x
  have hE2 := nE_le (x := x) HLN.out
  have hF1 := nE_ge z' y
  have hF2 := nE_le (x := y) HLN'.out
  have hR := mul_norm hK hJ z x z' y
  have HML : Hid ((nM z x * nM z' y).natAbs < W ^ (l.length + k.length)) := hide (natAbs_mul_W (nM_lt HLN.out) (nM_lt HLN'.out))
  obtain ⟨M, HM⟩ : ∃ m, Hid (nM z x = m) := ⟨_, hide rfl⟩
  obtain ⟨E, HE⟩ : ∃ m, Hid (nE z x = m) := ⟨_, hide rfl⟩
  obtain ⟨M', HM'⟩ : ∃ m, Hid (nM z' y = m) := ⟨_, hide rfl⟩
  obtain ⟨E', HE'⟩ : ∃ m, Hid (nE z' y = m) := ⟨_, hide rfl⟩
  rw [HM.out, HE.out] at HP
  rw [HE.out] at hE1 hE2
  rw [HE'.out] at hF1 hF2
  rw [HM.out, HE.out, HM'.out, HE'.out] at hR
  rw [HM.out, HM'.out] at HML
  obtain ⟨R, HR⟩ : ∃ m, Hid (pM (av K z x * av J z' y) = m) := ⟨_, hide rfl⟩
  obtain ⟨X, HX⟩ : ∃ m, Hid (pE (av K z x * av J z' y) (-((K + J : Nat) : Int)) = m) := ⟨_, hide rfl⟩
  rw [HR.out, HX.out] at hR
  rw [HR.out, HX.out]
  obtain ⟨M2, HM2⟩ : ∃ m, Hid (M * M' = m) := ⟨_, hide rfl⟩
  rw [HM2.out] at hR HML
  have HRR := hide hR
  clear hR
  have hww : IntKind.i64.wrap (E + E') = E + E' := IntWalk.i64_in _ (by omega)
  obtain ⟨c0, c1, c2, -, -, -⟩ := hbx.three
  go_enter Try.func55, Try.ntmps55
  go_upto_region 1 with (fail)
  rw [← hW]
  clear hW hlt0 hlt1
  go_wp2_with fail
  refine HP.mono ?_
  rintro e w1 ⟨hb1, u, d, rfl, hu, hd⟩
  obtain ⟨A1, cap1, rfl⟩ := hu.form
  have hdl : d.length ≤ l.length := by rw [hd.len, ← HM.out]; exact nM_lt HLN.out
  clear HP c0 c1 c2
  have hbx1 := hbx.below hb1 hbx.lt
  have hbb1 := hbb.below hb1 hbb.lt
  have hrs1 := hrs.below hb1 hrs.lt
  have s1 := hb1.size
  obtain ⟨g0, g1, g2, g3, g4, g5⟩ := hbx1.three
  obtain ⟨w2, hW2, hbx2, hfar2, hk2, hs3, hB2⟩ := set3_all hbx1 (.bool (decide (M < 0))) (.slice A1 d.length cap1) (.int .i64 E)
  have hbb2 := hfar2 _ _ _ (by omega) hbb1
  have hrs2 := hfar2 _ _ _ (by omega) hrs1
  have hu2 := hk2 _ _ _ (by omega) hu
  have HB2 := hide (hB2 _ _ (hB0.trans (hb1.mono hB0.size)) (Nat.le_refl _))
  have hs4 : w.heap.size + 2 < w2.heap.size := by omega
  have hk3 := hk0.up HB2.out
  have HPB := countsR_calls w2 m _ _ k y hk3 (by omega) hy0 hy1
  rw [HZ'.out, HM'.out, HE'.out] at HPB
  clear hk2 hs3 hB2 hfar2
  go_upto_region 2 with (fail)
  rw [← hW2]
  clear hW2 g0 g1 g2 g3 g4 g5
  obtain ⟨c0, c1, c2, -, -, -⟩ := hbb2.three
  go_wp2_with fail
  refine HPB.mono ?_
  rintro e w3 ⟨hb3, u3, d3, rfl, hu3, hd3⟩
  obtain ⟨A3, cap3, rfl⟩ := hu3.form
  have hdl3 : d3.length ≤ k.length := by rw [hd3.len, ← HM'.out]; exact nM_lt HLN'.out
  clear HPB c0 c1 c2
  have hbx3 := hbx2.below hb3 hbx2.lt
  have hbb3 := hbb2.below hb3 hbb2.lt
  have hrs3 := hrs2.below hb3 hrs2.lt
  have hu5 := hu2.up hb3
  have s3 := hb3.size
  obtain ⟨g0, g1, g2, g3, g4, g5⟩ := hbb3.three
  obtain ⟨w4, hW4, hbb4, hfar4, hk4, hs5, hB4⟩ := set3_all hbb3 (.bool (decide (M' < 0))) (.slice A3 d3.length cap3) (.int .i64 E')
  have hbx4 := hfar4 _ _ _ (by omega) hbx3
  have hrs4 := hfar4 _ _ _ (by omega) hrs3
  have hu4 := hk4 _ _ _ (by omega) hu3
  have hu6 := hk4 _ _ _ (by omega) hu5
  have HB4 := hide (hB4 _ _ (HB2.out.trans (hb3.mono HB2.out.size)) (by omega))
  have hs6 : w.heap.size + 2 < w4.heap.size := by omega
  clear hk4 hs5 hB4 hfar4
  go_upto_region 3 with (fail)
  rw [← hW4]
  clear hW4 g0 g1 g2 g3 g4 g5
  obtain ⟨a0, a1, a2, -, -, -⟩ := hbx4.three
  obtain ⟨c0, c1, c2, -, -, -⟩ := hbb4.three
  have HPM := zmulR_calls w4.drew (decide (M < 0)) (decide (M' < 0)) _ _ _ _ d d3 hu6.drew hu4.drew (by omega) (by omega)
  rw [hd.val, hd3.val, ival_self, ival_self, HM2.out] at HPM
  have HPM := hide HPM
  go_region_held3 (fun w' => w'.cell? ⟨w.heap.size, 0, none⟩ = some (.bool (decide (M < 0))) ∧ w'.cell? ⟨w.heap.size, 1, none⟩ = some (.slice A1 d.length cap1) ∧ w'.cell? ⟨w.heap.size, 2, none⟩ = some (.int .i64 E) ∧ w'.cell? ⟨w.heap.size + 1, 0, none⟩ = some (.bool (decide (M' < 0))) ∧ w'.cell? ⟨w.heap.size + 1, 1, none⟩ = some (.slice A3 d3.length cap3) ∧ w'.cell? ⟨w.heap.size + 1, 2, none⟩ = some (.int .i64 E')) (go_keep)
    (first
      | (go_at_call 88; (with_reducible refine HPM.out.mono ?_); rintro e w5 ⟨hb5, u5, d5, rfl, hu5', hd5⟩
         obtain ⟨A5, cap5, rfl⟩ := hu5'.form
         have hdl5 : d5.length ≤ l.length + k.length := by rw [hd5.len]; exact HML.out
         have hbx5 := hbx4.drew.below hb5 hbx4.lt
         have hbb5 := hbb4.drew.below hb5 hbb4.lt
         have hrs5 := hrs4.drew.below hb5 hrs4.lt
         have HB5 := hide (HB4.out.drew.trans (hb5.mono HB4.out.size))
         obtain ⟨f0, f1, f2, -, -, -⟩ := hbx5.three
         obtain ⟨e0, e1, e2, -, -, -⟩ := hbb5.three
         have HPL := plainR_calls w5 (decide (M2 < 0)) _ _ d5 (E + E') hu5' (by omega) (by omega) (by omega)
         rw [hd5.val, ival_self, HRR.out.1, HRR.out.2] at HPL
         have HPL := hide HPL)
      | (go_at_call 83; (with_reducible refine HPL.out.mono ?_); rintro e w6 ⟨hb6, u6, d6, rfl, hu6', hd6⟩
         obtain ⟨A6, cap6, rfl⟩ := hu6'.form
         have hbx6 := hbx5.below hb6 hbx5.lt
         have hbb6 := hbb5.below hb6 hbb5.lt
         have hrs6 := hrs5.below hb6 hrs5.lt
         obtain ⟨j0, j1, j2, -, -, -⟩ := hbb6.three
         have HB6 := hide (HB5.out.trans (hb6.mono HB5.out.size))
         have hl56 : w.heap.size + 2 < w5.heap.size := hrs5.lt
         obtain ⟨i0, i1, i2, -, -, -⟩ := hbx6.three
         obtain ⟨g0, g1, g2, g3, g4, g5⟩ := hrs6.three))
  go_wp2_with fail
  refine bodyPost_ret (results_dyad rfl _ _ _ _ _ _ _ rfl (((hrs6.set_ 0 _).set_ 1 _).set_ 2 _)) rfl ⟨below3 HB6.out (by omega) _ _ _, ?_⟩
  exact retQ2 (B := w5.heap.size) (by omega) (by omega) hu6' hd6 _ _ _
end Go.Proofs.Ytnkembnachhicaa
end

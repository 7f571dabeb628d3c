/- The document's dyads: near counts Norm Of Sign Log. -/
import Derived.Test.YtnkembnachhicaaRefD1
import Derived.Test.YtnkembnachhicaaPat3
import Derived.Test.YtnkembnachhicaaSee4
set_option linter.unusedVariables false
set_option linter.unusedSimpArgs false
namespace Go.Proofs.Ytnkembnachhicaa
open Go.RowKit
open L (val dig nth)

theorem field_dyad0 (a b c : Value) (w : World) : (Instr.field 26 (.agg #[a, b, c]) 0).run Try.prog w = .ok (.agg #[a, b]) w := by kernel_rfl
theorem nearR_calls (w : World) (n : Int) : Calls Try.prog 70 #[.int .i64 n] w fun e w' => w = w' ∧ e = .returned (.int .i64 (nearZ n)) := by
  go_enter Try.func70, Try.ntmps70
  go_wp2
  go_ret
  exact ⟨rfl, rfl⟩
theorem n_in {z x : Int} (h1 : -4000 ≤ x) (h2 : x ≤ 4000) : nM z x = pM z ∧ nE z x = pE z x := by
  unfold nM nE
  rw [cM_in h1 h2]
  by_cases hz : z = 0
  · subst hz; exact ⟨rfl, by rw [pE_zero, pE_zero]⟩
  · rw [cE_in h1 h2 hz]; exact ⟨rfl, rfl⟩
theorem n_out {z x : Int} (h : x < -4000 ∨ 4000 < x) : nM z x = 0 ∧ nE z x = 0 := by
  have : cM z x = 0 := by unfold cM; rw [if_pos (by omega)]
  unfold nM nE; rw [this]; exact ⟨pM_zero, pE_zero _⟩
/-- The end of a function whose result is a dyad that a callee handed back. -/
theorem retQ2 {w w2 : World} {r B : Nat} {z x : Int} {v : Value} {d : List Nat} (hB : w.heap.size ≤ B) (hrB : r < B) (hu : Nums w2 B v d) (hd : Canon d z.natAbs) (a b c : Value) :
    RetQ w.heap.size z x (.returned (.agg #[.bool (decide (z < 0)), v, .int .i64 x])) (((w2.setCell ⟨r, 0, none⟩ a).setCell ⟨r, 1, none⟩ b).setCell ⟨r, 2, none⟩ c) :=
  ⟨v, d, rfl, (nums_low3 hu hrB a b c).mono hB, hd⟩

theorem countsR_calls (w : World) (n : Bool) (B : Nat) (v : Value) (l : List Nat) (x : Int) (h : Nums w B v l) (hl : l.length ≤ 40000) (hx0 : -9223372036854775808 ≤ x) (hx1 : x ≤ 9223372036854775807) :
    Calls Try.prog 68 #[.agg #[.bool n, v, .int .i64 x]] w fun e w' => Below w.heap.size w w' ∧ RetQ w.heap.size (nM (ival n (val W l)) x) (nE (ival n (val W l)) x) e w' := by
  have h0 := h
  obtain ⟨A, cap, rfl, -, -, -, hc⟩ := h
  obtain ⟨W0, hW, hbx, hrs, hB0, hs⟩ := start2 w 26 26 #[.bool n, .slice A l.length cap, .int .i64 x] #[.bool false, .slice none 0 0, .int .i64 0]
  have h1 := h0.up hB0
  have hs2 : w.heap.size + 1 < W0.heap.size := by omega
  clear hs hc
  obtain ⟨z, HZ⟩ : ∃ z, Hid (ival n (val W l) = z) := ⟨_, hide rfl⟩
  rw [HZ.out]
  obtain ⟨c0, c1, c2, -, -, -⟩ := hbx.three
  obtain ⟨d0, d1, d2, d3, d4, d5⟩ := hrs.three
  go_enter Try.func68, Try.ntmps68
  go_upto_region 1 with (fail)
  rw [← hW]
  clear hW
  by_cases h5 : x < -4000
  · have HR := hide (n_out (z := z) (x := x) (.inl h5))
    go_wp2_with fail
    refine bodyPost_ret (results_dyad rfl _ _ _ _ _ _ _ rfl (((hrs.set_ 0 _).set_ 1 _).set_ 2 _)) rfl ⟨below3 hB0 (by omega) _ _ _, ?_⟩
    rw [HR.out.1, HR.out.2]
    exact ⟨_, [], rfl, Nums.nil _ _, (L.dig_zero W).symm⟩
  · by_cases h6 : 4000 < x
    · have HR := hide (n_out (z := z) (x := x) (.inr h6))
      go_wp2_with fail
      refine bodyPost_ret (results_dyad rfl _ _ _ _ _ _ _ rfl (((hrs.set_ 0 _).set_ 1 _).set_ 2 _)) rfl ⟨below3 hB0 (by omega) _ _ _, ?_⟩
      rw [HR.out.1, HR.out.2]
      exact ⟨_, [], rfl, Nums.nil _ _, (L.dig_zero W).symm⟩
    · have HR := hide (n_in (z := z) (x := x) (by omega) (by omega))
      have HP := plainR_calls W0 n B _ l x h1 hl (by omega) (by omega)
      obtain ⟨M, HM⟩ : ∃ m, Hid (pM z = m) := ⟨_, hide rfl⟩
      obtain ⟨E, HE⟩ : ∃ m, Hid (pE z x = m) := ⟨_, hide rfl⟩
      rw [HZ.out, HM.out, HE.out] at HP
      clear d0 d1 d2 d3 d4 d5
      go_wp2_with fail
      refine HP.mono ?_
      rintro e w1 ⟨hb1, u, d, rfl, hu, hd⟩
      obtain ⟨A1, cap1, rfl⟩ := hu.form
      have hrs1 := hrs.below hb1 hrs.lt
      have s1 := hb1.size
      obtain ⟨d0, d1, d2, d3, d4, d5⟩ := hrs1.three
      go_wp2_with fail
      refine bodyPost_ret (results_dyad rfl _ _ _ _ _ _ _ rfl (((hrs1.set_ 0 _).set_ 1 _).set_ 2 _)) rfl ⟨below3 (hB0.trans (hb1.mono hB0.size)) (by omega) _ _ _, ?_⟩
      rw [HR.out.1, HR.out.2, HM.out, HE.out]
      exact retQ2 (by omega) hs2 hu hd _ _ _

theorem normDR_calls (w : World) (n : Bool) (B : Nat) (v : Value) (l : List Nat) (x : Int) (h : Nums w B v l) (hl : l.length ≤ 40000) (hx0 : -9223372036854775808 ≤ x) (hx1 : x ≤ 9223372036854775807) :
    Calls Try.prog 33 #[.agg #[.bool n, v, .int .i64 x]] w fun e w' => Below w.heap.size w w' ∧ RetQ w.heap.size (nM (ival n (val W l)) x) (nE (ival n (val W l)) x) e w' := by
  have h0 := h
  obtain ⟨A, cap, rfl, -, -, -, hc⟩ := h
  obtain ⟨W0, hW, hbx, hrs, hB0, hs⟩ := start2 w 26 26 #[.bool n, .slice A l.length cap, .int .i64 x] #[.bool false, .slice none 0 0, .int .i64 0]
  have h1 := h0.up hB0
  have hs2 : w.heap.size + 1 < W0.heap.size := by omega
  clear hs hc
  have HP := countsR_calls W0 n B _ l x h1 hl hx0 hx1
  obtain ⟨M, HM⟩ : ∃ m, Hid (nM (ival n (val W l)) x = m) := ⟨_, hide rfl⟩
  obtain ⟨E, HE⟩ : ∃ m, Hid (nE (ival n (val W l)) x = m) := ⟨_, hide rfl⟩
  rw [HM.out, HE.out] at HP ⊢
  obtain ⟨c0, c1, c2, -, -, -⟩ := hbx.three
  go_enter Try.func33, Try.ntmps33
  go_upto_region 1 with (fail)
  rw [← hW]
  clear hW
  go_wp2_with fail
  refine HP.mono ?_
  rintro e w1 ⟨hb1, u, d, rfl, hu, hd⟩
  obtain ⟨A1, cap1, rfl⟩ := hu.form
  have hrs1 := hrs.below hb1 hrs.lt
  have s1 := hb1.size
  obtain ⟨d0, d1, d2, d3, d4, d5⟩ := hrs1.three
  go_wp2_with fail
  refine bodyPost_ret (results_dyad rfl _ _ _ _ _ _ _ rfl (((hrs1.set_ 0 _).set_ 1 _).set_ 2 _)) rfl ⟨below3 (hB0.trans (hb1.mono hB0.size)) (by omega) _ _ _, ?_⟩
  exact retQ2 (by omega) hs2 hu hd _ _ _

theorem ofDR_calls (w : World) (n : Bool) (B : Nat) (v : Value) (l : List Nat) (x : Int) (h : Nums w B v l) (hl : l.length ≤ 40000) (hx0 : -9223372036854775808 ≤ x) (hx1 : x ≤ 9223372036854775807) :
    Calls Try.prog 35 #[.agg #[.bool n, v], .int .i64 x] w fun e w' => Below w.heap.size w w' ∧ RetQ w.heap.size (nM (ival n (val W l)) x) (nE (ival n (val W l)) x) e w' := by
  have h0 := h
  obtain ⟨A, cap, rfl, -, -, -, hc⟩ := h
  obtain ⟨W0, hW, hbx, hrs, hB0, hs⟩ := start2 w 24 26 #[.bool n, .slice A l.length cap] #[.bool false, .slice none 0 0, .int .i64 0]
  have h1 := h0.up hB0
  have hs2 : w.heap.size + 1 < W0.heap.size := by omega
  clear hs hc
  have HP := countsR_calls W0 n B _ l x h1 hl hx0 hx1
  obtain ⟨M, HM⟩ : ∃ m, Hid (nM (ival n (val W l)) x = m) := ⟨_, hide rfl⟩
  obtain ⟨E, HE⟩ : ∃ m, Hid (nE (ival n (val W l)) x = m) := ⟨_, hide rfl⟩
  rw [HM.out, HE.out] at HP ⊢
  obtain ⟨c0, c1, -, -⟩ := hbx.two
  go_enter Try.func35, Try.ntmps35
  go_upto_region 1 with (fail)
  rw [← hW]
  clear hW
  go_wp2_with fail
  refine HP.mono ?_
  rintro e w1 ⟨hb1, u, d, rfl, hu, hd⟩
  obtain ⟨A1, cap1, rfl⟩ := hu.form
  have hrs1 := hrs.below hb1 hrs.lt
  have s1 := hb1.size
  obtain ⟨d0, d1, d2, d3, d4, d5⟩ := hrs1.three
  go_wp2_with fail
  refine bodyPost_ret (results_dyad rfl _ _ _ _ _ _ _ rfl (((hrs1.set_ 0 _).set_ 1 _).set_ 2 _)) rfl ⟨below3 (hB0.trans (hb1.mono hB0.size)) (by omega) _ _ _, ?_⟩
  exact retQ2 (by omega) hs2 hu hd _ _ _

set_option maxRecDepth 100000 in
theorem signDR_calls (w : World) (n : Bool) (B : Nat) (v : Value) (l : List Nat) (x : Int) (h : Nums w B v l) (hl : l.length ≤ 40000) (hx0 : -9223372036854775808 ≤ x) (hx1 : x ≤ 9223372036854775807) :
    Calls Try.prog 39 #[.agg #[.bool n, v, .int .i64 x]] w fun e w' => Below w.heap.size w w' ∧ e = .returned (.int .i64 (cM (ival n (val W l)) x).sign) := by
  have h0 := h
  have hlt0 := h.lt
  obtain ⟨A, cap, rfl, -, -, -, hc⟩ := h
  obtain ⟨W0, hW, hbx, hB0, hs⟩ := start1 w 26 #[.bool n, .slice A l.length cap, .int .i64 x]
  have h1 := h0.up hB0
  clear hs hc
  have HP := countsR_calls W0 n B _ l x h1 hl hx0 hx1
  obtain ⟨z, HZ⟩ : ∃ z, Hid (ival n (val W l) = z) := ⟨_, hide rfl⟩
  have HLN : Hid (z.natAbs < W ^ l.length) := hide (by rw [← HZ.out]; exact natAbs_lt hlt0)
  obtain ⟨M, HM⟩ : ∃ m, Hid (nM z x = m) := ⟨_, hide rfl⟩
  obtain ⟨E, HE⟩ : ∃ m, Hid (nE z x = m) := ⟨_, hide rfl⟩
  rw [HZ.out, HM.out, HE.out] at HP
  rw [HZ.out]
  obtain ⟨s, HSG⟩ : ∃ s, Hid ((cM z x).sign = s) := ⟨_, hide rfl⟩
  have HSM : Hid (M.sign = s) := hide (by
    rw [← HSG.out, ← HM.out]; unfold nM
    have := pM_mul (cM z x)
    conv => rhs; rw [← this, Int.sign_mul, Int.sign_eq_one_of_pos (two_pow_int _), Int.mul_one])
  rw [HSG.out]
  obtain ⟨c0, c1, c2, -, -, -⟩ := hbx.three
  go_enter Try.func39, Try.ntmps39
  go_upto_region 1 with (fail)
  rw [← hW]
  clear hW hlt0
  go_wp2_with fail
  refine HP.mono ?_
  rintro e w1 ⟨hb1, u, d, rfl, hu, hd⟩
  obtain ⟨A1, cap1, rfl⟩ := hu.form
  have hdl : d.length ≤ l.length := by rw [hd.len, ← HM.out]; exact nM_lt HLN.out
  have HP2 := zsignR_calls w1 (decide (M < 0)) _ _ d hu (by omega)
  rw [hd.val, ival_self, HSM.out] at HP2
  have hfl := field_dyad0 (.bool (decide (M < 0))) (.slice A1 d.length cap1) (.int .i64 E) w1
  clear HP
  go_wp2_with fail
  refine HP2.mono ?_
  rintro e w2 ⟨hb2, rfl⟩
  go_wp2_with fail
  go_ret
  exact ⟨(hB0.trans (hb1.mono hB0.size)).trans (hb2.mono (by have := hB0.size; have := hb1.size; omega)), rfl⟩
theorem lg_norm (z x : Int) : lgN z x = (if nM z x = 0 then 0 else nE z x + nbits (nM z x).natAbs - 1) ∧ lgOk z x = decide (nM z x ≠ 0) := by
  by_cases h : cM z x = 0
  · have : nM z x = 0 := by unfold nM; rw [h]; exact pM_zero
    unfold lgN lgOk
    rw [this, h]; exact ⟨rfl, rfl⟩
  · have hne : nM z x ≠ 0 := pM_ne h
    have e := congrArg Int.natAbs (pM_mul (cM z x))
    rw [Int.natAbs_mul, natAbs_pow] at e
    have h2 := nbits_mul (pM (cM z x)).natAbs (tz (cM z x).natAbs) (by have := pM_ne h; omega)
    rw [e] at h2
    unfold lgN lgOk
    rw [if_neg h, if_neg hne, decide_eq_true h, decide_eq_true hne]
    refine ⟨?_, rfl⟩
    unfold nE nM
    rw [pE_of h]; omega

set_option maxRecDepth 100000 in
theorem logDR_calls (w : World) (n : Bool) (B : Nat) (v : Value) (l : List Nat) (x : Int) (h : Nums w B v l) (hl : l.length ≤ 40000) (hx0 : -9223372036854775808 ≤ x) (hx1 : x ≤ 9223372036854775807) :
    Calls Try.prog 37 #[.agg #[.bool n, v, .int .i64 x]] w fun e w' => Below w.heap.size w w' ∧
      e = .returned (.tuple #[.int .i64 (lgN (ival n (val W l)) x), .bool (lgOk (ival n (val W l)) x)]) := by
  have h0 := h
  have hlt0 := h.lt
  obtain ⟨A, cap, rfl, -, -, -, hc⟩ := h
  obtain ⟨W0, hW, hbx, hB0, hs⟩ := start1 w 26 #[.bool n, .slice A l.length cap, .int .i64 x]
  have h1 := h0.up hB0
  have hs2 : w.heap.size < W0.heap.size := by omega
  clear hs hc
  have HP := countsR_calls W0 n B _ l x h1 hl hx0 hx1
  obtain ⟨z, HZ⟩ : ∃ z, Hid (ival n (val W l) = z) := ⟨_, hide rfl⟩
  have HLN : Hid (z.natAbs < W ^ l.length) := hide (by rw [← HZ.out]; exact natAbs_lt hlt0)
  obtain ⟨M, HM⟩ : ∃ m, Hid (nM z x = m) := ⟨_, hide rfl⟩
  obtain ⟨E, HE⟩ : ∃ m, Hid (nE z x = m) := ⟨_, hide rfl⟩
  have hE := nE_bounds (x := x) HLN.out
  rw [HE.out] at hE
  have hLN := lg_norm z x
  rw [HM.out, HE.out] at hLN
  rw [HZ.out, HM.out, HE.out] at HP
  rw [HZ.out]
  obtain ⟨lgv, HLG⟩ : ∃ s, Hid (lgN z x = s) := ⟨_, hide rfl⟩
  obtain ⟨lgb, HLB⟩ : ∃ s, Hid (lgOk z x = s) := ⟨_, hide rfl⟩
  rw [HLG.out, HLB.out] at hLN ⊢
  have HLNN := hide hLN
  clear hLN
  obtain ⟨c0, c1, c2, -, -, -⟩ := hbx.three
  go_enter Try.func37, Try.ntmps37
  go_upto_region 1 with (fail)
  rw [← hW]
  clear hW hlt0
  go_wp2_with fail
  refine HP.mono ?_
  rintro e w1 ⟨hb1, u, d, rfl, hu, hd⟩
  obtain ⟨A1, cap1, rfl⟩ := hu.form
  have hdl : d.length ≤ l.length := by rw [hd.len, ← HM.out]; exact nM_lt HLN.out
  clear HP c0 c1 c2
  have hbx1 := hbx.below hb1 hbx.lt
  have s1 := hb1.size
  obtain ⟨g0, g1, g2, g3, g4, g5⟩ := hbx1.three
  obtain ⟨w2, hW2, hbx2, hB2, hkeep, hs3⟩ := set3 hbx1 (.bool (decide (M < 0))) (.slice A1 d.length cap1) (.int .i64 E)
  have hu2 := hkeep _ _ _ hs2 hu
  have HB2 := hide ((hB0.trans (hb1.mono hB0.size)).trans (hB2.mono (Nat.le_refl _)))
  clear hkeep hs3
  go_upto_region 2 with (fail)
  rw [← hW2]
  clear hW2 g0 g1 g2 g3 g4 g5
  obtain ⟨g0, g1, g2, -, -, -⟩ := hbx2.three
  have HP := zbitlenR_calls w2 (decide (M < 0)) _ _ d hu2 (by omega)
  rw [hd.val] at HP
  have hnb : nbits M.natAbs ≤ 64 * l.length := by rw [nbits_le, ← W_pow, ← HM.out]; exact nM_lt HLN.out
  obtain ⟨N, HN⟩ : ∃ N, Hid (nbits M.natAbs = N) := ⟨_, hide rfl⟩
  have hN0 : Hid (N = 0 ↔ M = 0) := hide (by
    rw [← HN.out]
    constructor
    · intro h; by_cases hm : M = 0
      · exact hm
      · have := nbits_pos (n := M.natAbs) (by omega); omega
    · rintro rfl; exact nbits_zero)
  rw [HN.out] at HP hnb
  go_wp2_with fail
  refine HP.mono ?_
  rintro e w3 ⟨hb3, rfl⟩
  clear HP g0 g1 g2
  have hbx3 := hbx2.below hb3 hbx2.lt
  have HB3 := hide (HB2.out.trans (hb3.mono HB2.out.size))
  obtain ⟨g0, g1, g2, -, -, -⟩ := hbx3.three
  by_cases hz : M = 0
  · have d0 : ((N : Int) == 0) = true := by rw [hN0.out.2 hz]; rfl
    obtain rfl : lgv = 0 := by rw [HLNN.out.1, if_pos hz]
    obtain rfl : lgb = false := by rw [HLNN.out.2, hz]; rfl
    clear hz
    go_wp2_with fail
    go_ret2
    exact ⟨HB3.out, rfl⟩
  · have d0 : ((N : Int) == 0) = false := by rw [beq_eq_false_iff_ne]; intro h; exact hz (hN0.out.1 (by omega))
    have HL1 : Hid (lgv = E + N - 1) := hide (by rw [HLNN.out.1, if_neg hz, HN.out])
    obtain rfl : lgb = true := by rw [HLNN.out.2]; exact decide_eq_true hz
    clear hz
    go_wp2_with fail
    go_ret2
    exact ⟨HB3.out, by rw [HL1.out]; rfl⟩
end Go.Proofs.Ytnkembnachhicaa

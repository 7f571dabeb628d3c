/- The document's balls: Down, Over, Cmp, Right. -/
import Derived.Test.YtnfbngiabdlclaaGreatBa8
import Derived.Test.YtnfbngiabdlclaaGreatRefDC
set_option linter.unusedVariables false
set_option linter.unusedSimpArgs false
namespace Go.Proofs.YtnfbngiabdlclaaGreat
open Go.RowKit
open L (val dig nth)

theorem vDn_ge {z c : Int} (h : 0 ≤ c) : vDn z c = z / 2 ^ c.toNat := by
  unfold vDn
  by_cases h0 : c = 0
  · subst h0; simp
  · rw [if_neg (by omega)]
section
variable {w : World} {k k' : Nat} {n m : Bool} {A A' : Option Addr} {len cap len' cap' : Nat} {z y : Int}
theorem d_zneg (h : Q w k n A len cap z) (hk : k ≤ 30000) :
    Calls Tryz.prog 113 #[.agg #[.bool n, .slice A len cap]] w fun e w' => Below w.heap.size w w' ∧ RetZ w.heap.size (-z) e w' := by
  obtain ⟨d, h1, h2, rfl⟩ := h
  exact znegR_calls w n 0 _ d h1 (by omega)
theorem d_zmul (h : Q w k n A len cap z) (h' : Q w k' m A' len' cap' y) (hk : k ≤ 30000) (hk' : k' ≤ 30000) :
    Calls Tryz.prog 69 #[.agg #[.bool n, .slice A len cap], .agg #[.bool m, .slice A' len' cap']] w fun e w' => Below w.heap.size w w' ∧ RetZ w.heap.size (z * y) e w' := by
  obtain ⟨d, h1, h2, rfl⟩ := h
  obtain ⟨d', h1', h2', rfl⟩ := h'
  exact zmulR_calls w n m 0 0 _ _ d d' h1 h1' (by omega) (by omega)
theorem d_zsub (h : Q w k n A len cap z) (h' : Q w k' m A' len' cap' y) (hk : k ≤ 30000) (hk' : k' ≤ 30000) :
    Calls Tryz.prog 77 #[.agg #[.bool n, .slice A len cap], .agg #[.bool m, .slice A' len' cap']] w fun e w' => Below w.heap.size w w' ∧ RetZ w.heap.size (z - y) e w' := by
  obtain ⟨d, h1, h2, rfl⟩ := h
  obtain ⟨d', h1', h2', rfl⟩ := h'
  exact zsubR_calls w n m 0 0 _ _ d d' h1 h1' (by omega) (by omega)
theorem d_sign (h : Q w k n A len cap z) (hk : k ≤ 30000) :
    Calls Tryz.prog 83 #[.agg #[.bool n, .slice A len cap]] w fun e w' => Below w.heap.size w w' ∧ e = .returned (.int .i64 z.sign) := by
  obtain ⟨d, h1, h2, rfl⟩ := h
  exact zsignR_calls w n 0 _ d h1 (by omega)
theorem d_shl2 (h : Q w k n A len cap z) (hk : k ≤ 30000) (c : Nat) (hc : c ≤ 8000) :
    Calls Tryz.prog 84 #[.agg #[.bool n, .slice A len cap], .int .i64 (c : Nat)] w fun e w' => Below w.heap.size w w' ∧ RetZ w.heap.size (z * 2 ^ c) e w' := by
  obtain ⟨d, h1, h2, rfl⟩ := h
  have := zshlR_calls w n 0 _ d (c : Int) h1 (by omega) (by omega) (by omega)
  rwa [show clampN (c : Int) = c from by unfold clampN; omega] at this
theorem d_zshr (h : Q w k n A len cap z) (hk : k ≤ 30000) (c : Nat) (hc : c ≤ 8000) :
    Calls Tryz.prog 115 #[.agg #[.bool n, .slice A len cap], .int .i64 (c : Nat)] w fun e w' => Below w.heap.size w w' ∧ RetZ w.heap.size (z / 2 ^ c) e w' := by
  obtain ⟨d, h1, h2, rfl⟩ := h
  have := zshrR_calls w n 0 _ d (c : Int) h1 (by omega) (by omega) (by omega)
  rwa [show clampN (c : Int) = c from by unfold clampN; omega] at this
end
set_option maxRecDepth 100000 in
theorem d_zcmp {w : World} {k k' : Nat} {n m : Bool} {A A' : Option Addr} {len cap len' cap' : Nat} {x y : Int} (h : Q w k n A len cap x) (h' : Q w k' m A' len' cap' y) (hk : k ≤ 1000) (hk' : k' ≤ 1000) :
    Calls Tryz.prog 64 #[.agg #[.bool n, .slice A len cap], .agg #[.bool m, .slice A' len' cap']] w fun e w' => Below w.heap.size w w' ∧ e = .returned (.int .i64 (cmpZ x y)) := by
  obtain ⟨W0, hW, ha, hb, hB0, hs⟩ := start2 w 25 25 #[.bool n, .slice A len cap] #[.bool m, .slice A' len' cap']
  have HB0 := hide hB0
  clear hs hB0
  obtain ⟨a0, a1, -, -⟩ := ha.two
  obtain ⟨b0, b1, -, -⟩ := hb.two
  have HS := hide (d_zsub (h.at_ HB0) (h'.at_ HB0) (by omega) (by omega))
  have hl : (x - y).natAbs < W ^ (k + k' + 1) := two_lt (Int.natAbs_sub_le _ _) (Nat.lt_of_lt_of_le h.lt (Nat.pow_le_pow_right W_pos (by omega))) (Nat.lt_of_lt_of_le h'.lt (Nat.pow_le_pow_right W_pos (by omega))) (Nat.lt_succ_self (k + k'))
  rw [cmpZ_sub]
  obtain ⟨z, HZ⟩ : ∃ z, Hid (x - y = z) := ⟨_, hide rfl⟩
  rw [HZ.out] at HS hl ⊢
  have HL := hide hl
  obtain ⟨s, HSG⟩ : ∃ s, Hid (z.sign = s) := ⟨_, hide rfl⟩
  rw [HSG.out]
  clear hl
  go_enter Tryz.func64, Tryz.ntmps64
  go_upto_region 1 with (fail)
  rw [← hW]
  clear hW
  go_wp2_with fail
  refine HS.out.mono ?_
  rintro e w1 ⟨hb1, u1, d1, rfl, hu1, hd1⟩
  obtain ⟨C1, cc1, rfl⟩ := hu1.form
  have HB1 := hide (HB0.out.trans (hb1.mono HB0.out.size))
  have HG := hide (d_sign (RetZ.q hu1 hd1 HL.out) (by omega))
  rw [HSG.out] at HG
  go_wp2_with fail
  refine HG.out.mono ?_
  rintro e w2 ⟨hb2, rfl⟩
  have HB2 := hide (HB1.out.trans (hb2.mono HB1.out.size))
  go_wp2_with fail
  go_ret
  exact ⟨HB2.out, rfl⟩

set_option maxRecDepth 100000 in
theorem rightR_calls {w : World} {k k' : Nat} {n m : Bool} {A A' : Option Addr} {len cap len' cap' : Nat} {x y : Int} (q : Int) (h : Q w k n A len cap x) (h' : Q w k' m A' len' cap' y) (hk : k ≤ 1000) (hk' : k' ≤ 1000) :
    Calls Tryz.prog 23 #[.agg #[.bool n, .slice A len cap, .bool m, .slice A' len' cap', .int .i64 q]] w fun e w' => Below w.heap.size w w' ∧ e = .returned (.bool (rightB x y q)) := by
  obtain ⟨W0, hW, hbx, hB0, hs⟩ := start1 w 27 #[.bool n, .slice A len cap, .bool m, .slice A' len' cap', .int .i64 q]
  have HB0 := hide hB0
  clear hs hB0
  obtain ⟨c0, c1, c2, c3, c4, -⟩ := hbx.five
  have HC := hide (d_zcmp (h.at_ HB0) (h'.at_ HB0) (by omega) (by omega))
  obtain ⟨c, HCC⟩ : ∃ c, Hid (cmpZ x y = c) := ⟨_, hide rfl⟩
  rw [HCC.out] at HC
  have HL : Hid (c ≤ 0 ↔ x ≤ y) := hide (by rw [← HCC.out]; exact cmpZ_le x y)
  obtain ⟨r, HR⟩ : ∃ r, Hid (rightB x y q = r) := ⟨_, hide rfl⟩
  have HRR : Hid (r = (decide (0 ≤ q ∧ q ≤ 2048) && decide (x ≤ y))) := hide (by rw [← HR.out]; rfl)
  rw [HR.out]
  go_enter Tryz.func23, Tryz.ntmps23
  go_upto_region 1 with (fail)
  rw [← hW]
  clear hW
  go_wp2_with fail
  refine HC.out.mono ?_
  rintro e w1 ⟨hb1, rfl⟩
  have HB1 := hide (HB0.out.trans (hb1.mono HB0.out.size))
  have hbx := hbx.below hb1 hbx.lt
  obtain ⟨c0, c1, c2, c3, c4, -⟩ := hbx.five
  by_cases hc : c ≤ 0
  · have hl := HL.out.1 hc
    by_cases h0 : 0 ≤ q
    · by_cases h1 : q ≤ 2048
      · have hr : r = true := by rw [HRR.out, decide_eq_true ⟨h0, h1⟩, decide_eq_true hl]; rfl
        subst hr
        go_wp2_with fail
        go_ret
        exact ⟨HB1.out, rfl⟩
      · have hr : r = false := by rw [HRR.out, decide_eq_false (fun h => h1 h.2)]; rfl
        subst hr
        go_wp2_with fail
        go_ret
        first | exact ⟨HB1.out, rfl⟩ | exact ⟨HB1.out, congrArg (fun b => Ending.returned (Value.bool b)) (decide_eq_false (by omega))⟩
    · have hr : r = false := by rw [HRR.out, decide_eq_false (fun h => h0 h.1)]; rfl
      subst hr
      go_wp2_with fail
      go_ret
      exact ⟨HB1.out, rfl⟩
  · have hl : ¬ x ≤ y := fun h => hc (HL.out.2 h)
    have hr : r = false := by rw [HRR.out, decide_eq_false hl, Bool.and_false]
    subst hr
    go_wp2_with fail
    go_ret
    exact ⟨HB1.out, rfl⟩

set_option maxRecDepth 100000 in
theorem bdownR_calls {w : World} {k : Nat} {n : Bool} {A : Option Addr} {len cap : Nat} {z : Int} (c : Int) (h : Q w k n A len cap z) (hk : k ≤ 30000) (hc0 : -8000 ≤ c) (hc1 : c ≤ 8000) :
    Calls Tryz.prog 61 #[.agg #[.bool n, .slice A len cap], .int .i64 c] w fun e w' => Below w.heap.size w w' ∧ RetZ w.heap.size (vDn z c) e w' := by
  obtain ⟨W0, hW, hbx, hrs, hB0, hs⟩ := start2 w 25 25 #[.bool n, .slice A len cap] #[.bool false, .slice none 0 0]
  have HB0 := hide hB0
  have hs2 : w.heap.size + 2 ≤ W0.heap.size := by omega
  clear hs hB0
  obtain ⟨c0, c1, -, -⟩ := hbx.two
  by_cases hle : c < 0
  · have HS := d_shl2 (h.at_ HB0) hk (-c).toNat (by omega)
    rw [show (((-c).toNat : Nat) : Int) = -c from by omega] at HS
    have HV : Hid (vDn z c = z * 2 ^ (-c).toNat) := hide (by unfold vDn; rw [if_pos (by omega)])
    rw [← HV.out] at HS
    have HSS := hide HS
    have hw : IntKind.i64.wrap (-c) = -c := by rw [IntWalk.i64_in _ (by omega)]
    clear HS HV
    obtain ⟨x, HX⟩ : ∃ x, Hid (vDn z c = x) := ⟨_, hide rfl⟩
    rw [HX.out] at HSS ⊢
    go_enter Tryz.func61, Tryz.ntmps61
    go_upto_region 1 with (fail)
    rw [← hW]
    clear hW
    go_wp2_with fail
    refine HSS.out.mono ?_
    rintro e w1 ⟨hb1, u, d, rfl, hu, hd⟩
    obtain ⟨A1, cap1, rfl⟩ := hu.form
    have rs1 := hrs.below hb1 hrs.lt
    have HB1 := hide (HB0.out.trans (hb1.mono HB0.out.size))
    obtain ⟨r0, r1, r2, r3⟩ := rs1.two
    go_wp2_with fail
    refine bodyPost_ret (results_int rfl _ _ _ _ _ _ rfl (blk_two rs1)) rfl ⟨below2 HB1.out (by omega) _ _, ?_⟩
    exact ⟨_, d, rfl, (nums_low2 (r := w.heap.size + 1) (hu.mono hs2) (by omega) _ _).mono (by omega), hd⟩
  · have HS := d_zshr (h.at_ HB0) hk c.toNat (by omega)
    rw [show ((c.toNat : Nat) : Int) = c from by omega] at HS
    have HV : Hid (vDn z c = z / 2 ^ c.toNat) := hide (vDn_ge (by omega))
    rw [← HV.out] at HS
    have HSS := hide HS
    clear HS HV
    obtain ⟨x, HX⟩ : ∃ x, Hid (vDn z c = x) := ⟨_, hide rfl⟩
    rw [HX.out] at HSS ⊢
    go_enter Tryz.func61, Tryz.ntmps61
    go_upto_region 1 with (fail)
    rw [← hW]
    clear hW
    go_wp2_with fail
    refine HSS.out.mono ?_
    rintro e w1 ⟨hb1, u, d, rfl, hu, hd⟩
    obtain ⟨A1, cap1, rfl⟩ := hu.form
    have rs1 := hrs.below hb1 hrs.lt
    have HB1 := hide (HB0.out.trans (hb1.mono HB0.out.size))
    obtain ⟨r0, r1, r2, r3⟩ := rs1.two
    go_wp2_with fail
    refine bodyPost_ret (results_int rfl _ _ _ _ _ _ rfl (blk_two rs1)) rfl ⟨below2 HB1.out (by omega) _ _, ?_⟩
    exact ⟨_, d, rfl, (nums_low2 (r := w.heap.size + 1) (hu.mono hs2) (by omega) _ _).mono (by omega), hd⟩


set_option maxRecDepth 100000 in
theorem bupR_calls {w : World} {k : Nat} {n : Bool} {A : Option Addr} {len cap : Nat} {z : Int} (c : Int) (h : Q w k n A len cap z) (hk : k ≤ 29000) (hc0 : -8000 ≤ c) (hc1 : c ≤ 8000) :
    Calls Tryz.prog 62 #[.agg #[.bool n, .slice A len cap], .int .i64 c] w fun e w' => Below w.heap.size w w' ∧ RetZ w.heap.size (vOv z c) e w' := by
  obtain ⟨W0, hW, hbx, hrs, hB0, hs⟩ := start2 w 25 25 #[.bool n, .slice A len cap] #[.bool false, .slice none 0 0]
  have HB0 := hide hB0
  have hs2 : w.heap.size + 2 ≤ W0.heap.size := by omega
  clear hs hB0
  obtain ⟨c0, c1, -, -⟩ := hbx.two
  have hz := h.lt
  have hz2 : (-z).natAbs < W ^ k := by rw [Int.natAbs_neg]; exact hz
  have HL2 := hide (vDn_lt hz2 hc0)
  have HL1 := hide hz2
  have HN1 := hide (d_zneg (h.at_ HB0) (by omega))
  obtain ⟨x2, HX2⟩ : ∃ x, Hid (vDn (-z) c = x) := ⟨_, hide rfl⟩
  obtain ⟨x1, HX1⟩ : ∃ x, Hid (-z = x) := ⟨_, hide rfl⟩
  have HV : Hid (vOv z c = -x2) := hide (by unfold vOv; rw [HX2.out])
  rw [HX2.out] at HL2
  rw [HX1.out] at HL1 HN1 HX2
  rw [HV.out]
  obtain ⟨x3, HX3⟩ : ∃ x, Hid (-x2 = x) := ⟨_, hide rfl⟩
  rw [HX3.out]
  clear hz hz2
  go_enter Tryz.func62, Tryz.ntmps62
  go_upto_region 1 with (fail)
  rw [← hW]
  clear hW
  go_wp2_with fail
  refine HN1.out.mono ?_
  rintro e w1 ⟨hb1, u1, d1, rfl, hu1, hd1⟩
  obtain ⟨A1, cap1, rfl⟩ := hu1.form
  have rs1 := hrs.below hb1 hrs.lt
  have HB1 := hide (HB0.out.trans (hb1.mono HB0.out.size))
  have HN2 := hide (bdownR_calls c (RetZ.q hu1 hd1 HL1.out) (by omega) hc0 hc1)
  rw [HX2.out] at HN2
  have hs3 := hb1.size
  go_wp2_with fail
  refine HN2.out.mono ?_
  rintro e w2 ⟨hb2, u2, d2, rfl, hu2, hd2⟩
  obtain ⟨A2, cap2, rfl⟩ := hu2.form
  have rs2 := rs1.below hb2 rs1.lt
  have HB2 := hide (HB1.out.trans (hb2.mono HB1.out.size))
  have HN3 := hide (d_zneg (RetZ.q hu2 hd2 HL2.out) (by omega))
  rw [HX3.out] at HN3
  have hs4 := hb2.size
  go_wp2_with fail
  refine HN3.out.mono ?_
  rintro e w3 ⟨hb3, u3, d3, rfl, hu3, hd3⟩
  obtain ⟨A3, cap3, rfl⟩ := hu3.form
  have rs3 := rs2.below hb3 rs2.lt
  have HB3 := hide (HB2.out.trans (hb3.mono HB2.out.size))
  obtain ⟨r0, r1, r2, r3⟩ := rs3.two
  go_wp2_with fail
  refine bodyPost_ret (results_int rfl _ _ _ _ _ _ rfl (blk_two rs3)) rfl ⟨below2 HB3.out (by omega) _ _, ?_⟩
  exact ⟨_, d3, rfl, (nums_low2 (r := w.heap.size + 1) (hu3.mono (show w.heap.size + 2 ≤ _ by omega)) (by omega) _ _).mono (by omega), hd3⟩
end Go.Proofs.YtnfbngiabdlclaaGreat

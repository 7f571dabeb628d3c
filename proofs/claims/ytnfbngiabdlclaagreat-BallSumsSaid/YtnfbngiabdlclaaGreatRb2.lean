/- The document's balls: Point, Recast, Shift. -/
import Derived.Test.YtnfbngiabdlclaaGreatRb1
set_option linter.unusedVariables false
set_option linter.unusedSimpArgs false
namespace Go.Proofs.YtnfbngiabdlclaaGreat
open Go.RowKit
open L (val dig nth)

theorem floorR_ret {w : World} {k : Nat} {n : Bool} {A : Option Addr} {len cap : Nat} {z x : Int} (q : Int) (h : Q w k n A len cap z) (hk : k ≤ 1000) (hx0 : -9223372036854775808 ≤ x) (hx1 : x ≤ 9223372036854775807) :
    Calls Tryz.prog 57 #[.agg #[.bool n, .slice A len cap, .int .i64 x], .int .i64 q] w fun e w' => Below w.heap.size w w' ∧ RetZ w.heap.size (vFloor 4000 (av 4000 z x) (nearZ q)) e w' := by
  obtain ⟨d, h1, h2, rfl⟩ := h
  exact floorDR_calls w n 0 _ d x q 4000 h1 (by omega) hx0 hx1 (Nat.le_refl _)
theorem ceilR_ret {w : World} {k : Nat} {n : Bool} {A : Option Addr} {len cap : Nat} {z x : Int} (q : Int) (h : Q w k n A len cap z) (hk : k ≤ 1000) (hx0 : -9223372036854775808 ≤ x) (hx1 : x ≤ 9223372036854775807) :
    Calls Tryz.prog 58 #[.agg #[.bool n, .slice A len cap, .int .i64 x], .int .i64 q] w fun e w' => Below w.heap.size w w' ∧ RetZ w.heap.size (vCeil 4000 (av 4000 z x) (nearZ q)) e w' := by
  obtain ⟨d, h1, h2, rfl⟩ := h
  exact ceilDR_calls w n 0 _ d x q 4000 h1 (by omega) hx0 hx1 (Nat.le_refl _)

set_option maxHeartbeats 1000000 in
set_option maxRecDepth 100000 in
theorem recastR_calls {w : World} {k : Nat} {n0 n1 : Bool} {A0 A1 : Option Addr} {l0 l1 c0 c1 : Nat} {x y : Int} (Q0 q : Int) (hx : Q w k n0 A0 l0 c0 x) (hy : Q w k n1 A1 l1 c1 y) (hk : k ≤ 1000) (hq0 : -9223372036854775808 ≤ q) (hq1 : q ≤ 9223372036854775807) :
    Calls Tryz.prog 21 #[.agg #[.bool n0, .slice A0 l0 c0, .bool n1, .slice A1 l1 c1, .int .i64 Q0], .int .i64 q] w fun e w' => Below w.heap.size w w' ∧ RetE w.heap.size (k + 125) (rightB x y Q0 && mayQ q) (vDn x (Q0 - q)) (vOv y (Q0 - q)) q 1 e w' := by
  obtain ⟨W0, hW, ha, hrs, hB0, hs⟩ := start2 w 27 27 #[.bool n0, .slice A0 l0 c0, .bool n1, .slice A1 l1 c1, .int .i64 Q0] #[.bool false, .slice none 0 0, .bool false, .slice none 0 0, .int .i64 0]
  have HB0 := hide hB0
  have hs2 : w.heap.size + 2 ≤ W0.heap.size := by omega
  clear hs hB0
  obtain ⟨a0, a1, a2, a3, a4, -⟩ := ha.five
  obtain ⟨s, HS⟩ : ∃ z, Hid (Q0 - q = z) := ⟨_, hide rfl⟩
  rw [HS.out]
  obtain ⟨f, HF⟩ : ∃ z', Hid (vDn x s = z') := ⟨_, hide rfl⟩
  obtain ⟨c, HC⟩ : ∃ z', Hid (vOv y s = z') := ⟨_, hide rfl⟩
  rw [HF.out, HC.out]
  have HR := hide (rightR_calls Q0 (hx.at_ HB0) (hy.at_ HB0) (by omega) (by omega))
  obtain ⟨rb, HRB⟩ : ∃ b, Hid (rightB x y Q0 = b) := ⟨_, hide rfl⟩
  have HQB := fun h => rightB_q (x := x) (y := y) (q := Q0) h
  rw [HRB.out] at HR HQB ⊢
  rw [show mayQ q = decide (0 ≤ q ∧ q ≤ 2048) from rfl]
  have hno : ∀ (W1 : World), Hid (Below w.heap.size w W1) → Blk W1 (w.heap.size + 1) 27 #[.bool false, .slice none 0 0, .bool false, .slice none 0 0, .int .i64 0] → ∃ W2, W2 = ((((W1.setCell ⟨w.heap.size + 1, 0, none⟩ (.bool false)).setCell ⟨w.heap.size + 1, 1, none⟩ (.slice none 0 0)).setCell ⟨w.heap.size + 1, 2, none⟩ (.bool false)).setCell ⟨w.heap.size + 1, 3, none⟩ (.slice none 0 0)).setCell ⟨w.heap.size + 1, 4, none⟩ (.int .i64 0) ∧
      Blk W2 (w.heap.size + 1) 27 #[.bool false, .slice none 0 0, .bool false, .slice none 0 0, .int .i64 0] ∧ Below w.heap.size w W2 := fun W1 hb hr => by
    obtain ⟨W2, hW2, bl, -, kb, -⟩ := set5_all hr (.bool false) (.slice none 0 0) (.bool false) (.slice none 0 0) (.int .i64 0)
    exact ⟨W2, hW2, bl, kb _ _ hb.out (by omega)⟩
  have HNO := hide hno
  clear hno
  cases rb with
  | false =>
    rw [Bool.false_and]
    clear HQB
    go_enter Tryz.func21, Tryz.ntmps21
    go_upto_region 1 with (fail)
    rw [← hW]
    clear hW
    go_wp2_with fail
    refine HR.out.mono ?_
    rintro e w1 ⟨hb1, rfl⟩
    have ha := ha.below hb1 ha.lt
    have hrs := hrs.below hb1 hrs.lt
    have HB1 := hide (HB0.out.trans (hb1.mono HB0.out.size))
    have hvs : w.heap.size + 2 ≤ w1.heap.size := Nat.le_trans hs2 hb1.size
    obtain ⟨a0, a1, a2, a3, a4, -⟩ := ha.five
    obtain ⟨r0, r1, r2, r3, r4, r5, r6, r7, r8, r9⟩ := hrs.five
    go_wp2_with fail
    obtain ⟨W2, hW2, bl, hbl⟩ := HNO.out _ HB1 hrs
    rw [← hW2]
    refine bodyPost_ret (results_ball_tmp rfl _ _ _ _ _ _ _ _ _ rfl bl) rfl ⟨hbl, RetE.no⟩
  | true =>
    rw [Bool.true_and]
    have hqb := HQB rfl
    clear HQB
    by_cases hl : q < 0
    · rw [decide_eq_false (show ¬ (0 ≤ q ∧ q ≤ 2048) by omega)]
      go_enter Tryz.func21, Tryz.ntmps21
      go_upto_region 1 with (fail)
      rw [← hW]
      clear hW
      go_wp2_with fail
      refine HR.out.mono ?_
      rintro e w1 ⟨hb1, rfl⟩
      have ha := ha.below hb1 ha.lt
      have hrs := hrs.below hb1 hrs.lt
      have HB1 := hide (HB0.out.trans (hb1.mono HB0.out.size))
      have hvs : w.heap.size + 2 ≤ w1.heap.size := Nat.le_trans hs2 hb1.size
      obtain ⟨a0, a1, a2, a3, a4, -⟩ := ha.five
      obtain ⟨r0, r1, r2, r3, r4, r5, r6, r7, r8, r9⟩ := hrs.five
      go_wp2_with fail
      obtain ⟨W2, hW2, bl, hbl⟩ := HNO.out _ HB1 hrs
      rw [← hW2]
      refine bodyPost_ret (results_ball_tmp rfl _ _ _ _ _ _ _ _ _ rfl bl) rfl ⟨hbl, RetE.no⟩
    · by_cases hg : 2048 < q
      · rw [decide_eq_false (show ¬ (0 ≤ q ∧ q ≤ 2048) by omega)]
        go_enter Tryz.func21, Tryz.ntmps21
        go_upto_region 1 with (fail)
        rw [← hW]
        clear hW
        go_wp2_with fail
        refine HR.out.mono ?_
        rintro e w1 ⟨hb1, rfl⟩
        have ha := ha.below hb1 ha.lt
        have hrs := hrs.below hb1 hrs.lt
        have HB1 := hide (HB0.out.trans (hb1.mono HB0.out.size))
        have hvs : w.heap.size + 2 ≤ w1.heap.size := Nat.le_trans hs2 hb1.size
        obtain ⟨a0, a1, a2, a3, a4, -⟩ := ha.five
        obtain ⟨r0, r1, r2, r3, r4, r5, r6, r7, r8, r9⟩ := hrs.five
        go_wp2_with fail
        obtain ⟨W2, hW2, bl, hbl⟩ := HNO.out _ HB1 hrs
        rw [← hW2]
        refine bodyPost_ret (results_ball_tmp rfl _ _ _ _ _ _ _ _ _ rfl bl) rfl ⟨hbl, RetE.no⟩
      · rw [decide_eq_true (show (0 ≤ q ∧ q ≤ 2048) by omega)]
        have hsb : -8000 ≤ s ∧ s ≤ 8000 := by rw [← HS.out]; omega
        have hw : IntKind.i64.wrap (Q0 - q) = s := by rw [← HS.out]; exact IntWalk.i64_in _ (by omega)
        go_enter Tryz.func21, Tryz.ntmps21
        go_upto_region 1 with (fail)
        rw [← hW]
        clear hW
        go_wp2_with fail
        refine HR.out.mono ?_
        rintro e w1 ⟨hb1, rfl⟩
        have ha := ha.below hb1 ha.lt
        have hrs := hrs.below hb1 hrs.lt
        have HB1 := hide (HB0.out.trans (hb1.mono HB0.out.size))
        have hvs : w.heap.size + 2 ≤ w1.heap.size := Nat.le_trans hs2 hb1.size
        obtain ⟨a0, a1, a2, a3, a4, -⟩ := ha.five
        have HV := HB1
        go_upto_region 4 with (fail)
        have HV0 := hide HV.out.drew
        have HD1 := hide (bdownR_calls s (hx.at_ HV0) (by omega) hsb.1 hsb.2)
        have HL1 := hide (vDn_lt (n := s) hx.lt hsb.1)
        have HL2 := hide (vOv_lt (n := s) hy.lt hsb.1)
        rw [HF.out] at HD1 HL1
        rw [HC.out] at HL2
        go_region_held3 (fun w' => w'.cell? ⟨w.heap.size, 0, none⟩ = some (.bool n0) ∧ w'.cell? ⟨w.heap.size, 1, none⟩ = some (.slice A0 l0 c0) ∧ w'.cell? ⟨w.heap.size, 2, none⟩ = some (.bool n1) ∧ w'.cell? ⟨w.heap.size, 3, none⟩ = some (.slice A1 l1 c1) ∧ w'.cell? ⟨w.heap.size, 4, none⟩ = some (.int .i64 Q0)) (go_keep)
          (first
            | (go_at_call 61; (with_reducible refine HD1.out.mono ?_); rintro e v1 ⟨vb1, u1, d1, rfl, hu1, hd1⟩
               obtain ⟨C1, cc1, rfl⟩ := hu1.form
               have ha := ha.drew.below vb1 ha.lt
               have hrs := hrs.drew.below vb1 hrs.lt
               have HV1 := hide (HV0.out.trans (vb1.mono HV0.out.size))
               have vs1 := vb1.size
               obtain ⟨a0, a1, a2, a3, a4, -⟩ := ha.five
               have HD2 := hide (bupR_calls s (hy.at_ HV1) (by omega) hsb.1 hsb.2)
               rw [HC.out] at HD2)
            | (go_at_call 62; (with_reducible refine HD2.out.mono ?_); rintro e v2 ⟨vb2, u2, d2, rfl, hu2, hd2⟩
               obtain ⟨C2, cc2, rfl⟩ := hu2.form
               have ha := ha.below vb2 ha.lt
               have hrs := hrs.below vb2 hrs.lt
               have hu1 := hu1.below vb2
               have HV2 := hide (HV1.out.trans (vb2.mono HV1.out.size))
               obtain ⟨a0, a1, a2, a3, a4, -⟩ := ha.five
               obtain ⟨r0, r1, r2, r3, r4, r5, r6, r7, r8, r9⟩ := hrs.five
               have hn1 : ¬ w.heap.size + 1 = w.heap.size := by omega
               have hn2 : ¬ w.heap.size = w.heap.size + 1 := by omega))
        go_wp2_with fail
        have q1 := (RetZ.qb hu1 hd1 HL1.out).mono (show w.heap.size + 2 ≤ _ from hvs)
        have q2 := (RetZ.qb hu2 hd2 HL2.out).mono (show w.heap.size + 2 ≤ _ from Nat.le_trans hvs vs1)
        obtain ⟨W2, hW2, bl, kq, kb, -⟩ := set5_all hrs (.bool (decide (f < 0))) (.slice C1 d1.length cc1) (.bool (decide (c < 0))) (.slice C2 d2.length cc2) (.int .i64 q)
        rw [← hW2]
        refine bodyPost_ret (results_ball_tmp rfl _ _ _ _ _ _ _ _ _ rfl bl) rfl ⟨kb _ _ HV2.out (by omega), RetE.yes ⟨_, _, _, _, _, _, _, _, rfl, (kq _ _ _ _ _ _ _ (by omega) q1).mono (by omega), (kq _ _ _ _ _ _ _ (by omega) q2).mono (by omega)⟩⟩

set_option maxHeartbeats 1000000 in
set_option maxRecDepth 100000 in
theorem bshiftR_calls {w : World} {k : Nat} {n0 n1 : Bool} {A0 A1 : Option Addr} {l0 l1 c0 c1 : Nat} {x y : Int} (Q0 q : Int) (hx : Q w k n0 A0 l0 c0 x) (hy : Q w k n1 A1 l1 c1 y) (hk : k ≤ 1000) (hq0 : -9223372036854775808 ≤ q) (hq1 : q ≤ 9223372036854775807) :
    Calls Tryz.prog 33 #[.agg #[.bool n0, .slice A0 l0 c0, .bool n1, .slice A1 l1 c1, .int .i64 Q0], .int .i64 q] w fun e w' => Below w.heap.size w w' ∧ RetE w.heap.size (k + 125) (rightB x y Q0 && decide (-4000 ≤ q ∧ q ≤ 4000)) (vDn x (-q)) (vOv y (-q)) Q0 1 e w' := by
  obtain ⟨W0, hW, ha, hrs, hB0, hs⟩ := start2 w 27 27 #[.bool n0, .slice A0 l0 c0, .bool n1, .slice A1 l1 c1, .int .i64 Q0] #[.bool false, .slice none 0 0, .bool false, .slice none 0 0, .int .i64 0]
  have HB0 := hide hB0
  have hs2 : w.heap.size + 2 ≤ W0.heap.size := by omega
  clear hs hB0
  obtain ⟨a0, a1, a2, a3, a4, -⟩ := ha.five
  obtain ⟨s, HS⟩ : ∃ z, Hid (-q = z) := ⟨_, hide rfl⟩
  rw [HS.out]
  obtain ⟨f, HF⟩ : ∃ z', Hid (vDn x s = z') := ⟨_, hide rfl⟩
  obtain ⟨c, HC⟩ : ∃ z', Hid (vOv y s = z') := ⟨_, hide rfl⟩
  rw [HF.out, HC.out]
  have HR := hide (rightR_calls Q0 (hx.at_ HB0) (hy.at_ HB0) (by omega) (by omega))
  obtain ⟨rb, HRB⟩ : ∃ b, Hid (rightB x y Q0 = b) := ⟨_, hide rfl⟩
  have HQB := fun h => rightB_q (x := x) (y := y) (q := Q0) h
  rw [HRB.out] at HR HQB ⊢

  have hno : ∀ (W1 : World), Hid (Below w.heap.size w W1) → Blk W1 (w.heap.size + 1) 27 #[.bool false, .slice none 0 0, .bool false, .slice none 0 0, .int .i64 0] → ∃ W2, W2 = ((((W1.setCell ⟨w.heap.size + 1, 0, none⟩ (.bool false)).setCell ⟨w.heap.size + 1, 1, none⟩ (.slice none 0 0)).setCell ⟨w.heap.size + 1, 2, none⟩ (.bool false)).setCell ⟨w.heap.size + 1, 3, none⟩ (.slice none 0 0)).setCell ⟨w.heap.size + 1, 4, none⟩ (.int .i64 0) ∧
      Blk W2 (w.heap.size + 1) 27 #[.bool false, .slice none 0 0, .bool false, .slice none 0 0, .int .i64 0] ∧ Below w.heap.size w W2 := fun W1 hb hr => by
    obtain ⟨W2, hW2, bl, -, kb, -⟩ := set5_all hr (.bool false) (.slice none 0 0) (.bool false) (.slice none 0 0) (.int .i64 0)
    exact ⟨W2, hW2, bl, kb _ _ hb.out (by omega)⟩
  have HNO := hide hno
  clear hno
  cases rb with
  | false =>
    rw [Bool.false_and]
    clear HQB
    go_enter Tryz.func33, Tryz.ntmps33
    go_upto_region 1 with (fail)
    rw [← hW]
    clear hW
    go_wp2_with fail
    refine HR.out.mono ?_
    rintro e w1 ⟨hb1, rfl⟩
    have ha := ha.below hb1 ha.lt
    have hrs := hrs.below hb1 hrs.lt
    have HB1 := hide (HB0.out.trans (hb1.mono HB0.out.size))
    have hvs : w.heap.size + 2 ≤ w1.heap.size := Nat.le_trans hs2 hb1.size
    obtain ⟨a0, a1, a2, a3, a4, -⟩ := ha.five
    obtain ⟨r0, r1, r2, r3, r4, r5, r6, r7, r8, r9⟩ := hrs.five
    go_wp2_with fail
    obtain ⟨W2, hW2, bl, hbl⟩ := HNO.out _ HB1 hrs
    rw [← hW2]
    refine bodyPost_ret (results_ball_tmp rfl _ _ _ _ _ _ _ _ _ rfl bl) rfl ⟨hbl, RetE.no⟩
  | true =>
    rw [Bool.true_and]
    have hqb := HQB rfl
    clear HQB
    by_cases hl : q < -4000
    · rw [decide_eq_false (show ¬ (-4000 ≤ q ∧ q ≤ 4000) by omega)]
      go_enter Tryz.func33, Tryz.ntmps33
      go_upto_region 1 with (fail)
      rw [← hW]
      clear hW
      go_wp2_with fail
      refine HR.out.mono ?_
      rintro e w1 ⟨hb1, rfl⟩
      have ha := ha.below hb1 ha.lt
      have hrs := hrs.below hb1 hrs.lt
      have HB1 := hide (HB0.out.trans (hb1.mono HB0.out.size))
      have hvs : w.heap.size + 2 ≤ w1.heap.size := Nat.le_trans hs2 hb1.size
      obtain ⟨a0, a1, a2, a3, a4, -⟩ := ha.five
      obtain ⟨r0, r1, r2, r3, r4, r5, r6, r7, r8, r9⟩ := hrs.five
      go_wp2_with fail
      obtain ⟨W2, hW2, bl, hbl⟩ := HNO.out _ HB1 hrs
      rw [← hW2]
      refine bodyPost_ret (results_ball_tmp rfl _ _ _ _ _ _ _ _ _ rfl bl) rfl ⟨hbl, RetE.no⟩
    · by_cases hg : 4000 < q
      · rw [decide_eq_false (show ¬ (-4000 ≤ q ∧ q ≤ 4000) by omega)]
        go_enter Tryz.func33, Tryz.ntmps33
        go_upto_region 1 with (fail)
        rw [← hW]
        clear hW
        go_wp2_with fail
        refine HR.out.mono ?_
        rintro e w1 ⟨hb1, rfl⟩
        have ha := ha.below hb1 ha.lt
        have hrs := hrs.below hb1 hrs.lt
        have HB1 := hide (HB0.out.trans (hb1.mono HB0.out.size))
        have hvs : w.heap.size + 2 ≤ w1.heap.size := Nat.le_trans hs2 hb1.size
        obtain ⟨a0, a1, a2, a3, a4, -⟩ := ha.five
        obtain ⟨r0, r1, r2, r3, r4, r5, r6, r7, r8, r9⟩ := hrs.five
        go_wp2_with fail
        obtain ⟨W2, hW2, bl, hbl⟩ := HNO.out _ HB1 hrs
        rw [← hW2]
        refine bodyPost_ret (results_ball_tmp rfl _ _ _ _ _ _ _ _ _ rfl bl) rfl ⟨hbl, RetE.no⟩
      · rw [decide_eq_true (show (-4000 ≤ q ∧ q ≤ 4000) by omega)]
        have hsb : -8000 ≤ s ∧ s ≤ 8000 := by rw [← HS.out]; omega
        have hw : IntKind.i64.wrap (-q) = s := by rw [← HS.out]; exact IntWalk.i64_in _ (by omega)
        go_enter Tryz.func33, Tryz.ntmps33
        go_upto_region 1 with (fail)
        rw [← hW]
        clear hW
        go_wp2_with fail
        refine HR.out.mono ?_
        rintro e w1 ⟨hb1, rfl⟩
        have ha := ha.below hb1 ha.lt
        have hrs := hrs.below hb1 hrs.lt
        have HB1 := hide (HB0.out.trans (hb1.mono HB0.out.size))
        have hvs : w.heap.size + 2 ≤ w1.heap.size := Nat.le_trans hs2 hb1.size
        obtain ⟨a0, a1, a2, a3, a4, -⟩ := ha.five
        have HV := HB1
        go_upto_region 4 with (fail)
        have HV0 := hide HV.out.drew
        have HD1 := hide (bdownR_calls s (hx.at_ HV0) (by omega) hsb.1 hsb.2)
        have HL1 := hide (vDn_lt (n := s) hx.lt hsb.1)
        have HL2 := hide (vOv_lt (n := s) hy.lt hsb.1)
        rw [HF.out] at HD1 HL1
        rw [HC.out] at HL2
        go_region_held3 (fun w' => w'.cell? ⟨w.heap.size, 0, none⟩ = some (.bool n0) ∧ w'.cell? ⟨w.heap.size, 1, none⟩ = some (.slice A0 l0 c0) ∧ w'.cell? ⟨w.heap.size, 2, none⟩ = some (.bool n1) ∧ w'.cell? ⟨w.heap.size, 3, none⟩ = some (.slice A1 l1 c1) ∧ w'.cell? ⟨w.heap.size, 4, none⟩ = some (.int .i64 Q0)) (go_keep)
          (first
            | (go_at_call 61; (with_reducible refine HD1.out.mono ?_); rintro e v1 ⟨vb1, u1, d1, rfl, hu1, hd1⟩
               obtain ⟨C1, cc1, rfl⟩ := hu1.form
               have ha := ha.drew.below vb1 ha.lt
               have hrs := hrs.drew.below vb1 hrs.lt
               have HV1 := hide (HV0.out.trans (vb1.mono HV0.out.size))
               have vs1 := vb1.size
               obtain ⟨a0, a1, a2, a3, a4, -⟩ := ha.five
               have HD2 := hide (bupR_calls s (hy.at_ HV1) (by omega) hsb.1 hsb.2)
               rw [HC.out] at HD2)
            | (go_at_call 62; (with_reducible refine HD2.out.mono ?_); rintro e v2 ⟨vb2, u2, d2, rfl, hu2, hd2⟩
               obtain ⟨C2, cc2, rfl⟩ := hu2.form
               have ha := ha.below vb2 ha.lt
               have hrs := hrs.below vb2 hrs.lt
               have hu1 := hu1.below vb2
               have HV2 := hide (HV1.out.trans (vb2.mono HV1.out.size))
               obtain ⟨a0, a1, a2, a3, a4, -⟩ := ha.five
               obtain ⟨r0, r1, r2, r3, r4, r5, r6, r7, r8, r9⟩ := hrs.five
               have hn1 : ¬ w.heap.size + 1 = w.heap.size := by omega
               have hn2 : ¬ w.heap.size = w.heap.size + 1 := by omega))
        go_wp2_with fail
        have q1 := (RetZ.qb hu1 hd1 HL1.out).mono (show w.heap.size + 2 ≤ _ from hvs)
        have q2 := (RetZ.qb hu2 hd2 HL2.out).mono (show w.heap.size + 2 ≤ _ from Nat.le_trans hvs vs1)
        obtain ⟨W2, hW2, bl, kq, kb, -⟩ := set5_all hrs (.bool (decide (f < 0))) (.slice C1 d1.length cc1) (.bool (decide (c < 0))) (.slice C2 d2.length cc2) (.int .i64 Q0)
        rw [← hW2]
        refine bodyPost_ret (results_ball_tmp rfl _ _ _ _ _ _ _ _ _ rfl bl) rfl ⟨kb _ _ HV2.out (by omega), RetE.yes ⟨_, _, _, _, _, _, _, _, rfl, (kq _ _ _ _ _ _ _ (by omega) q1).mono (by omega), (kq _ _ _ _ _ _ _ (by omega) q2).mono (by omega)⟩⟩

set_option maxHeartbeats 1000000 in
set_option maxRecDepth 100000 in
theorem pointR_calls {w : World} {k : Nat} {n : Bool} {A : Option Addr} {len cap : Nat} {z x : Int} (q : Int) (h : Q w k n A len cap z) (hk : k ≤ 1000) (hx0 : -9223372036854775808 ≤ x) (hx1 : x ≤ 9223372036854775807) :
    Calls Tryz.prog 18 #[.agg #[.bool n, .slice A len cap, .int .i64 x], .int .i64 q] w fun e w' => Below w.heap.size w w' ∧
      RetE w.heap.size (k + 125) (mayQ q) (vFloor 4000 (av 4000 z x) (nearZ q)) (vCeil 4000 (av 4000 z x) (nearZ q)) q 1 e w' := by
  obtain ⟨W0, hW, hd, hrs, hB0, hs⟩ := start2 w 34 27 #[.bool n, .slice A len cap, .int .i64 x] #[.bool false, .slice none 0 0, .bool false, .slice none 0 0, .int .i64 0]
  have HB0 := hide hB0
  have hs2 : w.heap.size + 2 ≤ W0.heap.size := by omega
  clear hs hB0
  obtain ⟨a0, a1, a2, -⟩ := hd.three
  obtain ⟨r0, r1, r2, r3, r4, r5, r6, r7, r8, r9⟩ := hrs.five
  obtain ⟨f, HF⟩ : ∃ z', Hid (vFloor 4000 (av 4000 z x) (nearZ q) = z') := ⟨_, hide rfl⟩
  obtain ⟨c, HC⟩ : ∃ z', Hid (vCeil 4000 (av 4000 z x) (nearZ q) = z') := ⟨_, hide rfl⟩
  rw [HF.out, HC.out]
  obtain ⟨mq, HQ⟩ : ∃ b, Hid (decide (0 ≤ q ∧ q ≤ 2048) = b) := ⟨_, hide rfl⟩
  rw [show mayQ q = decide (0 ≤ q ∧ q ≤ 2048) from rfl, HQ.out]
  have hz := h.lt
  have HFL := hide (vFloor_lt (x := x) hz (Nat.le_refl 4000) q)
  have HCL := hide (vCeil_lt (x := x) hz (Nat.le_refl 4000) q)
  rw [HF.out] at HFL
  rw [HC.out] at HCL
  clear hz
  by_cases h0 : q < 0
  · have hm : mq = false := by rw [← HQ.out]; exact decide_eq_false (by omega)
    subst hm
    clear HQ
    go_enter Tryz.func18, Tryz.ntmps18
    go_upto_region 1 with (fail)
    rw [← hW]
    clear hW
    go_wp2_with fail
    obtain ⟨W2, hW2, bl, -, kb, -⟩ := set5_all hrs (.bool false) (.slice none 0 0) (.bool false) (.slice none 0 0) (.int .i64 0)
    rw [← hW2]
    refine bodyPost_ret (results_ball_tmp rfl _ _ _ _ _ _ _ _ _ rfl bl) rfl ⟨kb _ _ HB0.out (by omega), RetE.no⟩
  · by_cases h2 : 2048 < q
    · have hm : mq = false := by rw [← HQ.out]; exact decide_eq_false (by omega)
      subst hm
      clear HQ
      go_enter Tryz.func18, Tryz.ntmps18
      go_upto_region 1 with (fail)
      rw [← hW]
      clear hW
      go_wp2_with fail
      obtain ⟨W2, hW2, bl, -, kb, -⟩ := set5_all hrs (.bool false) (.slice none 0 0) (.bool false) (.slice none 0 0) (.int .i64 0)
      rw [← hW2]
      refine bodyPost_ret (results_ball_tmp rfl _ _ _ _ _ _ _ _ _ rfl bl) rfl ⟨kb _ _ HB0.out (by omega), RetE.no⟩
    · have hm : mq = true := by rw [← HQ.out]; exact decide_eq_true (by omega)
      subst hm
      clear HQ
      have hBd := HB0.out.drew
      have HBd := hide hBd
      have HC1 := hide (floorR_ret q (h.at_ HBd) hk hx0 hx1)
      rw [HF.out] at HC1
      go_enter Tryz.func18, Tryz.ntmps18
      go_upto_region 1 with (fail)
      rw [← hW]
      clear hW
      go_upto_region 3 with (fail)
      go_region_held3 (fun w' => w'.cell? ⟨w.heap.size, 0, none⟩ = some (.bool n) ∧ w'.cell? ⟨w.heap.size, 1, none⟩ = some (.slice A len cap) ∧ w'.cell? ⟨w.heap.size, 2, none⟩ = some (.int .i64 x)) (go_keep)
        (first
          | (go_at_call 57; (with_reducible refine HC1.out.mono ?_); rintro e v1 ⟨hb1, u1, d1, rfl, hu1, hd1⟩
             obtain ⟨C1, cc1, rfl⟩ := hu1.form
             have hd := hd.drew.below hb1 hd.lt
             have hrs := hrs.drew.below hb1 hrs.lt
             have HV1 := hide (HBd.out.trans (hb1.mono HBd.out.size))
             have hs3 : W0.heap.size ≤ v1.heap.size := hb1.size
             obtain ⟨a0, a1, a2, -⟩ := hd.three
             have HC2 := hide (ceilR_ret q (h.at_ HV1) hk hx0 hx1)
             rw [HC.out] at HC2)
          | (go_at_call 58; (with_reducible refine HC2.out.mono ?_); rintro e v2 ⟨hb2, u2, d2, rfl, hu2, hd2⟩
             obtain ⟨C2, cc2, rfl⟩ := hu2.form
             have hd := hd.below hb2 hd.lt
             have hrs := hrs.below hb2 hrs.lt
             have hu1 := hu1.below hb2
             have HV2 := hide (HV1.out.trans (hb2.mono HV1.out.size))
             obtain ⟨a0, a1, a2, -⟩ := hd.three
             obtain ⟨r0, r1, r2, r3, r4, r5, r6, r7, r8, r9⟩ := hrs.five
             have hne : ¬ w.heap.size + 1 = w.heap.size := by omega
             have hne2 : ¬ w.heap.size = w.heap.size + 1 := by omega))
      go_wp2_with fail
      have q1 := (RetZ.qb hu1 hd1 HFL.out).mono (show w.heap.size + 2 ≤ _ from hs2)
      have q2 := (RetZ.qb hu2 hd2 HCL.out).mono (show w.heap.size + 2 ≤ _ by omega)
      obtain ⟨W2, hW2, bl, kq, kb, -⟩ := set5_all hrs (.bool (decide (f < 0))) (.slice C1 d1.length cc1) (.bool (decide (c < 0))) (.slice C2 d2.length cc2) (.int .i64 q)
      rw [← hW2]
      refine bodyPost_ret (results_ball_tmp rfl _ _ _ _ _ _ _ _ _ rfl bl) rfl ⟨kb _ _ HV2.out (by omega), RetE.yes ⟨_, _, _, _, _, _, _, _, rfl, (kq _ _ _ _ _ _ _ (by omega) q1).mono (by omega), (kq _ _ _ _ _ _ _ (by omega) q2).mono (by omega)⟩⟩
end Go.Proofs.YtnfbngiabdlclaaGreat

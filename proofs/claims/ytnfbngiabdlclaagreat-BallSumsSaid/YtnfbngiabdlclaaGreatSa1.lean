/- ball: Add, Sub. -/
import Derived.Test.YtnfbngiabdlclaaGreatBa9
import Derived.Test.YtnfbngiabdlclaaGreatBl1
import Derived.Test.YtnfbngiabdlclaaGreatFree
set_option linter.unusedVariables false
set_option linter.unusedSimpArgs false
namespace Go.Proofs.YtnfbngiabdlclaaGreat
open Go.RowKit
open L (val dig nth)

theorem rightB_neg (y0 y1 q : Int) : rightB (-y1) (-y0) q = rightB y0 y1 q := by
  unfold rightB
  congr 1
  exact decide_eq_decide.2 (by omega)
theorem pairB_neg (x0 x1 qa y0 y1 qb : Int) : pairB x0 x1 qa (-y1) (-y0) qb = pairB x0 x1 qa y0 y1 qb := by unfold pairB; rw [rightB_neg]

set_option maxHeartbeats 2000000 in
set_option maxRecDepth 100000 in
theorem badd_calls {w : World} {k : Nat} {n0 n1 m0 m1 : Bool} {A0 A1 B0 B1 : Option Addr} {l0 l1 j0 j1 c0 c1 d0 d1 : Nat} {x0 x1 y0 y1 : Int} (qa qb : Int) (hx0 : Q w k n0 A0 l0 c0 x0) (hx1 : Q w k n1 A1 l1 c1 x1) (hy0 : Q w k m0 B0 j0 d0 y0) (hy1 : Q w k m1 B1 j1 d1 y1) (hk : k ≤ 900) :
    Calls Tryz.prog 34 #[.agg #[.bool n0, .slice A0 l0 c0, .bool n1, .slice A1 l1 c1, .int .i64 qa], .agg #[.bool m0, .slice B0 j0 d0, .bool m1, .slice B1 j1 d1, .int .i64 qb]] w fun e w' =>
      Below w.heap.size w w' ∧ RetE w.heap.size (k + 1) (pairB x0 x1 qa y0 y1 qb) (x0 + y0) (x1 + y1) qa 1 e w' := by
  obtain ⟨W0, hW, ha, hb, hrs, hB0, hs⟩ := start3 w 27 27 27 #[.bool n0, .slice A0 l0 c0, .bool n1, .slice A1 l1 c1, .int .i64 qa] #[.bool m0, .slice B0 j0 d0, .bool m1, .slice B1 j1 d1, .int .i64 qb] #[.bool false, .slice none 0 0, .bool false, .slice none 0 0, .int .i64 0]
  have HB0 := hide hB0
  have hs2 : w.heap.size + 3 ≤ W0.heap.size := by omega
  clear hs hB0
  obtain ⟨a0, a1, a2, a3, a4, -⟩ := ha.five
  obtain ⟨b0, b1, b2, b3, b4, -⟩ := hb.five
  have HP := hide (pair_calls qa qb (hx0.at_ HB0) (hx1.at_ HB0) (hy0.at_ HB0) (hy1.at_ HB0) (by omega))
  obtain ⟨f, HF⟩ : ∃ z, Hid (x0 + y0 = z) := ⟨_, hide rfl⟩
  obtain ⟨c, HC⟩ : ∃ z, Hid (x1 + y1 = z) := ⟨_, hide rfl⟩
  have HL1 : Hid (f.natAbs < W ^ (k + 1)) := hide (by rw [← HF.out]; exact add_lt1 hx0.lt hy0.lt)
  have HL2 : Hid (c.natAbs < W ^ (k + 1)) := hide (by rw [← HC.out]; exact add_lt1 hx1.lt hy1.lt)
  obtain ⟨mq, HQQ⟩ : ∃ b, Hid (pairB x0 x1 qa y0 y1 qb = b) := ⟨_, hide rfl⟩
  rw [HQQ.out] at HP
  rw [HQQ.out, HF.out, HC.out]
  cases mq with
  | false =>
    go_enter Tryz.func34, Tryz.ntmps34
    go_upto_region 1 with (fail)
    rw [← hW]
    clear hW
    go_wp2_with fail
    refine HP.out.mono ?_
    rintro e w1 ⟨hb1, rfl⟩
    have hrs := hrs.below hb1 hrs.lt
    have HB1 := hide (HB0.out.trans (hb1.mono HB0.out.size))
    obtain ⟨r0, r1, r2, r3, r4, r5, r6, r7, r8, r9⟩ := hrs.five
    go_wp2_with fail
    obtain ⟨W2, hW2, bl, -, kb, -⟩ := set5_all hrs (.bool false) (.slice none 0 0) (.bool false) (.slice none 0 0) (.int .i64 0)
    rw [← hW2]
    refine bodyPost_ret (results_ball_tmp rfl _ _ _ _ _ _ _ _ _ rfl bl) rfl ⟨kb _ _ HB1.out (by omega), RetE.no⟩
  | true =>
    go_enter Tryz.func34, Tryz.ntmps34
    go_upto_region 1 with (fail)
    rw [← hW]
    clear hW
    go_wp2_with fail
    refine HP.out.mono ?_
    rintro e w1 ⟨hb1, rfl⟩
    have ha := ha.below hb1 ha.lt
    have hb := hb.below hb1 hb.lt
    have hrs := hrs.below hb1 hrs.lt
    have HB1 := hide (HB0.out.trans (hb1.mono HB0.out.size)).drew
    have hs3 : w.heap.size + 3 ≤ w1.heap.size := Nat.le_trans hs2 hb1.size
    have HD1 := hide (c_zadd (hx0.at_ HB1) (hy0.at_ HB1) (by omega) (by omega))
    rw [HF.out] at HD1
    clear a0 a1 a2 a3 a4 b0 b1 b2 b3 b4
    go_upto_region 3 with (fail)
    obtain ⟨a0, a1, a2, a3, a4, -⟩ := ha.five
    obtain ⟨b0, b1, b2, b3, b4, -⟩ := hb.five
    have tok0 : True := trivial
    go_region_held3 (fun w' => w'.cell? ⟨w.heap.size, 0, none⟩ = some (.bool n0) ∧ w'.cell? ⟨w.heap.size, 1, none⟩ = some (.slice A0 l0 c0) ∧ w'.cell? ⟨w.heap.size, 2, none⟩ = some (.bool n1) ∧ w'.cell? ⟨w.heap.size, 3, none⟩ = some (.slice A1 l1 c1) ∧ w'.cell? ⟨w.heap.size, 4, none⟩ = some (.int .i64 qa) ∧ w'.cell? ⟨w.heap.size + 1, 0, none⟩ = some (.bool m0) ∧ w'.cell? ⟨w.heap.size + 1, 1, none⟩ = some (.slice B0 j0 d0) ∧ w'.cell? ⟨w.heap.size + 1, 2, none⟩ = some (.bool m1) ∧ w'.cell? ⟨w.heap.size + 1, 3, none⟩ = some (.slice B1 j1 d1)) (go_keep)
      (first
        | (go_at_call 73; have _t := tok0; (with_reducible refine HD1.out.mono ?_); rintro e v1 ⟨vb1, u1, d1, rfl, hu1, hd1⟩
           obtain ⟨C1, cc1, rfl⟩ := hu1.form
           have ha := ha.drew.below vb1 ha.lt
           have hb := hb.drew.below vb1 hb.lt
           have hrs := hrs.drew.below vb1 hrs.lt
           have HV1 := hide (HB1.out.trans (vb1.mono HB1.out.size))
           have vs1 : w1.heap.size ≤ v1.heap.size := vb1.size
           obtain ⟨a0, a1, a2, a3, a4, -⟩ := ha.five
           obtain ⟨b0, b1, b2, b3, b4, -⟩ := hb.five
           have HD2 := hide (c_zadd (hx1.at_ HV1) (hy1.at_ HV1) (by omega) (by omega))
           rw [HC.out] at HD2
           clear _t tok0
           have tok1 : True := trivial)
        | (go_at_call 73; have _t := tok1; (with_reducible refine HD2.out.mono ?_); rintro e v2 ⟨vb2, u2, d2, rfl, hu2, hd2⟩
           obtain ⟨C2, cc2, rfl⟩ := hu2.form
           have ha := ha.below vb2 ha.lt
           have hb := hb.below vb2 hb.lt
           have hrs := hrs.below vb2 hrs.lt
           have hu1 := hu1.below vb2
           have HV2 := hide (HV1.out.trans (vb2.mono HV1.out.size))
           obtain ⟨a0, a1, a2, a3, a4, -⟩ := ha.five
           obtain ⟨b0, b1, b2, b3, b4, -⟩ := hb.five
           obtain ⟨r0, r1, r2, r3, r4, r5, r6, r7, r8, r9⟩ := hrs.five
           have hn1 : ¬ w.heap.size + 2 = w.heap.size := by omega
           have hn2 : ¬ w.heap.size = w.heap.size + 2 := by omega))
    go_wp2_with fail
    have q1 := (RetZ.qb hu1 hd1 HL1.out).mono (show w.heap.size + 3 ≤ _ from hs3)
    have q2 := (RetZ.qb hu2 hd2 HL2.out).mono (show w.heap.size + 3 ≤ _ from Nat.le_trans hs3 vs1)
    obtain ⟨W2, hW2, bl, kq, kb, -⟩ := set5_all hrs (.bool (decide (f < 0))) (.slice C1 d1.length cc1) (.bool (decide (c < 0))) (.slice C2 d2.length cc2) (.int .i64 qa)
    rw [← hW2]
    refine bodyPost_ret (results_ball_tmp rfl _ _ _ _ _ _ _ _ _ rfl bl) rfl ⟨kb _ _ HV2.out (by omega), RetE.yes ⟨_, _, _, _, _, _, _, _, rfl, (kq _ _ _ _ _ _ _ (by omega) q1).mono (by omega), (kq _ _ _ _ _ _ _ (by omega) q2).mono (by omega)⟩⟩

theorem set22a {w : World} {r : Nat} {t : TypeId} {a b c d e : Value} (h : Blk w r t #[a, b, c, d, e]) (x y z u : Value) :
    Blk ((((w.setCell ⟨r, 0, none⟩ x).setCell ⟨r, 1, none⟩ y).setCell ⟨r, 2, none⟩ z).setCell ⟨r, 3, none⟩ u) r t #[x, y, z, u, e] ∧ (∀ B w0, Below B w0 w → B ≤ r → Below B w0 ((((w.setCell ⟨r, 0, none⟩ x).setCell ⟨r, 1, none⟩ y).setCell ⟨r, 2, none⟩ z).setCell ⟨r, 3, none⟩ u)) ∧ ((((w.setCell ⟨r, 0, none⟩ x).setCell ⟨r, 1, none⟩ y).setCell ⟨r, 2, none⟩ z).setCell ⟨r, 3, none⟩ u).heap.size = w.heap.size ∧ (∀ g t' cs, g ≠ r → Blk w g t' cs → Blk ((((w.setCell ⟨r, 0, none⟩ x).setCell ⟨r, 1, none⟩ y).setCell ⟨r, 2, none⟩ z).setCell ⟨r, 3, none⟩ u) g t' cs) ∧ (∀ B k n A l c z', r < B → QB w B k n A l c z' → QB ((((w.setCell ⟨r, 0, none⟩ x).setCell ⟨r, 1, none⟩ y).setCell ⟨r, 2, none⟩ z).setCell ⟨r, 3, none⟩ u) B k n A l c z') := by
  refine ⟨?_, fun B w0 hb hr => ((((hb.setCell (p := ⟨r, 0, none⟩) hr x).setCell (p := ⟨r, 1, none⟩) hr y).setCell (p := ⟨r, 2, none⟩) hr z).setCell (p := ⟨r, 3, none⟩) hr u), by simp, fun g t' cs hne hg => ((((hg.far (p := ⟨r, 0, none⟩) hne x).far (p := ⟨r, 1, none⟩) hne y).far (p := ⟨r, 2, none⟩) hne z).far (p := ⟨r, 3, none⟩) hne u), fun B k n A l c z' hr hq => ((((hq.low (p := ⟨r, 0, none⟩) hr x).low (p := ⟨r, 1, none⟩) hr y).low (p := ⟨r, 2, none⟩) hr _).low (p := ⟨r, 3, none⟩) hr u)⟩
  have := ((((h.set_ 0 x).set_ 1 y).set_ 2 z).set_ 3 u)
  simpa using this
theorem set22b {w : World} {r : Nat} {t : TypeId} {a b c d e : Value} (h : Blk w r t #[a, b, c, d, e]) (x y z u : Value) :
    Blk ((((w.setCell ⟨r, 2, none⟩ z).setCell ⟨r, 3, none⟩ u).setCell ⟨r, 0, none⟩ x).setCell ⟨r, 1, none⟩ y) r t #[x, y, z, u, e] ∧ (∀ B w0, Below B w0 w → B ≤ r → Below B w0 ((((w.setCell ⟨r, 2, none⟩ z).setCell ⟨r, 3, none⟩ u).setCell ⟨r, 0, none⟩ x).setCell ⟨r, 1, none⟩ y)) ∧ ((((w.setCell ⟨r, 2, none⟩ z).setCell ⟨r, 3, none⟩ u).setCell ⟨r, 0, none⟩ x).setCell ⟨r, 1, none⟩ y).heap.size = w.heap.size ∧ (∀ g t' cs, g ≠ r → Blk w g t' cs → Blk ((((w.setCell ⟨r, 2, none⟩ z).setCell ⟨r, 3, none⟩ u).setCell ⟨r, 0, none⟩ x).setCell ⟨r, 1, none⟩ y) g t' cs) ∧ (∀ B k n A l c z', r < B → QB w B k n A l c z' → QB ((((w.setCell ⟨r, 2, none⟩ z).setCell ⟨r, 3, none⟩ u).setCell ⟨r, 0, none⟩ x).setCell ⟨r, 1, none⟩ y) B k n A l c z') := by
  refine ⟨?_, fun B w0 hb hr => ((((hb.setCell (p := ⟨r, 2, none⟩) hr z).setCell (p := ⟨r, 3, none⟩) hr u).setCell (p := ⟨r, 0, none⟩) hr x).setCell (p := ⟨r, 1, none⟩) hr y), by simp, fun g t' cs hne hg => ((((hg.far (p := ⟨r, 2, none⟩) hne z).far (p := ⟨r, 3, none⟩) hne u).far (p := ⟨r, 0, none⟩) hne x).far (p := ⟨r, 1, none⟩) hne y), fun B k n A l c z' hr hq => ((((hq.low (p := ⟨r, 2, none⟩) hr _).low (p := ⟨r, 3, none⟩) hr u).low (p := ⟨r, 0, none⟩) hr x).low (p := ⟨r, 1, none⟩) hr y)⟩
  have := ((((h.set_ 2 z).set_ 3 u).set_ 0 x).set_ 1 y)
  simpa using this

set_option maxHeartbeats 2000000 in
set_option maxRecDepth 100000 in
theorem bsub_calls {w : World} {k : Nat} {n0 n1 m0 m1 : Bool} {A0 A1 B0 B1 : Option Addr} {l0 l1 j0 j1 c0 c1 d0 d1 : Nat} {x0 x1 y0 y1 : Int} (qa qb : Int) (hx0 : Q w k n0 A0 l0 c0 x0) (hx1 : Q w k n1 A1 l1 c1 x1) (hy0 : Q w k m0 B0 j0 d0 y0) (hy1 : Q w k m1 B1 j1 d1 y1) (hk : k ≤ 900) :
    Calls Tryz.prog 36 #[.agg #[.bool n0, .slice A0 l0 c0, .bool n1, .slice A1 l1 c1, .int .i64 qa], .agg #[.bool m0, .slice B0 j0 d0, .bool m1, .slice B1 j1 d1, .int .i64 qb]] w fun e w' =>
      Below w.heap.size w w' ∧ RetE w.heap.size (k + 2) (pairB x0 x1 qa y0 y1 qb) (x0 - y1) (x1 - y0) qa 1 e w' := by
  obtain ⟨W0, hW, ha, hb, hrs, hB0, hs⟩ := start3 w 27 27 27 #[.bool n0, .slice A0 l0 c0, .bool n1, .slice A1 l1 c1, .int .i64 qa] #[.bool m0, .slice B0 j0 d0, .bool m1, .slice B1 j1 d1, .int .i64 qb] #[.bool false, .slice none 0 0, .bool false, .slice none 0 0, .int .i64 0]
  have HB0 := hide hB0
  have hs2 : w.heap.size + 3 ≤ W0.heap.size := by omega
  clear hs hB0
  obtain ⟨b0, b1, b2, b3, b4, -⟩ := hb.five
  obtain ⟨f, HF⟩ : ∃ z, Hid (-y1 = z) := ⟨_, hide rfl⟩
  obtain ⟨c, HC⟩ : ∃ z, Hid (-y0 = z) := ⟨_, hide rfl⟩
  have HL1 : Hid (f.natAbs < W ^ k) := hide (by rw [← HF.out, Int.natAbs_neg]; exact hy1.lt)
  have HL2 : Hid (c.natAbs < W ^ k) := hide (by rw [← HC.out, Int.natAbs_neg]; exact hy0.lt)
  have HQ1 : Hid (pairB x0 x1 qa y0 y1 qb = pairB x0 x1 qa f c qb) := hide (by rw [← HF.out, ← HC.out, pairB_neg])
  have HQ2 : Hid (x0 - y1 = x0 + f) := hide (by rw [← HF.out]; omega)
  have HQ3 : Hid (x1 - y0 = x1 + c) := hide (by rw [← HC.out]; omega)
  rw [HQ1.out, HQ2.out, HQ3.out]
  clear HQ1 HQ2 HQ3
  have HBd := hide HB0.out.drew
  have HD1 := hide (c_zneg (hy1.at_ HBd) (by omega))
  rw [HF.out] at HD1
  go_enter Tryz.func36, Tryz.ntmps36
  go_upto_region 1 with (fail)
  rw [← hW]
  clear hW
  go_cut [] (fun wx => ∃ C1 t1 k1 C2 t2 k2, Blk wx w.heap.size 27 #[.bool n0, .slice A0 l0 c0, .bool n1, .slice A1 l1 c1, .int .i64 qa] ∧ Blk wx (w.heap.size + 1) 27 #[.bool (decide (f < 0)), .slice C1 t1 k1, .bool (decide (c < 0)), .slice C2 t2 k2, .int .i64 qb] ∧
    Blk wx (w.heap.size + 2) 27 #[.bool false, .slice none 0 0, .bool false, .slice none 0 0, .int .i64 0] ∧ Below w.heap.size w wx ∧ QB wx (w.heap.size + 3) k (decide (f < 0)) C1 t1 k1 f ∧ QB wx (w.heap.size + 3) k (decide (c < 0)) C2 t2 k2 c ∧ w.heap.size + 3 ≤ wx.heap.size)
  case first =>
   go_region_with
    (first
      | (go_at_call 76; (with_reducible refine HD1.out.mono ?_); rintro e v1 ⟨vb1, u1, t1, rfl, hu1, ht1⟩
         obtain ⟨C1, cc1, rfl⟩ := hu1.form
         have ha := ha.drew.below vb1 ha.lt
         have hb := hb.drew.below vb1 hb.lt
         have hrs := hrs.drew.below vb1 hrs.lt
         have HV1 := hide (HBd.out.trans (vb1.mono HBd.out.size))
         have vs1 : W0.heap.size ≤ v1.heap.size := vb1.size
         obtain ⟨b0, b1, b2, b3, b4, -⟩ := hb.five
         have HD2 := hide (c_zneg (hy0.at_ HV1) (by omega))
         rw [HC.out] at HD2)
      | (go_at_call 76; (with_reducible refine HD2.out.mono ?_); rintro e v2 ⟨vb2, u2, t2, rfl, hu2, ht2⟩
         obtain ⟨C2, cc2, rfl⟩ := hu2.form
         have ha := ha.below vb2 ha.lt
         have hb := hb.below vb2 hb.lt
         have hrs := hrs.below vb2 hrs.lt
         have hu1 := hu1.below vb2
         have HV2 := hide (HV1.out.trans (vb2.mono HV1.out.size))
         have vs2 : v1.heap.size ≤ v2.heap.size := vb2.size
         obtain ⟨b0, b1, b2, b3, b4, b5, b6, b7, b8, b9⟩ := hb.five))
   all_goals go_wp2_with fail
   all_goals go_meet
   all_goals
     have q1 := (RetZ.qb hu1 ht1 HL1.out).mono (show w.heap.size + 3 ≤ _ from hs2)
     have q2 := (RetZ.qb hu2 ht2 HL2.out).mono (show w.heap.size + 3 ≤ _ from Nat.le_trans hs2 vs1)
   all_goals first
     | (have S := set22a hb (.bool (decide (f < 0))) (.slice C1 t1.length cc1) (.bool (decide (c < 0))) (.slice C2 t2.length cc2)
        exact ⟨C1, t1.length, cc1, C2, t2.length, cc2, S.2.2.2.1 _ _ _ (by omega) ha, S.1, S.2.2.2.1 _ _ _ (by omega) hrs, S.2.1 _ _ HV2.out (by omega), S.2.2.2.2 _ _ _ _ _ _ _ (by omega) q1, S.2.2.2.2 _ _ _ _ _ _ _ (by omega) q2, by rw [S.2.2.1]; omega⟩)
     | (have S := set22b hb (.bool (decide (f < 0))) (.slice C1 t1.length cc1) (.bool (decide (c < 0))) (.slice C2 t2.length cc2)
        exact ⟨C1, t1.length, cc1, C2, t2.length, cc2, S.2.2.2.1 _ _ _ (by omega) ha, S.1, S.2.2.2.1 _ _ _ (by omega) hrs, S.2.1 _ _ HV2.out (by omega), S.2.2.2.2 _ _ _ _ _ _ _ (by omega) q1, S.2.2.2.2 _ _ _ _ _ _ _ (by omega) q2, by rw [S.2.2.1]; omega⟩)
  case rest =>
    obtain ⟨C1, t1, k1, C2, t2, k2, ha, hb, hrs, HB2, q1, q2, hs4⟩ := hcut
    have HB2 := hide HB2
    obtain ⟨a0, a1, a2, a3, a4, -⟩ := ha.five
    obtain ⟨b0, b1, b2, b3, b4, -⟩ := hb.five
    have HA := hide (badd_calls qa qb (hx0.at_ HB2) (hx1.at_ HB2) q1.q q2.q hk)
    unfold RetE at HA
    obtain ⟨g1, HG1⟩ : ∃ z, Hid ((if pairB x0 x1 qa f c qb then x0 + f else 0) = z) := ⟨_, hide rfl⟩
    obtain ⟨g2, HG2⟩ : ∃ z, Hid ((if pairB x0 x1 qa f c qb then x1 + c else 0) = z) := ⟨_, hide rfl⟩
    obtain ⟨g3, HG3⟩ : ∃ z, Hid ((if pairB x0 x1 qa f c qb then qa else 0) = z) := ⟨_, hide rfl⟩
    obtain ⟨g4, HG4⟩ : ∃ z, Hid ((if pairB x0 x1 qa f c qb then (0 : Int) else 1) = z) := ⟨_, hide rfl⟩
    rw [HG1.out, HG2.out, HG3.out, HG4.out] at HA
    go_upto_region 2 with (fail)
    go_wp2_with fail
    refine HA.out.mono ?_
    rintro e w3 ⟨vb3, N1, D1, L1, K1, N2, D2, L2, K2, rfl, p1, p2⟩
    have hrs := hrs.below vb3 hrs.lt
    have HB3 := hide (HB2.out.trans (vb3.mono HB2.out.size))
    have hs5 := vb3.size
    obtain ⟨r0, r1, r2, r3, r4, r5, r6, r7, r8, r9⟩ := hrs.five
    go_wp2_with fail
    obtain ⟨W2, hW2, bl, kq, kb, -⟩ := set5_all hrs (.bool N1) (.slice D1 L1 K1) (.bool N2) (.slice D2 L2 K2) (.int .i64 g3)
    rw [← hW2]
    refine bodyPost_ret (results_ball_tmp rfl _ _ _ _ _ _ _ _ _ rfl bl) rfl ⟨kb _ _ HB3.out (by omega), ?_⟩
    unfold RetE
    rw [HG1.out, HG2.out, HG3.out, HG4.out]
    exact ⟨_, _, _, _, _, _, _, _, rfl, ((kq _ _ _ _ _ _ _ (by omega) p1).mono (by omega)).up (by omega), ((kq _ _ _ _ _ _ _ (by omega) p2).mono (by omega)).up (by omega)⟩
end Go.Proofs.YtnfbngiabdlclaaGreat

/- ball: what lies where (before, Has, Inside, Meets), and the document's. -/
import Derived.Test.YtnfbngiabdlclaaGreatBa9
import Derived.Test.YtnfbngiabdlclaaGreatRb3
set_option linter.unusedVariables false
set_option linter.unusedSimpArgs false
namespace Go.Proofs.YtnfbngiabdlclaaGreat
open Go.RowKit
open L (val dig nth)

/-- Is an end not above another one? -/
def befB (a p b q : Int) : Bool := decide (a * 2 ^ (2048 - p).toNat ≤ b * 2 ^ (2048 - q).toNat)
theorem bef_eq (a p b q : Int) (hp1 : p ≤ 2048) (hq1 : q ≤ 2048) {s t : Nat} (hs : (s : Int) = q - min p q) (ht : (t : Int) = p - min p q) : decide (a * 2 ^ s ≤ b * 2 ^ t) = befB a p b q := by
  unfold befB
  have h1 : (2048 - p).toNat = s + (2048 - max p q).toNat := by omega
  have h2 : (2048 - q).toNat = t + (2048 - max p q).toNat := by omega
  rw [h1, h2, Int.pow_add, Int.pow_add, ← Int.mul_assoc, ← Int.mul_assoc]
  have hp : (0 : Int) < 2 ^ (2048 - max p q).toNat := Int.pow_pos (by omega)
  exact decide_eq_decide.2 ⟨fun h => Int.mul_le_mul_of_nonneg_right h (by omega), fun h => Int.le_of_mul_le_mul_right h hp⟩
theorem cmpZ_dec (x y : Int) : decide (cmpZ x y ≤ 0) = decide (x ≤ y) := decide_eq_decide.2 (cmpZ_le x y)

set_option maxRecDepth 100000 in
theorem before_calls {w : World} {k : Nat} {n m : Bool} {A B : Option Addr} {l j c d : Nat} {a b : Int} (p q : Int) (ha : Q w k n A l c a) (hb : Q w k m B j d b) (hk : k ≤ 1000) (hp0 : 0 ≤ p) (hp1 : p ≤ 2048) (hq0 : 0 ≤ q) (hq1 : q ≤ 2048) :
    Calls Tryz.prog 65 #[.agg #[.bool n, .slice A l c], .int .i64 p, .agg #[.bool m, .slice B j d], .int .i64 q] w fun e w' => Below w.heap.size w w' ∧ e = .returned (.bool (befB a p b q)) := by
  obtain ⟨W0, hW, hx, hy, hB0, hs⟩ := start2 w 25 25 #[.bool n, .slice A l c] #[.bool m, .slice B j d]
  have HB0 := hide hB0
  clear hB0 hs
  obtain ⟨a0, a1, -, -⟩ := hx.two
  obtain ⟨b0, b1, -, -⟩ := hy.two
  obtain ⟨mn, HMN⟩ : ∃ z, Hid (min p q = z) := ⟨_, hide rfl⟩
  obtain ⟨s, HS⟩ : ∃ s : Nat, Hid ((s : Int) = q - mn) := ⟨(q - mn).toNat, hide (by have := HMN.out; omega)⟩
  obtain ⟨t, HT⟩ : ∃ t : Nat, Hid ((t : Int) = p - mn) := ⟨(p - mn).toNat, hide (by have := HMN.out; omega)⟩
  have hs1 : s ≤ 2048 := by have h1 := HMN.out; have h2 := HS.out; omega
  have ht1 : t ≤ 2048 := by have h1 := HMN.out; have h2 := HT.out; omega
  have hm : min p q = mn := HMN.out
  have hws : IntKind.i64.wrap (q - mn) = (s : Int) := by rw [← HS.out]; exact IntWalk.i64_in _ (by omega)
  have hwt : IntKind.i64.wrap (p - mn) = (t : Int) := by rw [← HT.out]; exact IntWalk.i64_in _ (by omega)
  obtain ⟨r, HR⟩ : ∃ r, Hid (befB a p b q = r) := ⟨_, hide rfl⟩
  have HRR : Hid (decide (a * 2 ^ s ≤ b * 2 ^ t) = r) := hide (by rw [← HR.out]; exact bef_eq a p b q hp1 hq1 (by rw [HMN.out]; exact HS.out) (by rw [HMN.out]; exact HT.out))
  rw [HR.out]
  obtain ⟨u, HU⟩ : ∃ z, Hid (a * 2 ^ s = z) := ⟨_, hide rfl⟩
  obtain ⟨v, HV⟩ : ∃ z, Hid (b * 2 ^ t = z) := ⟨_, hide rfl⟩
  have HLU : Hid (u.natAbs < W ^ (k + 125)) := hide (by rw [← HU.out]; exact z_shl_lt ha.lt (by omega))
  have HLV : Hid (v.natAbs < W ^ (k + 125)) := hide (by rw [← HV.out]; exact z_shl_lt hb.lt (by omega))
  rw [HU.out, HV.out] at HRR
  obtain ⟨c', HC⟩ : ∃ z, Hid (cmpZ u v = z) := ⟨_, hide rfl⟩
  have hcc : decide (c' ≤ 0) = r := by rw [← HC.out, cmpZ_dec]; exact HRR.out
  go_enter Tryz.func65, Tryz.ntmps65
  go_upto_region 1 with (fail)
  rw [← hW]
  clear hW
  have HBd := hide HB0.out.drew
  have HD1 := hide (c_shl2 (ha.at_ HBd) (by omega) s (by omega))
  rw [HU.out] at HD1
  go_region_held3 (fun w' => w'.cell? ⟨w.heap.size, 0, none⟩ = some (.bool n) ∧ w'.cell? ⟨w.heap.size, 1, none⟩ = some (.slice A l c) ∧ w'.cell? ⟨w.heap.size + 1, 0, none⟩ = some (.bool m) ∧ w'.cell? ⟨w.heap.size + 1, 1, none⟩ = some (.slice B j d)) (go_keep)
    (first
      | (go_at_call 81; (with_reducible refine HD1.out.mono ?_); rintro e v1 ⟨vb1, u1, d1, rfl, hu1, hd1⟩
         obtain ⟨C1, cc1, rfl⟩ := hu1.form
         have hx := hx.drew.below vb1 hx.lt
         have hy := hy.drew.below vb1 hy.lt
         have HV1 := hide (HBd.out.trans (vb1.mono HBd.out.size))
         have q1 := (RetZ.qb hu1 hd1 HLU.out).q
         obtain ⟨a0, a1, -, -⟩ := hx.two
         obtain ⟨b0, b1, -, -⟩ := hy.two
         have HD2 := hide (c_shl2 (hb.at_ HV1) (by omega) t (by omega))
         rw [HV.out] at HD2)
      | (go_at_call 81; (with_reducible refine HD2.out.mono ?_); rintro e v2 ⟨vb2, u2, d2, rfl, hu2, hd2⟩
         obtain ⟨C2, cc2, rfl⟩ := hu2.form
         have hx := hx.below vb2 hx.lt
         have hy := hy.below vb2 hy.lt
         have HV2 := hide (HV1.out.trans (vb2.mono HV1.out.size))
         have q1 := q1.below vb2
         have q2 := (RetZ.qb hu2 hd2 HLV.out).q
         obtain ⟨a0, a1, -, -⟩ := hx.two
         obtain ⟨b0, b1, -, -⟩ := hy.two
         have HD3 := hide (c_zcmp q1 q2 (by omega) (by omega))
         rw [HC.out] at HD3)
      | (go_at_call 63; (with_reducible refine HD3.out.mono ?_); rintro e v3 ⟨vb3, rfl⟩
         have hx := hx.below vb3 hx.lt
         have hy := hy.below vb3 hy.lt
         have HV3 := hide (HV2.out.trans (vb3.mono HV2.out.size))
         obtain ⟨a0, a1, -, -⟩ := hx.two
         obtain ⟨b0, b1, -, -⟩ := hy.two))
  all_goals go_wp2_with fail
  all_goals go_ret
  all_goals exact ⟨HV3.out, by first | rfl | rw [hcc]⟩

set_option maxRecDepth 100000 in
theorem end_calls {w : World} {k : Nat} {n : Bool} {A : Option Addr} {l c : Nat} {a : Int} (q : Int) (ha : Q w k n A l c a) (hk : k ≤ 1000) (hq0 : 0 ≤ q) (hq1 : q ≤ 2048) :
    Calls Tryz.prog 66 #[.agg #[.bool n, .slice A l c], .int .i64 q] w fun e w' => Below w.heap.size w w' ∧ RetZ w.heap.size (a * 2 ^ (2048 - q).toNat) e w' := by
  obtain ⟨W0, hW, hx, hr, hB0, hs⟩ := start2 w 25 25 #[.bool n, .slice A l c] #[.bool false, .slice none 0 0]
  have HB0 := hide hB0
  have hs2 : w.heap.size + 2 ≤ W0.heap.size := by omega
  clear hB0 hs
  obtain ⟨a0, a1, -, -⟩ := hx.two
  obtain ⟨t, HT⟩ : ∃ t : Nat, Hid ((2048 - q).toNat = t) := ⟨_, hide rfl⟩
  have ht1 : t ≤ 2048 := by have h2 := HT.out; omega
  have hwt : IntKind.i64.wrap (2048 - q) = (t : Int) := by rw [← HT.out]; rw [IntWalk.i64_in _ (by omega)]; omega
  rw [HT.out]
  obtain ⟨u, HU⟩ : ∃ z, Hid (a * 2 ^ t = z) := ⟨_, hide rfl⟩
  have HD1 := hide (d_shl2 (ha.at_ HB0) (by omega) t (by omega))
  rw [HU.out] at HD1
  rw [HU.out]
  go_enter Tryz.func66, Tryz.ntmps66
  go_upto_region 1 with (fail)
  rw [← hW]
  clear hW
  go_wp2_with fail
  refine HD1.out.mono ?_
  rintro e w1 ⟨hb1, u1, d1, rfl, hu1, hd1⟩
  obtain ⟨C1, cc1, rfl⟩ := hu1.form
  have hr := hr.below hb1 hr.lt
  have HB1 := hide (HB0.out.trans (hb1.mono HB0.out.size))
  obtain ⟨r0, r1, r2, r3⟩ := hr.two
  go_wp2_with fail
  refine bodyPost_ret (results_int rfl _ _ _ _ _ _ rfl (blk_two hr)) rfl ⟨below2 HB1.out (by omega) _ _, ?_⟩
  exact ⟨_, d1, rfl, (nums_low2 (r := w.heap.size + 1) (hu1.mono hs2) (by omega) _ _).mono (by omega), hd1⟩

theorem rightB_qq {x y q : Int} (h : rightB x y q = true) : 0 ≤ q ∧ q ≤ 2048 := by
  unfold rightB mayQ at h
  rw [Bool.and_eq_true] at h
  exact of_decide_eq_true h.1
/-- Does a ball lie in another one? Do two meet? -/
def insB (x0 x1 qa y0 y1 qb : Int) : Bool := rightB x0 x1 qa && rightB y0 y1 qb && befB y0 qb x0 qa && befB x1 qa y1 qb
def metB (x0 x1 qa y0 y1 qb : Int) : Bool := rightB x0 x1 qa && rightB y0 y1 qb && befB y0 qb x1 qa && befB x0 qa y1 qb

set_option maxRecDepth 100000 in
theorem ins_calls {w : World} {k : Nat} {n0 n1 m0 m1 : Bool} {A0 A1 B0 B1 : Option Addr} {l0 l1 j0 j1 c0 c1 d0 d1 : Nat} {x0 x1 y0 y1 : Int} (qa qb : Int) (hx0 : Q w k n0 A0 l0 c0 x0) (hx1 : Q w k n1 A1 l1 c1 x1) (hy0 : Q w k m0 B0 j0 d0 y0) (hy1 : Q w k m1 B1 j1 d1 y1) (hk : k ≤ 1000) :
    Calls Tryz.prog 26 #[.agg #[.bool n0, .slice A0 l0 c0, .bool n1, .slice A1 l1 c1, .int .i64 qa], .agg #[.bool m0, .slice B0 j0 d0, .bool m1, .slice B1 j1 d1, .int .i64 qb]] w fun e w' => Below w.heap.size w w' ∧ e = .returned (.bool (insB x0 x1 qa y0 y1 qb)) := by
  obtain ⟨W0, hW, ha, hb, hB0, hs⟩ := start2 w 27 27 #[.bool n0, .slice A0 l0 c0, .bool n1, .slice A1 l1 c1, .int .i64 qa] #[.bool m0, .slice B0 j0 d0, .bool m1, .slice B1 j1 d1, .int .i64 qb]
  have HB0 := hide hB0
  clear hs hB0
  obtain ⟨ra, HRA⟩ : ∃ b, Hid (rightB x0 x1 qa = b) := ⟨_, hide rfl⟩
  obtain ⟨rb, HRB⟩ : ∃ b, Hid (rightB y0 y1 qb = b) := ⟨_, hide rfl⟩
  obtain ⟨f1, HF1⟩ : ∃ b, Hid (befB y0 qb x0 qa = b) := ⟨_, hide rfl⟩
  obtain ⟨f2, HF2⟩ : ∃ b, Hid (befB x1 qa y1 qb = b) := ⟨_, hide rfl⟩
  obtain ⟨r, HR⟩ : ∃ b, Hid (insB x0 x1 qa y0 y1 qb = b) := ⟨_, hide rfl⟩
  have HRR : Hid (r = (ra && rb && f1 && f2)) := hide (by rw [← HR.out, ← HRA.out, ← HRB.out, ← HF1.out, ← HF2.out]; rfl)
  rw [HR.out]
  have HQA : Hid (ra = true → 0 ≤ qa ∧ qa ≤ 2048) := hide (fun h => rightB_qq (HRA.out.trans h))
  have HQB : Hid (rb = true → 0 ≤ qb ∧ qb ≤ 2048) := hide (fun h => rightB_qq (HRB.out.trans h))
  obtain ⟨a0, a1, a2, a3, a4, -⟩ := ha.five
  obtain ⟨b0, b1, b2, b3, b4, -⟩ := hb.five
  go_enter Tryz.func26, Tryz.ntmps26
  go_upto_region 1 with (fail)
  rw [← hW]
  clear hW
  have HC := hide (right_calls qa (hx0.at_ HB0) (hx1.at_ HB0) (by omega) (by omega))
  rw [HRA.out] at HC
  go_wp2_with fail
  refine HC.out.mono ?_
  rintro e w1 ⟨vb, rfl⟩
  clear HC
  clear a0 a1 a2 a3 a4 b0 b1 b2 b3 b4
  have ha := ha.below vb ha.lt
  have hb := hb.below vb hb.lt
  have HB1 := hide (HB0.out.trans (vb.mono HB0.out.size))
  clear vb
  obtain ⟨a0, a1, a2, a3, a4, -⟩ := ha.five
  obtain ⟨b0, b1, b2, b3, b4, -⟩ := hb.five
  cases ra with
  | false =>
    have hr : r = false := by rw [HRR.out]; rfl
    subst hr
    go_wp2_with fail
    go_ret
    exact ⟨HB1.out, rfl⟩
  | true =>
    obtain ⟨hqa0, hqa1⟩ := HQA.out rfl
    have HC := hide (right_calls qb (hy0.at_ HB1) (hy1.at_ HB1) (by omega) (by omega))
    rw [HRB.out] at HC
    go_wp2_with fail
    refine HC.out.mono ?_
    rintro e w2 ⟨vb, rfl⟩
    clear HC
    clear a0 a1 a2 a3 a4 b0 b1 b2 b3 b4
    have ha := ha.below vb ha.lt
    have hb := hb.below vb hb.lt
    have HB2 := hide (HB1.out.trans (vb.mono HB1.out.size))
    clear vb
    obtain ⟨a0, a1, a2, a3, a4, -⟩ := ha.five
    obtain ⟨b0, b1, b2, b3, b4, -⟩ := hb.five
    cases rb with
    | false =>
      have hr : r = false := by rw [HRR.out]; rfl
      subst hr
      go_wp2_with fail
      go_ret
      exact ⟨HB2.out, rfl⟩
    | true =>
      obtain ⟨hqb0, hqb1⟩ := HQB.out rfl
      have HC := hide (before_calls qb qa (hy0.at_ HB2) (hx0.at_ HB2) (by omega) (by omega) (by omega) (by omega) (by omega))
      rw [HF1.out] at HC
      go_wp2_with fail
      refine HC.out.mono ?_
      rintro e w3 ⟨vb, rfl⟩
      clear HC
      clear a0 a1 a2 a3 a4 b0 b1 b2 b3 b4
      have ha := ha.below vb ha.lt
      have hb := hb.below vb hb.lt
      have HB3 := hide (HB2.out.trans (vb.mono HB2.out.size))
      clear vb
      obtain ⟨a0, a1, a2, a3, a4, -⟩ := ha.five
      obtain ⟨b0, b1, b2, b3, b4, -⟩ := hb.five
      cases f1 with
      | false =>
        have hr : r = false := by rw [HRR.out]; rfl
        subst hr
        go_wp2_with fail
        go_ret
        exact ⟨HB3.out, rfl⟩
      | true =>
        have HC := hide (before_calls qa qb (hx1.at_ HB3) (hy1.at_ HB3) (by omega) (by omega) (by omega) (by omega) (by omega))
        rw [HF2.out] at HC
        go_wp2_with fail
        refine HC.out.mono ?_
        rintro e w4 ⟨vb, rfl⟩
        clear HC
        clear a0 a1 a2 a3 a4 b0 b1 b2 b3 b4
        have ha := ha.below vb ha.lt
        have hb := hb.below vb hb.lt
        have HB4 := hide (HB3.out.trans (vb.mono HB3.out.size))
        clear vb
        obtain ⟨a0, a1, a2, a3, a4, -⟩ := ha.five
        obtain ⟨b0, b1, b2, b3, b4, -⟩ := hb.five
        have hr : r = f2 := by rw [HRR.out]; rfl
        subst hr
        go_wp2_with fail
        go_ret
        exact ⟨HB4.out, rfl⟩

set_option maxRecDepth 100000 in
theorem insR_calls {w : World} {k : Nat} {n0 n1 m0 m1 : Bool} {A0 A1 B0 B1 : Option Addr} {l0 l1 j0 j1 c0 c1 d0 d1 : Nat} {x0 x1 y0 y1 : Int} (qa qb : Int) (hx0 : Q w k n0 A0 l0 c0 x0) (hx1 : Q w k n1 A1 l1 c1 x1) (hy0 : Q w k m0 B0 j0 d0 y0) (hy1 : Q w k m1 B1 j1 d1 y1) (hk : k ≤ 700) :
    Calls Tryz.prog 27 #[.agg #[.bool n0, .slice A0 l0 c0, .bool n1, .slice A1 l1 c1, .int .i64 qa], .agg #[.bool m0, .slice B0 j0 d0, .bool m1, .slice B1 j1 d1, .int .i64 qb]] w fun e w' => Below w.heap.size w w' ∧ e = .returned (.bool (insB x0 x1 qa y0 y1 qb)) := by
  obtain ⟨W0, hW, ha, hb, hB0, hs⟩ := start2 w 27 27 #[.bool n0, .slice A0 l0 c0, .bool n1, .slice A1 l1 c1, .int .i64 qa] #[.bool m0, .slice B0 j0 d0, .bool m1, .slice B1 j1 d1, .int .i64 qb]
  have HB0 := hide hB0
  clear hs hB0
  obtain ⟨ra, HRA⟩ : ∃ b, Hid (rightB x0 x1 qa = b) := ⟨_, hide rfl⟩
  obtain ⟨rb, HRB⟩ : ∃ b, Hid (rightB y0 y1 qb = b) := ⟨_, hide rfl⟩
  obtain ⟨f1, HF1⟩ : ∃ b, Hid (befB y0 qb x0 qa = b) := ⟨_, hide rfl⟩
  obtain ⟨f2, HF2⟩ : ∃ b, Hid (befB x1 qa y1 qb = b) := ⟨_, hide rfl⟩
  obtain ⟨r, HR⟩ : ∃ b, Hid (insB x0 x1 qa y0 y1 qb = b) := ⟨_, hide rfl⟩
  have HRR : Hid (r = (ra && rb && f1 && f2)) := hide (by rw [← HR.out, ← HRA.out, ← HRB.out, ← HF1.out, ← HF2.out]; rfl)
  rw [HR.out]
  have HQA : Hid (ra = true → 0 ≤ qa ∧ qa ≤ 2048) := hide (fun h => rightB_qq (HRA.out.trans h))
  have HQB : Hid (rb = true → 0 ≤ qb ∧ qb ≤ 2048) := hide (fun h => rightB_qq (HRB.out.trans h))
  obtain ⟨s1, Hs1⟩ : ∃ z, Hid (y0 * 2 ^ (2048 - qb).toNat = z) := ⟨_, hide rfl⟩
  obtain ⟨s2, Hs2⟩ : ∃ z, Hid (x0 * 2 ^ (2048 - qa).toNat = z) := ⟨_, hide rfl⟩
  obtain ⟨s3, Hs3⟩ : ∃ z, Hid (x1 * 2 ^ (2048 - qa).toNat = z) := ⟨_, hide rfl⟩
  obtain ⟨s4, Hs4⟩ : ∃ z, Hid (y1 * 2 ^ (2048 - qb).toNat = z) := ⟨_, hide rfl⟩
  obtain ⟨g1, HG1⟩ : ∃ z, Hid (cmpZ s1 s2 = z) := ⟨_, hide rfl⟩
  obtain ⟨g2, HG2⟩ : ∃ z, Hid (cmpZ s3 s4 = z) := ⟨_, hide rfl⟩
  have hd1 : decide (g1 ≤ 0) = f1 := by rw [← HG1.out, cmpZ_dec, ← HF1.out, ← Hs1.out, ← Hs2.out]; rfl
  have hd2 : decide (g2 ≤ 0) = f2 := by rw [← HG2.out, cmpZ_dec, ← HF2.out, ← Hs3.out, ← Hs4.out]; rfl
  obtain ⟨a0, a1, a2, a3, a4, -⟩ := ha.five
  obtain ⟨b0, b1, b2, b3, b4, -⟩ := hb.five
  go_enter Tryz.func27, Tryz.ntmps27
  go_upto_region 1 with (fail)
  rw [← hW]
  clear hW
  have HC := hide (rightR_calls qa (hx0.at_ HB0) (hx1.at_ HB0) (by omega) (by omega))
  rw [HRA.out] at HC
  go_wp2_with fail
  refine HC.out.mono ?_
  rintro e w1 ⟨vb, rfl⟩
  clear HC
  clear a0 a1 a2 a3 a4 b0 b1 b2 b3 b4
  have ha := ha.below vb ha.lt
  have hb := hb.below vb hb.lt
  have HB1 := hide (HB0.out.trans (vb.mono HB0.out.size))
  clear vb
  obtain ⟨a0, a1, a2, a3, a4, -⟩ := ha.five
  obtain ⟨b0, b1, b2, b3, b4, -⟩ := hb.five
  go_upto_region 2 with (fail)
  have HC := hide (rightR_calls qb (hy0.at_ HB1) (hy1.at_ HB1) (by omega) (by omega))
  rw [HRB.out] at HC
  go_wp2_with fail
  refine HC.out.mono ?_
  rintro e w2 ⟨vb, rfl⟩
  clear HC
  clear a0 a1 a2 a3 a4 b0 b1 b2 b3 b4
  have ha := ha.below vb ha.lt
  have hb := hb.below vb hb.lt
  have HB2 := hide (HB1.out.trans (vb.mono HB1.out.size))
  clear vb
  obtain ⟨a0, a1, a2, a3, a4, -⟩ := ha.five
  obtain ⟨b0, b1, b2, b3, b4, -⟩ := hb.five
  go_upto_region 3 with (fail)
  cases ra with
  | false =>
    have hr : r = false := by rw [HRR.out]; rfl
    subst hr
    go_wp2_with fail
    go_ret
    exact ⟨HB2.out, rfl⟩
  | true =>
    obtain ⟨hqa0, hqa1⟩ := HQA.out rfl
    cases rb with
    | false =>
      have hr : r = false := by rw [HRR.out]; rfl
      subst hr
      go_wp2_with fail
      go_ret
      exact ⟨HB2.out, rfl⟩
    | true =>
      obtain ⟨hqb0, hqb1⟩ := HQB.out rfl
      go_upto_region 5 with (fail)
      have HLs1 : Hid (s1.natAbs < W ^ (k + 125)) := hide (by rw [← Hs1.out]; exact z_shl_lt hy0.lt (by omega))
      have HLs2 : Hid (s2.natAbs < W ^ (k + 125)) := hide (by rw [← Hs2.out]; exact z_shl_lt hx0.lt (by omega))
      have HBd := hide HB2.out.drew
      have HE1 := hide (end_calls qb (hy0.at_ HBd) (by omega) (by omega) (by omega))
      rw [Hs1.out] at HE1
      go_region_held3 (fun w' => w'.cell? ⟨w.heap.size, 0, none⟩ = some (.bool n0) ∧ w'.cell? ⟨w.heap.size, 1, none⟩ = some (.slice A0 l0 c0) ∧ w'.cell? ⟨w.heap.size, 2, none⟩ = some (.bool n1) ∧ w'.cell? ⟨w.heap.size, 3, none⟩ = some (.slice A1 l1 c1) ∧ w'.cell? ⟨w.heap.size, 4, none⟩ = some (.int .i64 qa) ∧ w'.cell? ⟨w.heap.size + 1, 0, none⟩ = some (.bool m0) ∧ w'.cell? ⟨w.heap.size + 1, 1, none⟩ = some (.slice B0 j0 d0) ∧ w'.cell? ⟨w.heap.size + 1, 2, none⟩ = some (.bool m1) ∧ w'.cell? ⟨w.heap.size + 1, 3, none⟩ = some (.slice B1 j1 d1) ∧ w'.cell? ⟨w.heap.size + 1, 4, none⟩ = some (.int .i64 qb)) (go_keep)
        (first
          | (go_at_call 66; (with_reducible refine HE1.out.mono ?_); rintro e v51 ⟨vb, u1, t1, rfl, hu1, ht1⟩
             have ha := ha.drew.below vb ha.lt
             have hb := hb.drew.below vb hb.lt
             have HV1 := hide (HBd.out.trans (vb.mono HBd.out.size))
             obtain ⟨C1, cc1, rfl⟩ := hu1.form
             have q1 := (RetZ.qb hu1 ht1 HLs1.out).q
             have HE2 := hide (end_calls qa (hx0.at_ HV1) (by omega) (by omega) (by omega))
             rw [Hs2.out] at HE2
             obtain ⟨a0, a1, a2, a3, a4, -⟩ := ha.five
             obtain ⟨b0, b1, b2, b3, b4, -⟩ := hb.five)
          | (go_at_call 66; (with_reducible refine HE2.out.mono ?_); rintro e v52 ⟨vb, u2, t2, rfl, hu2, ht2⟩
             have ha := ha.below vb ha.lt
             have hb := hb.below vb hb.lt
             have HV2 := hide (HV1.out.trans (vb.mono HV1.out.size))
             obtain ⟨C2, cc2, rfl⟩ := hu2.form
             have q1 := q1.below vb
             have q2 := (RetZ.qb hu2 ht2 HLs2.out).q
             have HE3 := hide (d_zcmp q1 q2 (by omega) (by omega))
             rw [HG1.out] at HE3
             obtain ⟨a0, a1, a2, a3, a4, -⟩ := ha.five
             obtain ⟨b0, b1, b2, b3, b4, -⟩ := hb.five)
          | (go_at_call 64; (with_reducible refine HE3.out.mono ?_); rintro e v53 ⟨vb, rfl⟩
             have ha := ha.below vb ha.lt
             have hb := hb.below vb hb.lt
             have HB5 := hide (HV2.out.trans (vb.mono HV2.out.size))
             clear q1 q2
             obtain ⟨a0, a1, a2, a3, a4, -⟩ := ha.five
             obtain ⟨b0, b1, b2, b3, b4, -⟩ := hb.five)
        )
      go_upto_region 6 with (fail)
      have HLs3 : Hid (s3.natAbs < W ^ (k + 125)) := hide (by rw [← Hs3.out]; exact z_shl_lt hx1.lt (by omega))
      have HLs4 : Hid (s4.natAbs < W ^ (k + 125)) := hide (by rw [← Hs4.out]; exact z_shl_lt hy1.lt (by omega))
      have HBd := hide HB5.out.drew
      have HE1 := hide (end_calls qa (hx1.at_ HBd) (by omega) (by omega) (by omega))
      rw [Hs3.out] at HE1
      go_region_held3 (fun w' => w'.cell? ⟨w.heap.size, 0, none⟩ = some (.bool n0) ∧ w'.cell? ⟨w.heap.size, 1, none⟩ = some (.slice A0 l0 c0) ∧ w'.cell? ⟨w.heap.size, 2, none⟩ = some (.bool n1) ∧ w'.cell? ⟨w.heap.size, 3, none⟩ = some (.slice A1 l1 c1) ∧ w'.cell? ⟨w.heap.size, 4, none⟩ = some (.int .i64 qa) ∧ w'.cell? ⟨w.heap.size + 1, 0, none⟩ = some (.bool m0) ∧ w'.cell? ⟨w.heap.size + 1, 1, none⟩ = some (.slice B0 j0 d0) ∧ w'.cell? ⟨w.heap.size + 1, 2, none⟩ = some (.bool m1) ∧ w'.cell? ⟨w.heap.size + 1, 3, none⟩ = some (.slice B1 j1 d1) ∧ w'.cell? ⟨w.heap.size + 1, 4, none⟩ = some (.int .i64 qb)) (go_keep)
        (first
          | (go_at_call 66; (with_reducible refine HE1.out.mono ?_); rintro e v61 ⟨vb, u1, t1, rfl, hu1, ht1⟩
             have ha := ha.drew.below vb ha.lt
             have hb := hb.drew.below vb hb.lt
             have HV1 := hide (HBd.out.trans (vb.mono HBd.out.size))
             obtain ⟨C1, cc1, rfl⟩ := hu1.form
             have q1 := (RetZ.qb hu1 ht1 HLs3.out).q
             have HE2 := hide (end_calls qb (hy1.at_ HV1) (by omega) (by omega) (by omega))
             rw [Hs4.out] at HE2
             obtain ⟨a0, a1, a2, a3, a4, -⟩ := ha.five
             obtain ⟨b0, b1, b2, b3, b4, -⟩ := hb.five)
          | (go_at_call 66; (with_reducible refine HE2.out.mono ?_); rintro e v62 ⟨vb, u2, t2, rfl, hu2, ht2⟩
             have ha := ha.below vb ha.lt
             have hb := hb.below vb hb.lt
             have HV2 := hide (HV1.out.trans (vb.mono HV1.out.size))
             obtain ⟨C2, cc2, rfl⟩ := hu2.form
             have q1 := q1.below vb
             have q2 := (RetZ.qb hu2 ht2 HLs4.out).q
             have HE3 := hide (d_zcmp q1 q2 (by omega) (by omega))
             rw [HG2.out] at HE3
             obtain ⟨a0, a1, a2, a3, a4, -⟩ := ha.five
             obtain ⟨b0, b1, b2, b3, b4, -⟩ := hb.five)
          | (go_at_call 64; (with_reducible refine HE3.out.mono ?_); rintro e v63 ⟨vb, rfl⟩
             have ha := ha.below vb ha.lt
             have hb := hb.below vb hb.lt
             have HB6 := hide (HV2.out.trans (vb.mono HV2.out.size))
             clear q1 q2
             obtain ⟨a0, a1, a2, a3, a4, -⟩ := ha.five
             obtain ⟨b0, b1, b2, b3, b4, -⟩ := hb.five)
        )
      go_upto_region 7 with (fail)
      cases f1 with
      | false =>
        have hr : r = false := by rw [HRR.out]; rfl
        subst hr
        go_wp2_with fail
        go_ret
        exact ⟨HB6.out, rfl⟩
      | true =>
        have hr : r = f2 := by rw [HRR.out]; rfl
        subst hr
        go_wp2_with fail
        go_ret
        exact ⟨HB6.out, by first | rfl | rw [hd2]⟩

set_option maxRecDepth 100000 in
theorem met_calls {w : World} {k : Nat} {n0 n1 m0 m1 : Bool} {A0 A1 B0 B1 : Option Addr} {l0 l1 j0 j1 c0 c1 d0 d1 : Nat} {x0 x1 y0 y1 : Int} (qa qb : Int) (hx0 : Q w k n0 A0 l0 c0 x0) (hx1 : Q w k n1 A1 l1 c1 x1) (hy0 : Q w k m0 B0 j0 d0 y0) (hy1 : Q w k m1 B1 j1 d1 y1) (hk : k ≤ 1000) :
    Calls Tryz.prog 28 #[.agg #[.bool n0, .slice A0 l0 c0, .bool n1, .slice A1 l1 c1, .int .i64 qa], .agg #[.bool m0, .slice B0 j0 d0, .bool m1, .slice B1 j1 d1, .int .i64 qb]] w fun e w' => Below w.heap.size w w' ∧ e = .returned (.bool (metB x0 x1 qa y0 y1 qb)) := by
  obtain ⟨W0, hW, ha, hb, hB0, hs⟩ := start2 w 27 27 #[.bool n0, .slice A0 l0 c0, .bool n1, .slice A1 l1 c1, .int .i64 qa] #[.bool m0, .slice B0 j0 d0, .bool m1, .slice B1 j1 d1, .int .i64 qb]
  have HB0 := hide hB0
  clear hs hB0
  obtain ⟨ra, HRA⟩ : ∃ b, Hid (rightB x0 x1 qa = b) := ⟨_, hide rfl⟩
  obtain ⟨rb, HRB⟩ : ∃ b, Hid (rightB y0 y1 qb = b) := ⟨_, hide rfl⟩
  obtain ⟨f1, HF1⟩ : ∃ b, Hid (befB y0 qb x1 qa = b) := ⟨_, hide rfl⟩
  obtain ⟨f2, HF2⟩ : ∃ b, Hid (befB x0 qa y1 qb = b) := ⟨_, hide rfl⟩
  obtain ⟨r, HR⟩ : ∃ b, Hid (metB x0 x1 qa y0 y1 qb = b) := ⟨_, hide rfl⟩
  have HRR : Hid (r = (ra && rb && f1 && f2)) := hide (by rw [← HR.out, ← HRA.out, ← HRB.out, ← HF1.out, ← HF2.out]; rfl)
  rw [HR.out]
  have HQA : Hid (ra = true → 0 ≤ qa ∧ qa ≤ 2048) := hide (fun h => rightB_qq (HRA.out.trans h))
  have HQB : Hid (rb = true → 0 ≤ qb ∧ qb ≤ 2048) := hide (fun h => rightB_qq (HRB.out.trans h))
  obtain ⟨a0, a1, a2, a3, a4, -⟩ := ha.five
  obtain ⟨b0, b1, b2, b3, b4, -⟩ := hb.five
  go_enter Tryz.func28, Tryz.ntmps28
  go_upto_region 1 with (fail)
  rw [← hW]
  clear hW
  have HC := hide (right_calls qa (hx0.at_ HB0) (hx1.at_ HB0) (by omega) (by omega))
  rw [HRA.out] at HC
  go_wp2_with fail
  refine HC.out.mono ?_
  rintro e w1 ⟨vb, rfl⟩
  clear HC
  clear a0 a1 a2 a3 a4 b0 b1 b2 b3 b4
  have ha := ha.below vb ha.lt
  have hb := hb.below vb hb.lt
  have HB1 := hide (HB0.out.trans (vb.mono HB0.out.size))
  clear vb
  obtain ⟨a0, a1, a2, a3, a4, -⟩ := ha.five
  obtain ⟨b0, b1, b2, b3, b4, -⟩ := hb.five
  cases ra with
  | false =>
    have hr : r = false := by rw [HRR.out]; rfl
    subst hr
    go_wp2_with fail
    go_ret
    exact ⟨HB1.out, rfl⟩
  | true =>
    obtain ⟨hqa0, hqa1⟩ := HQA.out rfl
    have HC := hide (right_calls qb (hy0.at_ HB1) (hy1.at_ HB1) (by omega) (by omega))
    rw [HRB.out] at HC
    go_wp2_with fail
    refine HC.out.mono ?_
    rintro e w2 ⟨vb, rfl⟩
    clear HC
    clear a0 a1 a2 a3 a4 b0 b1 b2 b3 b4
    have ha := ha.below vb ha.lt
    have hb := hb.below vb hb.lt
    have HB2 := hide (HB1.out.trans (vb.mono HB1.out.size))
    clear vb
    obtain ⟨a0, a1, a2, a3, a4, -⟩ := ha.five
    obtain ⟨b0, b1, b2, b3, b4, -⟩ := hb.five
    cases rb with
    | false =>
      have hr : r = false := by rw [HRR.out]; rfl
      subst hr
      go_wp2_with fail
      go_ret
      exact ⟨HB2.out, rfl⟩
    | true =>
      obtain ⟨hqb0, hqb1⟩ := HQB.out rfl
      have HC := hide (before_calls qb qa (hy0.at_ HB2) (hx1.at_ HB2) (by omega) (by omega) (by omega) (by omega) (by omega))
      rw [HF1.out] at HC
      go_wp2_with fail
      refine HC.out.mono ?_
      rintro e w3 ⟨vb, rfl⟩
      clear HC
      clear a0 a1 a2 a3 a4 b0 b1 b2 b3 b4
      have ha := ha.below vb ha.lt
      have hb := hb.below vb hb.lt
      have HB3 := hide (HB2.out.trans (vb.mono HB2.out.size))
      clear vb
      obtain ⟨a0, a1, a2, a3, a4, -⟩ := ha.five
      obtain ⟨b0, b1, b2, b3, b4, -⟩ := hb.five
      cases f1 with
      | false =>
        have hr : r = false := by rw [HRR.out]; rfl
        subst hr
        go_wp2_with fail
        go_ret
        exact ⟨HB3.out, rfl⟩
      | true =>
        have HC := hide (before_calls qa qb (hx0.at_ HB3) (hy1.at_ HB3) (by omega) (by omega) (by omega) (by omega) (by omega))
        rw [HF2.out] at HC
        go_wp2_with fail
        refine HC.out.mono ?_
        rintro e w4 ⟨vb, rfl⟩
        clear HC
        clear a0 a1 a2 a3 a4 b0 b1 b2 b3 b4
        have ha := ha.below vb ha.lt
        have hb := hb.below vb hb.lt
        have HB4 := hide (HB3.out.trans (vb.mono HB3.out.size))
        clear vb
        obtain ⟨a0, a1, a2, a3, a4, -⟩ := ha.five
        obtain ⟨b0, b1, b2, b3, b4, -⟩ := hb.five
        have hr : r = f2 := by rw [HRR.out]; rfl
        subst hr
        go_wp2_with fail
        go_ret
        exact ⟨HB4.out, rfl⟩

set_option maxRecDepth 100000 in
theorem metR_calls {w : World} {k : Nat} {n0 n1 m0 m1 : Bool} {A0 A1 B0 B1 : Option Addr} {l0 l1 j0 j1 c0 c1 d0 d1 : Nat} {x0 x1 y0 y1 : Int} (qa qb : Int) (hx0 : Q w k n0 A0 l0 c0 x0) (hx1 : Q w k n1 A1 l1 c1 x1) (hy0 : Q w k m0 B0 j0 d0 y0) (hy1 : Q w k m1 B1 j1 d1 y1) (hk : k ≤ 700) :
    Calls Tryz.prog 29 #[.agg #[.bool n0, .slice A0 l0 c0, .bool n1, .slice A1 l1 c1, .int .i64 qa], .agg #[.bool m0, .slice B0 j0 d0, .bool m1, .slice B1 j1 d1, .int .i64 qb]] w fun e w' => Below w.heap.size w w' ∧ e = .returned (.bool (metB x0 x1 qa y0 y1 qb)) := by
  obtain ⟨W0, hW, ha, hb, hB0, hs⟩ := start2 w 27 27 #[.bool n0, .slice A0 l0 c0, .bool n1, .slice A1 l1 c1, .int .i64 qa] #[.bool m0, .slice B0 j0 d0, .bool m1, .slice B1 j1 d1, .int .i64 qb]
  have HB0 := hide hB0
  clear hs hB0
  obtain ⟨ra, HRA⟩ : ∃ b, Hid (rightB x0 x1 qa = b) := ⟨_, hide rfl⟩
  obtain ⟨rb, HRB⟩ : ∃ b, Hid (rightB y0 y1 qb = b) := ⟨_, hide rfl⟩
  obtain ⟨f1, HF1⟩ : ∃ b, Hid (befB y0 qb x1 qa = b) := ⟨_, hide rfl⟩
  obtain ⟨f2, HF2⟩ : ∃ b, Hid (befB x0 qa y1 qb = b) := ⟨_, hide rfl⟩
  obtain ⟨r, HR⟩ : ∃ b, Hid (metB x0 x1 qa y0 y1 qb = b) := ⟨_, hide rfl⟩
  have HRR : Hid (r = (ra && rb && f1 && f2)) := hide (by rw [← HR.out, ← HRA.out, ← HRB.out, ← HF1.out, ← HF2.out]; rfl)
  rw [HR.out]
  have HQA : Hid (ra = true → 0 ≤ qa ∧ qa ≤ 2048) := hide (fun h => rightB_qq (HRA.out.trans h))
  have HQB : Hid (rb = true → 0 ≤ qb ∧ qb ≤ 2048) := hide (fun h => rightB_qq (HRB.out.trans h))
  obtain ⟨s1, Hs1⟩ : ∃ z, Hid (y0 * 2 ^ (2048 - qb).toNat = z) := ⟨_, hide rfl⟩
  obtain ⟨s2, Hs2⟩ : ∃ z, Hid (x1 * 2 ^ (2048 - qa).toNat = z) := ⟨_, hide rfl⟩
  obtain ⟨s3, Hs3⟩ : ∃ z, Hid (x0 * 2 ^ (2048 - qa).toNat = z) := ⟨_, hide rfl⟩
  obtain ⟨s4, Hs4⟩ : ∃ z, Hid (y1 * 2 ^ (2048 - qb).toNat = z) := ⟨_, hide rfl⟩
  obtain ⟨g1, HG1⟩ : ∃ z, Hid (cmpZ s1 s2 = z) := ⟨_, hide rfl⟩
  obtain ⟨g2, HG2⟩ : ∃ z, Hid (cmpZ s3 s4 = z) := ⟨_, hide rfl⟩
  have hd1 : decide (g1 ≤ 0) = f1 := by rw [← HG1.out, cmpZ_dec, ← HF1.out, ← Hs1.out, ← Hs2.out]; rfl
  have hd2 : decide (g2 ≤ 0) = f2 := by rw [← HG2.out, cmpZ_dec, ← HF2.out, ← Hs3.out, ← Hs4.out]; rfl
  obtain ⟨a0, a1, a2, a3, a4, -⟩ := ha.five
  obtain ⟨b0, b1, b2, b3, b4, -⟩ := hb.five
  go_enter Tryz.func29, Tryz.ntmps29
  go_upto_region 1 with (fail)
  rw [← hW]
  clear hW
  have HC := hide (rightR_calls qa (hx0.at_ HB0) (hx1.at_ HB0) (by omega) (by omega))
  rw [HRA.out] at HC
  go_wp2_with fail
  refine HC.out.mono ?_
  rintro e w1 ⟨vb, rfl⟩
  clear HC
  clear a0 a1 a2 a3 a4 b0 b1 b2 b3 b4
  have ha := ha.below vb ha.lt
  have hb := hb.below vb hb.lt
  have HB1 := hide (HB0.out.trans (vb.mono HB0.out.size))
  clear vb
  obtain ⟨a0, a1, a2, a3, a4, -⟩ := ha.five
  obtain ⟨b0, b1, b2, b3, b4, -⟩ := hb.five
  go_upto_region 2 with (fail)
  have HC := hide (rightR_calls qb (hy0.at_ HB1) (hy1.at_ HB1) (by omega) (by omega))
  rw [HRB.out] at HC
  go_wp2_with fail
  refine HC.out.mono ?_
  rintro e w2 ⟨vb, rfl⟩
  clear HC
  clear a0 a1 a2 a3 a4 b0 b1 b2 b3 b4
  have ha := ha.below vb ha.lt
  have hb := hb.below vb hb.lt
  have HB2 := hide (HB1.out.trans (vb.mono HB1.out.size))
  clear vb
  obtain ⟨a0, a1, a2, a3, a4, -⟩ := ha.five
  obtain ⟨b0, b1, b2, b3, b4, -⟩ := hb.five
  go_upto_region 3 with (fail)
  cases ra with
  | false =>
    have hr : r = false := by rw [HRR.out]; rfl
    subst hr
    go_wp2_with fail
    go_ret
    exact ⟨HB2.out, rfl⟩
  | true =>
    obtain ⟨hqa0, hqa1⟩ := HQA.out rfl
    cases rb with
    | false =>
      have hr : r = false := by rw [HRR.out]; rfl
      subst hr
      go_wp2_with fail
      go_ret
      exact ⟨HB2.out, rfl⟩
    | true =>
      obtain ⟨hqb0, hqb1⟩ := HQB.out rfl
      go_upto_region 5 with (fail)
      have HLs1 : Hid (s1.natAbs < W ^ (k + 125)) := hide (by rw [← Hs1.out]; exact z_shl_lt hy0.lt (by omega))
      have HLs2 : Hid (s2.natAbs < W ^ (k + 125)) := hide (by rw [← Hs2.out]; exact z_shl_lt hx1.lt (by omega))
      have HBd := hide HB2.out.drew
      have HE1 := hide (end_calls qb (hy0.at_ HBd) (by omega) (by omega) (by omega))
      rw [Hs1.out] at HE1
      go_region_held3 (fun w' => w'.cell? ⟨w.heap.size, 0, none⟩ = some (.bool n0) ∧ w'.cell? ⟨w.heap.size, 1, none⟩ = some (.slice A0 l0 c0) ∧ w'.cell? ⟨w.heap.size, 2, none⟩ = some (.bool n1) ∧ w'.cell? ⟨w.heap.size, 3, none⟩ = some (.slice A1 l1 c1) ∧ w'.cell? ⟨w.heap.size, 4, none⟩ = some (.int .i64 qa) ∧ w'.cell? ⟨w.heap.size + 1, 0, none⟩ = some (.bool m0) ∧ w'.cell? ⟨w.heap.size + 1, 1, none⟩ = some (.slice B0 j0 d0) ∧ w'.cell? ⟨w.heap.size + 1, 2, none⟩ = some (.bool m1) ∧ w'.cell? ⟨w.heap.size + 1, 3, none⟩ = some (.slice B1 j1 d1) ∧ w'.cell? ⟨w.heap.size + 1, 4, none⟩ = some (.int .i64 qb)) (go_keep)
        (first
          | (go_at_call 66; (with_reducible refine HE1.out.mono ?_); rintro e v51 ⟨vb, u1, t1, rfl, hu1, ht1⟩
             have ha := ha.drew.below vb ha.lt
             have hb := hb.drew.below vb hb.lt
             have HV1 := hide (HBd.out.trans (vb.mono HBd.out.size))
             obtain ⟨C1, cc1, rfl⟩ := hu1.form
             have q1 := (RetZ.qb hu1 ht1 HLs1.out).q
             have HE2 := hide (end_calls qa (hx1.at_ HV1) (by omega) (by omega) (by omega))
             rw [Hs2.out] at HE2
             obtain ⟨a0, a1, a2, a3, a4, -⟩ := ha.five
             obtain ⟨b0, b1, b2, b3, b4, -⟩ := hb.five)
          | (go_at_call 66; (with_reducible refine HE2.out.mono ?_); rintro e v52 ⟨vb, u2, t2, rfl, hu2, ht2⟩
             have ha := ha.below vb ha.lt
             have hb := hb.below vb hb.lt
             have HV2 := hide (HV1.out.trans (vb.mono HV1.out.size))
             obtain ⟨C2, cc2, rfl⟩ := hu2.form
             have q1 := q1.below vb
             have q2 := (RetZ.qb hu2 ht2 HLs2.out).q
             have HE3 := hide (d_zcmp q1 q2 (by omega) (by omega))
             rw [HG1.out] at HE3
             obtain ⟨a0, a1, a2, a3, a4, -⟩ := ha.five
             obtain ⟨b0, b1, b2, b3, b4, -⟩ := hb.five)
          | (go_at_call 64; (with_reducible refine HE3.out.mono ?_); rintro e v53 ⟨vb, rfl⟩
             have ha := ha.below vb ha.lt
             have hb := hb.below vb hb.lt
             have HB5 := hide (HV2.out.trans (vb.mono HV2.out.size))
             clear q1 q2
             obtain ⟨a0, a1, a2, a3, a4, -⟩ := ha.five
             obtain ⟨b0, b1, b2, b3, b4, -⟩ := hb.five)
        )
      go_upto_region 6 with (fail)
      have HLs3 : Hid (s3.natAbs < W ^ (k + 125)) := hide (by rw [← Hs3.out]; exact z_shl_lt hx0.lt (by omega))
      have HLs4 : Hid (s4.natAbs < W ^ (k + 125)) := hide (by rw [← Hs4.out]; exact z_shl_lt hy1.lt (by omega))
      have HBd := hide HB5.out.drew
      have HE1 := hide (end_calls qa (hx0.at_ HBd) (by omega) (by omega) (by omega))
      rw [Hs3.out] at HE1
      go_region_held3 (fun w' => w'.cell? ⟨w.heap.size, 0, none⟩ = some (.bool n0) ∧ w'.cell? ⟨w.heap.size, 1, none⟩ = some (.slice A0 l0 c0) ∧ w'.cell? ⟨w.heap.size, 2, none⟩ = some (.bool n1) ∧ w'.cell? ⟨w.heap.size, 3, none⟩ = some (.slice A1 l1 c1) ∧ w'.cell? ⟨w.heap.size, 4, none⟩ = some (.int .i64 qa) ∧ w'.cell? ⟨w.heap.size + 1, 0, none⟩ = some (.bool m0) ∧ w'.cell? ⟨w.heap.size + 1, 1, none⟩ = some (.slice B0 j0 d0) ∧ w'.cell? ⟨w.heap.size + 1, 2, none⟩ = some (.bool m1) ∧ w'.cell? ⟨w.heap.size + 1, 3, none⟩ = some (.slice B1 j1 d1) ∧ w'.cell? ⟨w.heap.size + 1, 4, none⟩ = some (.int .i64 qb)) (go_keep)
        (first
          | (go_at_call 66; (with_reducible refine HE1.out.mono ?_); rintro e v61 ⟨vb, u1, t1, rfl, hu1, ht1⟩
             have ha := ha.drew.below vb ha.lt
             have hb := hb.drew.below vb hb.lt
             have HV1 := hide (HBd.out.trans (vb.mono HBd.out.size))
             obtain ⟨C1, cc1, rfl⟩ := hu1.form
             have q1 := (RetZ.qb hu1 ht1 HLs3.out).q
             have HE2 := hide (end_calls qb (hy1.at_ HV1) (by omega) (by omega) (by omega))
             rw [Hs4.out] at HE2
             obtain ⟨a0, a1, a2, a3, a4, -⟩ := ha.five
             obtain ⟨b0, b1, b2, b3, b4, -⟩ := hb.five)
          | (go_at_call 66; (with_reducible refine HE2.out.mono ?_); rintro e v62 ⟨vb, u2, t2, rfl, hu2, ht2⟩
             have ha := ha.below vb ha.lt
             have hb := hb.below vb hb.lt
             have HV2 := hide (HV1.out.trans (vb.mono HV1.out.size))
             obtain ⟨C2, cc2, rfl⟩ := hu2.form
             have q1 := q1.below vb
             have q2 := (RetZ.qb hu2 ht2 HLs4.out).q
             have HE3 := hide (d_zcmp q1 q2 (by omega) (by omega))
             rw [HG2.out] at HE3
             obtain ⟨a0, a1, a2, a3, a4, -⟩ := ha.five
             obtain ⟨b0, b1, b2, b3, b4, -⟩ := hb.five)
          | (go_at_call 64; (with_reducible refine HE3.out.mono ?_); rintro e v63 ⟨vb, rfl⟩
             have ha := ha.below vb ha.lt
             have hb := hb.below vb hb.lt
             have HB6 := hide (HV2.out.trans (vb.mono HV2.out.size))
             clear q1 q2
             obtain ⟨a0, a1, a2, a3, a4, -⟩ := ha.five
             obtain ⟨b0, b1, b2, b3, b4, -⟩ := hb.five)
        )
      go_upto_region 7 with (fail)
      cases f1 with
      | false =>
        have hr : r = false := by rw [HRR.out]; rfl
        subst hr
        go_wp2_with fail
        go_ret
        exact ⟨HB6.out, rfl⟩
      | true =>
        have hr : r = f2 := by rw [HRR.out]; rfl
        subst hr
        go_wp2_with fail
        go_ret
        exact ⟨HB6.out, by first | rfl | rw [hd2]⟩
end Go.Proofs.YtnfbngiabdlclaaGreat

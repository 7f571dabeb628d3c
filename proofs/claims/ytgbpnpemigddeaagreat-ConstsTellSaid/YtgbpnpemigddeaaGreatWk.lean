/- hairlineref02: Of, Abs, DivMod, floor, Up. hairlineref02.Up; hairlineref05: floor, both, Add, Sub. Walks by values: each region, drawn or not, each operation once; contracts in one form. Contracts in one form: zed and hairlineref02. Shapes of structs; boxes of so many cells. A part of a region's operations, each looked at once, by facts that stand as long as no box is stored into; what is left is walked by hand, or by 'rest'. rows: the plain laws of the sums. -/
import Derived.Test.YtgbpnpemigddeaaGreatDm
import Derived.Test.YtgbpnpemigddeaaGreatDyadB
import Derived.Test.YtgbpnpemigddeaaGreatZe
import Derived.Test.YtgbpnpemigddeaaGreatBa6
import Derived.Test.YtgbpnpemigddeaaGreatFree
set_option linter.unusedVariables false
set_option linter.unusedSimpArgs false
namespace Go.Proofs.YtgbpnpemigddeaaGreat
section
section
section
open Go.RowKit
open L (val dig nth)
theorem jkf (w : World) (n : Bool) (B : Nat) (v : Value) (l : List Nat) (h : Nums w B v l) (hl : l.length ≤ 100000) :
    Calls Tryz.prog 80 #[.agg #[.bool n, v]] w fun e w' => Below w.heap.size w w' ∧ RetZ w.heap.size ((val W l : Nat) : Int) e w' := by
  have h0 := h; obtain ⟨A, cap, rfl, -, -, -, hc⟩ := h; obtain ⟨W0, hW, hbx, hrs, hB0, hs⟩ := jb7 w 25 25 (.bool n) (.slice A l.length cap) (.bool false) (.slice none 0 0); have h1 := h0.up hB0; have hs2 : w.heap.size + 1 < W0.heap.size := by omega
  clear hs hc; obtain ⟨c0, c1, -, -⟩ := hbx.two; obtain ⟨z, HZ⟩ : ∃ z, Hid (((val W l : Nat) : Int) = z) := ⟨_, hide rfl⟩; have HP := jaq W0 false B _ l h1 hl; rw [show ival false (val W l) = ((val W l : Nat) : Int) from rfl, HZ.out] at HP; rw [HZ.out]
  go_enter Tryz.func80, Tryz.ntmps80
  go_upto_region 1 with (fail)
  rw [← hW]; clear hW
  go_wp2_with fail
  refine HP.mono ?_; rintro e w1 ⟨hb1, u, d, rfl, hu, hd⟩; obtain ⟨A1, cap1, rfl⟩ := hu.form; have hrs1 := hrs.below hb1 hrs.lt; obtain ⟨g0, g1, g2, g3⟩ := hrs1.two; have s1 := hb1.size
  go_wp2_with fail
  refine bodyPost_ret (jac rfl _ _ _ _ _ _ rfl ((hrs1.set_ 0 _).set_ 1 _)) rfl ⟨below2 (hB0.trans (hb1.mono (by omega))) (by omega) _ _, ?_⟩; exact retZ2 (by omega) hs2 hu hd _ _
theorem jox {w : World} {k k' : Nat} {n m : Bool} {A A' : Option Addr} {len cap len' cap' : Nat} {z y : Int} (h : Q w k n A len cap z) (h' : Q w k' m A' len' cap' y) (hk : k ≤ 60000) (hk' : k' ≤ 60000) :
    Calls Tryz.prog 42 #[.agg #[.bool n, .slice A len cap], .agg #[.bool m, .slice A' len' cap']] w fun e w' => Below w.heap.size w w' ∧ RetZ w.heap.size (z + y) e w' := by
  obtain ⟨d, h1, h2, rfl⟩ := h; obtain ⟨d', h1', h2', rfl⟩ := h'; exact jfi w n m 0 0 _ _ d d' h1 h1' (by omega) (by omega)
theorem ju5 {w : World} {k : Nat} {n : Bool} {A : Option Addr} {len cap : Nat} {z : Int} (h : Q w k n A len cap z) (hk : k ≤ 100000) :
    Calls Tryz.prog 80 #[.agg #[.bool n, .slice A len cap]] w fun e w' => Below w.heap.size w w' ∧ RetZ w.heap.size ((z.natAbs : Nat) : Int) e w' := by
  obtain ⟨d, h1, h2, rfl⟩ := h; rw [jav]; exact jkf w n 0 _ d h1 (by omega)
theorem jew (w : World) (n : Int) (hn0 : 0 ≤ n) (hn1 : n ≤ 9223372036854775807) :
    Calls Tryz.prog 17 #[.int .i64 n] w fun e w' => Below w.heap.size w w' ∧ RetZ w.heap.size n e w' := by
  obtain ⟨W0, hW, hrs, hB0, hs⟩ := start1 w 25 #[.bool false, .slice none 0 0]; have e1 : IntKind.u64.wrap n = ((n.natAbs : Nat) : Int) := by rw [IntKind.wrap_u64]; omega
  have E2 : Hid (n = ((n.natAbs : Nat) : Int)) := hide (by omega); have hw : n.natAbs < W := by unfold W; omega
  have hs2 : w.heap.size + 1 ≤ W0.heap.size := by omega
  have hng : ¬ n < 0 := by omega
  have HNG := hide hng; clear e1 hs hng
  go_enter Tryz.func17, Tryz.ntmps17
  go_upto_region 1 with (fail)
  rw [← hW]; clear hW
  go_wp2_with fail
  refine (jaq _ false 0 _ [n.natAbs] (Nums.one W0 _ _ E2.out hw) (by simp)).mono ?_; rintro e w1 ⟨hb1, u, d, rfl, hu, hd⟩; obtain ⟨A1, cap1, rfl⟩ := hu.form; have ba : Below W0.heap.size W0 (W0.alloc (.cells #[.int .u64 n] 49)) := (Below.refl _ _).alloc (Nat.le_refl _) _; have sa := ba.size; have hrs1 := (hrs.below ba hrs.lt).below hb1 (by have := hrs.lt; omega); obtain ⟨g0, g1, g2, g3⟩ := hrs1.two; have s1 := hb1.size
  go_wp2_with fail
  refine bodyPost_ret (jac rfl _ _ _ _ _ _ rfl ((hrs1.set_ 0 _).set_ 1 _)) rfl ⟨below2 ((hB0.trans (ba.mono (by omega))).trans (hb1.mono (by omega))) (by omega) _ _, ?_⟩; have hv : ival false (val W [n.natAbs]) = n := by rw [show val W [n.natAbs] = n.natAbs by simp [L.val]]; exact E2.out.symm
  rw [hv] at hd ⊢; exact retZ2 (by omega) (by omega) hu hd _ _
theorem jh0 {w : World} {B k k' : Nat} {n m : Bool} {A A' : Option Addr} {l c l' c' : Nat} {x y : Int} (h : QB w B k n A l c x) (h' : QB w B k' m A' l' c' y) : RetZZ B x y (.returned (.tuple #[.agg #[.bool n, .slice A l c], .agg #[.bool m, .slice A' l' c'], .bool true])) w := by
  obtain ⟨d, h1, h2, h3, rfl⟩ := h; obtain ⟨d', h1', h2', h3', rfl⟩ := h'; exact ⟨_, d, _, d', rfl, h1, h3, h1', h3'⟩
set_option maxHeartbeats 4000000 in
set_option maxRecDepth 100000 in
theorem jgi (w : World) (n m : Bool) (B C : Nat) (v u : Value) (l k : List Nat) (h : Nums w B v l) (hk : Nums w C u k) {K : Nat} (hK : K ≤ 30000) (hl : l.length ≤ K) (hkl : k.length ≤ K) (h0 : val W k ≠ 0) :
    Calls Tryz.prog 40 #[.agg #[.bool n, v], .agg #[.bool m, u]] w fun e w' => Below w.heap.size w w' ∧ RetZZ w.heap.size (ival n (val W l) / ival m (val W k)) (ival n (val W l) % ival m (val W k)) e w' := by
  obtain ⟨A, cap, hv⟩ := h.form; obtain ⟨A', cap', hu⟩ := hk.form; subst hv hu; obtain ⟨W0, hW, ha, hb, hr1, hr2, hB0, hs⟩ := start4 w 25 25 25 25 #[.bool n, .slice A l.length cap] #[.bool m, .slice A' k.length cap'] #[.bool false, .slice none 0 0] #[.bool false, .slice none 0 0]; have HB := hide hB0; have hsz : w.heap.size + 4 ≤ W0.heap.size := by omega
  have h1 := h.up hB0; have k1 := hk.up hB0; clear hs hB0; obtain ⟨z, HZ⟩ : ∃ z, Hid (ival n (val W l) = z) := ⟨_, hide rfl⟩; obtain ⟨y, HY⟩ : ∃ z, Hid (ival m (val W k) = z) := ⟨_, hide rfl⟩; have hzl : z.natAbs = val W l := by rw [← HZ.out, jav]
  have hyl : y.natAbs = val W k := by rw [← HY.out, jav]
  have hy0 : y ≠ 0 := by omega
  have HLZ : Hid (z.natAbs < W ^ K) := hide (by rw [hzl]; exact Nat.lt_of_lt_of_le (L.val_lt l h.lt) (Nat.pow_le_pow_right ja6 hl)); have HLY : Hid (y.natAbs < W ^ K) := hide (by rw [hyl]; exact Nat.lt_of_lt_of_le (L.val_lt k hk.lt) (Nat.pow_le_pow_right ja6 hkl)); have HN1 := hide (jbd W0 n B _ l h1 (by omega)); rw [HZ.out] at HN1; obtain ⟨q, HQ⟩ : ∃ t, Hid (z / y = t) := ⟨_, hide rfl⟩; obtain ⟨r, HR⟩ : ∃ t, Hid (z % y = t) := ⟨_, hide rfl⟩; rw [HZ.out, HY.out, HQ.out, HR.out]; obtain ⟨a0, a1, a2, a3⟩ := ha.two
  go_enter Tryz.func40, Tryz.ntmps40
  go_upto_region 1 with (fail)
  rw [← hW]; clear hW
  go_wp2_with fail
  refine HN1.out.mono ?_; rintro e w1 ⟨vb, u1, d1, rfl, hu1, hd1⟩; obtain ⟨C1, cc1, rfl⟩ := hu1.form; clear HN1 a0 a1 a2 a3; have ha := ha.below vb ha.lt; have hb := hb.below vb hb.lt; have hr1 := hr1.below vb hr1.lt; have hr2 := hr2.below vb hr2.lt; have k2 := k1.below vb; have HB := hide (HB.out.trans (vb.mono HB.out.size)); have q1 := (RetZ.qb hu1 hd1 HLZ.out).mono hsz; have hsz := Nat.le_trans hsz vb.size; clear vb hu1 hd1; obtain ⟨a0, a1, a2, a3⟩ := ha.two; obtain ⟨b0, b1, b2, b3⟩ := hb.two; have hx2 := jhe ha (jen _ _ _ _) (.bool (decide (z < 0))) (.slice C1 d1.length cc1)
  go_upto_region 2 with (fail)
  obtain ⟨w2, hW, ha, kg, -, ks, kb⟩ := jcf ha (.bool (decide (z < 0))) (.slice C1 d1.length cc1); rw [← hW]; rw [← hW] at hx2; clear hW a0 a1 a2 a3 b0 b1 b2 b3; have hb := kg _ _ _ (by omega) hb; have hr1 := kg _ _ _ (by omega) hr1; have hr2 := kg _ _ _ (by omega) hr2; have q1 := q1.ext hx2; have k2 := k2.ext hx2; have HB := hide (kb _ _ HB.out (by omega)); have hsz := Nat.le_trans hsz (Nat.le_of_eq ks.symm); clear kg ks kb hx2; have HN2 := hide (jbd w2 m C _ k k2 (by omega)); rw [HY.out] at HN2; obtain ⟨b0, b1, b2, b3⟩ := hb.two
  go_wp2_with fail
  refine HN2.out.mono ?_; rintro e w3 ⟨vb, u2, d2, rfl, hu2, hd2⟩; obtain ⟨C2, cc2, rfl⟩ := hu2.form; clear HN2 b0 b1 b2 b3 k2; have ha := ha.below vb ha.lt; have hb := hb.below vb hb.lt; have hr1 := hr1.below vb hr1.lt; have hr2 := hr2.below vb hr2.lt; have q1 := q1.below vb; have HB := hide (HB.out.trans (vb.mono HB.out.size)); have q2 := (RetZ.qb hu2 hd2 HLY.out).mono hsz; have hsz := Nat.le_trans hsz vb.size; clear vb hu2 hd2; obtain ⟨b0, b1, b2, b3⟩ := hb.two; have hx2 := jhe hb (jen _ _ _ _) (.bool (decide (y < 0))) (.slice C2 d2.length cc2)
  go_upto_region 3 with (fail)
  obtain ⟨w4, hW, hb, kg, -, ks, kb⟩ := jcf hb (.bool (decide (y < 0))) (.slice C2 d2.length cc2); rw [← hW]; rw [← hW] at hx2; clear hW b0 b1 b2 b3; have ha := kg _ _ _ (by omega) ha; have hr1 := kg _ _ _ (by omega) hr1; have hr2 := kg _ _ _ (by omega) hr2; have q1 := q1.ext hx2; have q2 := q2.ext hx2; have HB := hide (kb _ _ HB.out (by omega)); have hsz := Nat.le_trans hsz (Nat.le_of_eq ks.symm); clear kg ks kb hx2
  -- the magnitudes
  obtain ⟨e1, g1, g2, g3, -⟩ := q1; obtain ⟨e2, f1, f2, f3, -⟩ := q2; have hv1 := g3.val; have hv2 := f3.val; have HD := hide (jhc w4 _ _ _ _ e1 e2 g1 f1 (by omega) (by omega) (by rw [hv2]; omega)); rw [hv1, hv2] at HD; obtain ⟨M, HM⟩ : ∃ t, Hid (z.natAbs / y.natAbs = t) := ⟨_, hide rfl⟩; obtain ⟨R, HRM⟩ : ∃ t, Hid (z.natAbs % y.natAbs = t) := ⟨_, hide rfl⟩; obtain ⟨q0, HQ0⟩ : ∃ t, Hid (ival (decide (z < 0) != decide (y < 0)) M = t) := ⟨_, hide rfl⟩; obtain ⟨r0, HR0⟩ : ∃ t, Hid (ival (decide (z < 0)) R = t) := ⟨_, hide rfl⟩; have HML : Hid (M < W ^ K) := hide (Nat.lt_of_le_of_lt (by rw [← HM.out]; exact Nat.div_le_self _ _) HLZ.out); have HRL : Hid (R < W ^ K) := hide (Nat.lt_of_lt_of_le (by rw [← HRM.out]; exact Nat.mod_lt _ (by omega)) (Nat.le_of_lt HLY.out)); have HLQ0 : Hid (q0.natAbs < W ^ K) := hide (by rw [← HQ0.out, jav]; exact HML.out); have HLR0 : Hid (r0.natAbs < W ^ K) := hide (by rw [← HR0.out, jav]; exact HRL.out)
  have HC1 : Hid (r0 < 0 → r0 + (y.natAbs : Int) = r ∧ (y < 0 → q0 + 1 = q) ∧ (¬ y < 0 → q0 - 1 = q)) := hide (fun hneg => by
    have hz : z < 0 := by
      rcases Int.lt_or_le z 0 with h | h
      · exact h
      · rw [← HR0.out, decide_eq_false (by omega)] at hneg
        simp [ival] at hneg
        omega
    have hR : 0 < R := by
      rw [← HR0.out] at hneg
      rcases Nat.eq_zero_or_pos R with h | h
      · rw [h] at hneg; simp [ival] at hneg
      · exact h
    have h1 := jje (decide (y < 0)) z.natAbs y.natAbs (by omega) (by rw [HRM.out]; exact hR); have hzz : ival true z.natAbs = z := by simp [ival]; omega
    rw [hzz, jas, HQ.out, HR.out, HM.out, HRM.out] at h1; have hRl : R < y.natAbs := by rw [← HRM.out]; exact Nat.mod_lt _ (by omega)
    rw [← HR0.out, ← HQ0.out, h1.1, h1.2, decide_eq_true hz]; refine ⟨by simp [ival]; omega, fun hy => ?_, fun hy => ?_⟩
    · rw [decide_eq_true hy]; simp [ival]
    · rw [decide_eq_false hy]; simp [ival]; omega)
  have HC2 : Hid (¬ r0 < 0 → q0 = q ∧ r0 = r) := hide (fun hneg => by
    have h1 := jg3 (decide (z < 0)) (decide (y < 0)) z.natAbs y.natAbs (by omega) (by
      rintro ⟨h2, h3⟩; rw [HRM.out] at h3; rw [← HR0.out, h2] at hneg; simp [ival] at hneg
      omega)
    rw [jas, jas, HQ.out, HR.out, HM.out, HRM.out] at h1; rw [← HQ0.out, ← HR0.out, h1.1, h1.2]; refine ⟨rfl, ?_⟩
    rcases Int.lt_or_le z 0 with h | h
    · rw [decide_eq_true h]
      rw [← HR0.out, decide_eq_true h] at hneg; simp [ival] at hneg ⊢
      omega
    · rw [decide_eq_false (by omega)]; rfl)
  rw [HM.out, HRM.out] at HD; have K1 := hide g1; have K2 := hide f1; have hq2 : QB w4 (w.heap.size + 4) K (decide (y < 0)) C2 d2.length cc2 y := ⟨e2, f1, f2, f3, rfl⟩; clear g1 g2 g3 f1 f2 f3 hv1 hv2; obtain ⟨a0, a1, -, -⟩ := ha.two; obtain ⟨b0, b1, -, -⟩ := hb.two
  go_wp2_with fail
  refine HD.out.mono ?_; rintro e w5 ⟨vb, u3, d3, u4, d4, rfl, hu3, hd3, hu4, hd4⟩; obtain ⟨C3, cc3, rfl⟩ := hu3.form; obtain ⟨C4, cc4, rfl⟩ := hu4.form; clear HD a0 a1 b0 b1; have ha := ha.below vb ha.lt; have hb := hb.below vb hb.lt; have hr1 := hr1.below vb hr1.lt; have hr2 := hr2.below vb hr2.lt; have hq2 := hq2.below vb; have HB := hide (HB.out.trans (vb.mono HB.out.size)); have hl3 : d3.length ≤ K := (hd3.len).2 HML.out; have hl4 : d4.length ≤ K := (hd4.len).2 HRL.out; have HV3 := hide hd3.val; have HV4 := hide hd4.val; have hsz := Nat.le_trans hsz vb.size; clear vb hd3 hd4; obtain ⟨a0, a1, -, -⟩ := ha.two; obtain ⟨b0, b1, -, -⟩ := hb.two
  go_upto_region 6 with (fail)
  have hq0' : ival (!(decide (z < 0) == decide (y < 0))) M = q0 := HQ0.out; have HK1 := hide (jaq w5 (!(decide (z < 0) == decide (y < 0))) _ _ d3 hu3 (by omega)); rw [HV3.out, hq0'] at HK1; clear hq0'
  go_wp2_with fail
  refine HK1.out.mono ?_; rintro e w6 ⟨vb, u5, d5, rfl, hu5, hd5⟩; obtain ⟨C5, cc5, rfl⟩ := hu5.form; clear HK1 a0 a1 b0 b1; have ha := ha.below vb ha.lt; have hb := hb.below vb hb.lt; have hr1 := hr1.below vb hr1.lt; have hr2 := hr2.below vb hr2.lt; have hq2 := hq2.below vb; have hu4 := hu4.below vb; have HB := hide (HB.out.trans (vb.mono HB.out.size)); have qq := (RetZ.qb hu5 hd5 HLQ0.out).mono (show w.heap.size + 4 ≤ _ from hsz); have hsz := Nat.le_trans hsz vb.size; clear vb hu5 hd5 hu3; obtain ⟨w7, hW, hx, vb, hs⟩ := start1 w6 25 #[.bool (decide (q0 < 0)), .slice C5 d5.length cc5]; have ha := ha.below vb ha.lt; have hb := hb.below vb hb.lt; have hr1 := hr1.below vb hr1.lt; have hr2 := hr2.below vb hr2.lt; have hq2 := hq2.below vb; have hu4 := hu4.below vb; have qq := qq.below vb; have hgx : w.heap.size + 4 ≤ w6.heap.size := hsz; have HB := hide (HB.out.trans (vb.mono HB.out.size)); have hsz := Nat.le_trans hsz vb.size; clear vb hs; obtain ⟨a0, a1, -, -⟩ := ha.two; obtain ⟨b0, b1, -, -⟩ := hb.two
  go_upto_region 7 with (fail)
  rw [← hW]; clear hW; have HK2 := hide (jaq w7 (decide (z < 0)) _ _ d4 hu4 (by omega)); rw [HV4.out, HR0.out] at HK2
  go_wp2_with fail
  refine HK2.out.mono ?_; rintro e w8 ⟨vb, u6, d6, rfl, hu6, hd6⟩; obtain ⟨C6, cc6, rfl⟩ := hu6.form; clear HK2 a0 a1 b0 b1; have hb := hb.below vb hb.lt; have hr1 := hr1.below vb hr1.lt; have hr2 := hr2.below vb hr2.lt; have hx := hx.below vb hx.lt; have hq2 := hq2.below vb; have qq := qq.below vb; have HB := hide (HB.out.trans (vb.mono HB.out.size)); have qr := (RetZ.qb hu6 hd6 HLR0.out).mono (show w.heap.size + 4 ≤ _ from hsz); have hxlt := hx.lt; have hsz := Nat.le_trans hsz vb.size; clear vb hu6 hd6 hu4; obtain ⟨w9, hW, hy, vb, hs⟩ := start1 w8 25 #[.bool (decide (r0 < 0)), .slice C6 d6.length cc6]; have hb := hb.below vb hb.lt; have hr1 := hr1.below vb hr1.lt; have hr2 := hr2.below vb hr2.lt; have hx := hx.below vb hx.lt; have hq2 := hq2.below vb; have qq := qq.below vb; have qr := qr.below vb; have hgy : w.heap.size + 4 ≤ w8.heap.size := hsz; have HB := hide (HB.out.trans (vb.mono HB.out.size)); have hsz := Nat.le_trans hsz vb.size; clear vb hs ha; obtain ⟨y0, y1, -, -⟩ := hy.two; have hneyx : ¬ w8.heap.size = w6.heap.size := by omega
  have hnexy : ¬ w6.heap.size = w8.heap.size := by omega
  go_upto_region 8 with (fail)
  rw [← hW]; clear hW
  by_cases hneg : r0 < 0
  · obtain ⟨m1, m2, m3⟩ := HC1.out hneg
    have HNEG : Hid (decide (r0 < 0) = true) := hide (decide_eq_true hneg); rw [HNEG.out] at hy y0 qr; have M1 := hide m1; have M2 := hide m2; have M3 := hide m3
    go_upto_region 9 with (fail)
    clear y0 y1 hneg m1 m2 m3; have HLR1 : Hid (r.natAbs < W ^ (K + 1)) := hide (by rw [← M1.out]; exact jhf HLR0.out (by rw [Int.natAbs_natCast]; exact HLY.out)); have ONE : Hid ((1 : Int).natAbs < W ^ K) := hide (Nat.lt_of_le_of_lt (show (1 : Int).natAbs ≤ y.natAbs by omega) HLY.out); refine F2.region [.o, .o, .o, .o, .so (w8.heap.size) 25 #[.bool true, .slice C6 d6.length cc6]] [Fact.eq ?ca42, Fact.eq ?ca43, Fact.int w9.heap.size K ((y.natAbs : Nat) : Int), Fact.int (w.heap.size + 4) (K + 1) r, Fact.int (w.heap.size + 4) (K + 1) r] [42, 43, 44, 45] [42, 43, 44, 45, 0] (by kernel_rfl) ?soa ?sopa (by kernel_rfl) ?sta ?fina
    case soa => exact List.forall_mem_cons.2 ⟨⟨hy, NoU.two (by intro x h; cases h) (by intro x h; cases h)⟩, fun x hx => by cases hx⟩
    case sopa => exact List.Pairwise.cons (fun y hy => by cases hy) (List.Pairwise.nil)
    case sta =>
      refine F2.Steps.consO rfl ?_ ?_
      · intro vz wz hBz hDz hTz K hK
        have hyz := hTz 4 _ _ _ _ rfl rfl (by kernel_rfl); obtain ⟨hyzc0, hyzc1, -⟩ := hyz.two; replace hK := hK.out; simp only [actv, fill, Act.put, F2.fc, List.getD_cons_zero, List.getD_cons_succ, List.foldl_cons, List.foldl_nil, List.setIfInBounds_toArray, List.set_cons_succ, List.set_cons_zero] at hK; apply Kept.mk; simp only [F2.Wp, actv, fill, List.foldl_cons, List.foldl_nil, List.setIfInBounds_toArray, List.set_cons_succ, List.set_cons_zero]; go_simp; refine hK _ wz (Below.refl _ _) (Fact.eq_mk ?_); with_reducible rfl
      refine F2.Steps.consO rfl ?_ ?_
      · intro vz wz hBz hDz hTz K hK
        have hbz := hBz.blk hb.drew (by simp [F2.olds] <;> omega); obtain ⟨hbzc0, hbzc1, -⟩ := hbz.two; replace hK := hK.out; simp only [actv, fill, Act.put, F2.fc, List.getD_cons_zero, List.getD_cons_succ, List.foldl_cons, List.foldl_nil, List.setIfInBounds_toArray, List.set_cons_succ, List.set_cons_zero] at hK; apply Kept.mk; simp only [F2.Wp, actv, fill, List.foldl_cons, List.foldl_nil, List.setIfInBounds_toArray, List.set_cons_succ, List.set_cons_zero]; go_simp; refine hK _ wz (Below.refl _ _) (Fact.eq_mk ?_); with_reducible rfl
      refine F2.Steps.consO rfl ?_ ?_
      · intro vz wz hBz hDz hTz K hK
        have E43 : vz 43 = _ := hDz 1 (by kernel_rfl) rfl; have HW := jaa hBz.ext; replace hK := hK.out; simp only [actv, fill, Act.put, F2.fc, List.getD_cons_zero, List.getD_cons_succ, List.foldl_cons, List.foldl_nil, List.setIfInBounds_toArray, List.set_cons_succ, List.set_cons_zero] at hK; apply Kept.mk; simp only [F2.Wp, actv, fill, List.foldl_cons, List.foldl_nil, List.setIfInBounds_toArray, List.set_cons_succ, List.set_cons_zero]; simp only [E43] at hK ⊢; go_simp; refine Calls.mono (ju5 (hq2.q.ext HW) (by omega)) ?_; rintro e w2z ⟨hb2, u, d, rfl, hu, hd⟩
        go_wp2_with fail
        exact hK _ w2z hb2 (intV (hu.mono (hBz.size)) hd (by rw [Int.natAbs_natCast]; exact HLY.out))
      refine F2.Steps.consO rfl ?_ ?_
      · intro vz wz hBz hDz hTz K hK
        have E42 : vz 42 = _ := hDz 0 (by kernel_rfl) rfl; obtain ⟨n44_, A44_, l44_, c44_, E44, q44⟩ : IntV _ _ _ wz (vz 44) := hDz 2 (by kernel_rfl) rfl; have HW := jaa hBz.ext; replace hK := hK.out; simp only [actv, fill, Act.put, F2.fc, List.getD_cons_zero, List.getD_cons_succ, List.foldl_cons, List.foldl_nil, List.setIfInBounds_toArray, List.set_cons_succ, List.set_cons_zero] at hK; apply Kept.mk; simp only [F2.Wp, actv, fill, List.foldl_cons, List.foldl_nil, List.setIfInBounds_toArray, List.set_cons_succ, List.set_cons_zero]; simp only [E42, E44] at hK ⊢; go_simp; refine Calls.mono (M1.out ▸ jox (qr.q.ext HW) q44.q (by omega) (by omega)) ?_; rintro e w2z ⟨hb2, u, d, rfl, hu, hd⟩
        go_wp2_with fail
        exact hK _ w2z hb2 (intV (hu.mono (Nat.le_trans (Nat.le_trans hsz hBz.size) (Nat.le_refl _))) hd HLR1.out)
      refine F2.Steps.consT rfl ?_ ?_
      · intro vz wz hBz hDz hbz K hK
        obtain ⟨zc0, zc1, zc2, zc3⟩ := hbz.two; obtain ⟨n45_, A45_, l45_, c45_, E45, q45⟩ : IntV _ _ _ wz (vz 45) := hDz 3 (by kernel_rfl) rfl; replace hK := hK.out; simp only [actv, fill, Act.put, F2.fc, List.getD_cons_zero, List.getD_cons_succ, List.foldl_cons, List.foldl_nil, List.setIfInBounds_toArray, List.set_cons_succ, List.set_cons_zero] at hK; apply Kept.mk; simp only [F2.Wp, actv, fill, List.foldl_cons, List.foldl_nil, List.setIfInBounds_toArray, List.set_cons_succ, List.set_cons_zero]; simp only [E45] at hK ⊢; go_simp; exact hK _ ((Far.set _ _ 0 _).trans (Far.set _ _ 1 _)) ⟨_, jab hbz, NoU.two (by intro x h; cases h) (by intro x h; cases h), ⟨_, _, _, _, rfl, q45⟩⟩
      exact F2.Steps.nil
    case fina =>
      intro vz wa hBz ⟨hOz, hAz, hNz, hSz⟩; have E42 : vz 42 = _ := hOz 0 (by decide) rfl; have E43 : vz 43 = _ := hOz 1 (by decide) rfl; obtain ⟨n44_, A44_, l44_, c44_, E44, q44⟩ : IntV _ _ _ wa (vz 44) := hOz 2 (by decide) rfl; obtain ⟨n45_, A45_, l45_, c45_, E45, q45⟩ : IntV _ _ _ wa (vz 45) := hOz 3 (by decide) rfl; obtain ⟨cs11, hb11, hs11⟩ := hSz 4 _ _ _ (by decide) rfl; obtain ⟨n11_, A11_, l11_, c11_, e11_, q11⟩ : IntV _ _ _ wa (.agg cs11) := hs11; injection e11_ with e11_
      subst e11_; simp only [actv, fill, List.foldl_cons, List.foldl_nil, List.setIfInBounds_toArray, List.set_cons_succ, List.set_cons_zero]; simp only [E42, E43, E44, E45]; clear hOz hAz hNz hSz; clear hy; have hE := hBz.ext; have hB9 := hBz.below (B := w.heap.size) (by omega) (fun g hg => by simp [F2.olds] at hg; omega); have HB := hide (HB.out.trans hB9); have hsz := Nat.le_trans hsz hBz.size; have hb := hBz.blk hb (by simp [F2.olds] <;> omega); have hr1 := hBz.blk hr1 (by simp [F2.olds] <;> omega); have hr2 := hBz.blk hr2 (by simp [F2.olds] <;> omega); have hx := hBz.blk hx (by simp [F2.olds] <;> omega); have qq := qq.ext hE; have hq2 := hq2.ext hE; clear hBz hE hB9; have hy := hb11; have qr := q11; clear hb11 q11; obtain ⟨b0, b1, -, -⟩ := hb.two
      by_cases hyn : y < 0
      · replace M2 := hide (M2.out hyn)
        have HYN : Hid (decide (y < 0) = true) := hide (decide_eq_true hyn); rw [HYN.out] at b0; clear hyn
        go_upto_region 11 with (fail)
        have HLQ1 : Hid (q.natAbs < W ^ (K + 1)) := hide (by rw [← M2.out]; exact jhf HLQ0.out ONE.out); refine F2.region [.o, .o, .o, .so (w6.heap.size) 25 #[.bool (decide (q0 < 0)), .slice C5 d5.length cc5]] [Fact.eq ?cb48, Fact.int 0 1 1, Fact.int (w.heap.size + 4) (K + 1) q, Fact.int (w.heap.size + 4) (K + 1) q] [48, 49, 50] [48, 49, 50, 0] (by kernel_rfl) ?sob ?sopb (by kernel_rfl) ?stb ?finb
        case sob => exact List.forall_mem_cons.2 ⟨⟨hx, NoU.two (by intro x h; cases h) (by intro x h; cases h)⟩, fun x hx => by cases hx⟩
        case sopb => exact List.Pairwise.cons (fun y hy => by cases hy) (List.Pairwise.nil)
        case stb =>
          refine F2.Steps.consO rfl ?_ ?_
          · intro vz wz hBz hDz hTz K hK
            have hxz := hTz 3 _ _ _ _ rfl rfl (by kernel_rfl); obtain ⟨hxzc0, hxzc1, -⟩ := hxz.two; replace hK := hK.out; simp only [actv, fill, Act.put, F2.fc, List.getD_cons_zero, List.getD_cons_succ, List.foldl_cons, List.foldl_nil, List.setIfInBounds_toArray, List.set_cons_succ, List.set_cons_zero] at hK; apply Kept.mk; simp only [F2.Wp, actv, fill, List.foldl_cons, List.foldl_nil, List.setIfInBounds_toArray, List.set_cons_succ, List.set_cons_zero]; go_simp; refine hK _ wz (Below.refl _ _) (Fact.eq_mk ?_); with_reducible rfl
          refine F2.Steps.consO rfl ?_ ?_
          · intro vz wz hBz hDz hTz K hK
            have HW := jaa hBz.ext; replace hK := hK.out; simp only [actv, fill, Act.put, F2.fc, List.getD_cons_zero, List.getD_cons_succ, List.foldl_cons, List.foldl_nil, List.setIfInBounds_toArray, List.set_cons_succ, List.set_cons_zero] at hK; apply Kept.mk; simp only [F2.Wp, actv, fill, List.foldl_cons, List.foldl_nil, List.setIfInBounds_toArray, List.set_cons_succ, List.set_cons_zero]; go_simp; refine Calls.mono (jew _ 1 (by omega) (by omega)) ?_; rintro e w2z ⟨hb2, u, d, rfl, hu, hd⟩
            go_wp2_with fail
            exact hK _ w2z hb2 (intV (hu.mono (Nat.zero_le _)) hd (by rw [Nat.pow_one]; unfold W; omega))
          refine F2.Steps.consO rfl ?_ ?_
          · intro vz wz hBz hDz hTz K hK
            have E48 : vz 48 = _ := hDz 0 (by kernel_rfl) rfl; obtain ⟨n49_, A49_, l49_, c49_, E49, q49⟩ : IntV _ _ _ wz (vz 49) := hDz 1 (by kernel_rfl) rfl; have HW := jaa hBz.ext; replace hK := hK.out; simp only [actv, fill, Act.put, F2.fc, List.getD_cons_zero, List.getD_cons_succ, List.foldl_cons, List.foldl_nil, List.setIfInBounds_toArray, List.set_cons_succ, List.set_cons_zero] at hK; apply Kept.mk; simp only [F2.Wp, actv, fill, List.foldl_cons, List.foldl_nil, List.setIfInBounds_toArray, List.set_cons_succ, List.set_cons_zero]; simp only [E48, E49] at hK ⊢; go_simp; refine Calls.mono (M2.out ▸ jox (qq.q.ext HW) q49.q (by omega) (by omega)) ?_; rintro e w2z ⟨hb2, u, d, rfl, hu, hd⟩
            go_wp2_with fail
            exact hK _ w2z hb2 (intV (hu.mono (Nat.le_trans hsz hBz.size)) hd HLQ1.out)
          refine F2.Steps.consT rfl ?_ ?_
          · intro vz wz hBz hDz hbz K hK
            obtain ⟨zc0, zc1, zc2, zc3⟩ := hbz.two; obtain ⟨n50_, A50_, l50_, c50_, E50, q50⟩ : IntV _ _ _ wz (vz 50) := hDz 2 (by kernel_rfl) rfl; replace hK := hK.out; simp only [actv, fill, Act.put, F2.fc, List.getD_cons_zero, List.getD_cons_succ, List.foldl_cons, List.foldl_nil, List.setIfInBounds_toArray, List.set_cons_succ, List.set_cons_zero] at hK; apply Kept.mk; simp only [F2.Wp, actv, fill, List.foldl_cons, List.foldl_nil, List.setIfInBounds_toArray, List.set_cons_succ, List.set_cons_zero]; simp only [E50] at hK ⊢; go_simp; exact hK _ ((Far.set _ _ 0 _).trans (Far.set _ _ 1 _)) ⟨_, jab hbz, NoU.two (by intro x h; cases h) (by intro x h; cases h), ⟨_, _, _, _, rfl, q50⟩⟩
          exact F2.Steps.nil
        case finb =>
          intro vz wb hBz ⟨hOz, hAz, hNz, hSz⟩; have E48 : vz 48 = _ := hOz 0 (by decide) rfl; obtain ⟨n49_, A49_, l49_, c49_, E49, q49⟩ : IntV _ _ _ wb (vz 49) := hOz 1 (by decide) rfl; obtain ⟨n50_, A50_, l50_, c50_, E50, q50⟩ : IntV _ _ _ wb (vz 50) := hOz 2 (by decide) rfl; obtain ⟨cs10, hb10, hs10⟩ := hSz 3 _ _ _ (by decide) rfl; obtain ⟨n10_, A10_, l10_, c10_, e10_, q10⟩ : IntV _ _ _ wb (.agg cs10) := hs10; injection e10_ with e10_
          subst e10_; simp only [actv, fill, List.foldl_cons, List.foldl_nil, List.setIfInBounds_toArray, List.set_cons_succ, List.set_cons_zero]; simp only [E48, E49, E50]; clear hOz hAz hNz hSz; clear hx; have hE := hBz.ext; have hB9 := hBz.below (B := w.heap.size) (by omega) (fun g hg => by simp [F2.olds] at hg; omega); have HB := hide (HB.out.trans hB9); have hsz := Nat.le_trans hsz hBz.size; have hr1 := hBz.blk hr1 (by simp [F2.olds] <;> omega); have hr2 := hBz.blk hr2 (by simp [F2.olds] <;> omega); have hy := hBz.blk hy (by simp [F2.olds] <;> omega); have qr := qr.ext hE; clear hBz hE hB9; have hx := hb10; have qq := q10
          go_upto_region 13 with (fail)
          refine F2.region [.o, .o, .so (w.heap.size + 2) 25 #[.bool false, .slice none 0 0], .so (w.heap.size + 3) 25 #[.bool false, .slice none 0 0], .o] [Fact.eq ?cd54, Fact.eq ?cd55, Fact.int (w.heap.size + 4) (K + 1) q, Fact.int (w.heap.size + 4) (K + 1) r, Fact.eq ?cd6] [54, 55, 6] [54, 55, 0, 0, 6] (by kernel_rfl) ?sod ?sopd (by kernel_rfl) ?std ?find
          case sod => exact List.forall_mem_cons.2 ⟨⟨hr1, NoU.two (by intro x h; cases h) (by intro x h; cases h)⟩, List.forall_mem_cons.2 ⟨⟨hr2, NoU.two (by intro x h; cases h) (by intro x h; cases h)⟩, fun x hx => by cases hx⟩⟩
          case sopd => exact List.Pairwise.cons (by intro y hy; simp [F2.sos] at hy; first | (subst hy; simp; done) | (subst hy; simp; omega) | (rcases hy with rfl | rfl <;> simp <;> omega)) (List.Pairwise.cons (fun y hy => by cases hy) (List.Pairwise.nil))
          case std =>
            refine F2.Steps.consO rfl ?_ ?_
            · intro vz wz hBz hDz hTz K hK
              have hxz := hBz.blk hx.drew (by simp [F2.olds] <;> omega); obtain ⟨hxzc0, hxzc1, -⟩ := hxz.two; replace hK := hK.out; simp only [actv, fill, Act.put, F2.fc, List.getD_cons_zero, List.getD_cons_succ, List.foldl_cons, List.foldl_nil, List.setIfInBounds_toArray, List.set_cons_succ, List.set_cons_zero] at hK; apply Kept.mk; simp only [F2.Wp, actv, fill, List.foldl_cons, List.foldl_nil, List.setIfInBounds_toArray, List.set_cons_succ, List.set_cons_zero]; go_simp; refine hK _ wz (Below.refl _ _) (Fact.eq_mk ?_); with_reducible rfl
            refine F2.Steps.consO rfl ?_ ?_
            · intro vz wz hBz hDz hTz K hK
              have hyz := hBz.blk hy.drew (by simp [F2.olds] <;> omega); obtain ⟨hyzc0, hyzc1, -⟩ := hyz.two; replace hK := hK.out; simp only [actv, fill, Act.put, F2.fc, List.getD_cons_zero, List.getD_cons_succ, List.foldl_cons, List.foldl_nil, List.setIfInBounds_toArray, List.set_cons_succ, List.set_cons_zero] at hK; apply Kept.mk; simp only [F2.Wp, actv, fill, List.foldl_cons, List.foldl_nil, List.setIfInBounds_toArray, List.set_cons_succ, List.set_cons_zero]; go_simp; refine hK _ wz (Below.refl _ _) (Fact.eq_mk ?_); with_reducible rfl
            refine F2.Steps.consT rfl ?_ ?_
            · intro vz wz hBz hDz hbz K hK
              obtain ⟨zc0, zc1, zc2, zc3⟩ := hbz.two; have E54 : vz 54 = _ := hDz 0 (by kernel_rfl) rfl; replace hK := hK.out; simp only [actv, fill, Act.put, F2.fc, List.getD_cons_zero, List.getD_cons_succ, List.foldl_cons, List.foldl_nil, List.setIfInBounds_toArray, List.set_cons_succ, List.set_cons_zero] at hK; apply Kept.mk; simp only [F2.Wp, actv, fill, List.foldl_cons, List.foldl_nil, List.setIfInBounds_toArray, List.set_cons_succ, List.set_cons_zero]; simp only [E54] at hK ⊢; go_simp; exact hK _ ((Far.set _ _ 0 _).trans (Far.set _ _ 1 _)) ⟨_, jab hbz, NoU.two (by intro x h; cases h) (by intro x h; cases h), ⟨_, _, _, _, rfl, qq.ext (jaa hBz.ext)⟩⟩
            refine F2.Steps.consT rfl ?_ ?_
            · intro vz wz hBz hDz hbz K hK
              obtain ⟨zc0, zc1, zc2, zc3⟩ := hbz.two; have E55 : vz 55 = _ := hDz 1 (by kernel_rfl) rfl; replace hK := hK.out; simp only [actv, fill, Act.put, F2.fc, List.getD_cons_zero, List.getD_cons_succ, List.foldl_cons, List.foldl_nil, List.setIfInBounds_toArray, List.set_cons_succ, List.set_cons_zero] at hK; apply Kept.mk; simp only [F2.Wp, actv, fill, List.foldl_cons, List.foldl_nil, List.setIfInBounds_toArray, List.set_cons_succ, List.set_cons_zero]; simp only [E55] at hK ⊢; go_simp; exact hK _ ((Far.set _ _ 0 _).trans (Far.set _ _ 1 _)) ⟨_, jab hbz, NoU.two (by intro x h; cases h) (by intro x h; cases h), ⟨_, _, _, _, rfl, qr.ext (jaa hBz.ext)⟩⟩
            refine F2.Steps.consO rfl ?_ ?_
            · intro vz wz hBz hDz hTz K hK
              replace hK := hK.out; simp only [actv, fill, Act.put, F2.fc, List.getD_cons_zero, List.getD_cons_succ, List.foldl_cons, List.foldl_nil, List.setIfInBounds_toArray, List.set_cons_succ, List.set_cons_zero] at hK; apply Kept.mk; simp only [F2.Wp, actv, fill, List.foldl_cons, List.foldl_nil, List.setIfInBounds_toArray, List.set_cons_succ, List.set_cons_zero]; go_simp; refine hK _ wz (Below.refl _ _) (Fact.eq_mk ?_); with_reducible rfl
            exact F2.Steps.nil
          case find =>
            intro vz wf hBz ⟨hOz, hAz, hNz, hSz⟩; have E54 : vz 54 = _ := hOz 0 (by decide) rfl; have E55 : vz 55 = _ := hOz 1 (by decide) rfl; obtain ⟨cs4, hb4, hs4⟩ := hSz 2 _ _ _ (by decide) rfl; obtain ⟨n4_, A4_, l4_, c4_, e4_, q4⟩ : IntV _ _ _ wf (.agg cs4) := hs4; injection e4_ with e4_
            subst e4_; obtain ⟨cs5, hb5, hs5⟩ := hSz 3 _ _ _ (by decide) rfl; obtain ⟨n5_, A5_, l5_, c5_, e5_, q5⟩ : IntV _ _ _ wf (.agg cs5) := hs5; injection e5_ with e5_
            subst e5_; have E6 : vz 6 = _ := hOz 4 (by decide) rfl; simp only [actv, fill, List.foldl_cons, List.foldl_nil, List.setIfInBounds_toArray, List.set_cons_succ, List.set_cons_zero]; simp only [E54, E55, E6]; clear hOz hAz hNz hSz; have hB9 := hBz.below (B := w.heap.size) (by omega) (fun g hg => by simp [F2.olds] at hg; omega); have HB := hide (HB.out.trans hB9); clear hB9 hBz hx hy hr1 hr2 qq qr
            go_wp2_with fail
            exact bodyPost_ret (jad rfl _ _ _ _ _ _ _ _ _ _ rfl hb4 rfl hb5) rfl ⟨HB.out, jh0 (q4.mono (by omega)) (q5.mono (by omega))⟩
      · replace M2 := hide (M3.out (by omega))
        have HYN : Hid (decide (y < 0) = false) := hide (decide_eq_false hyn); rw [HYN.out] at b0; clear hyn
        go_upto_region 12 with (fail)
        have HLQ1 : Hid (q.natAbs < W ^ (K + 1)) := hide (by rw [← M2.out]; exact jnf HLQ0.out ONE.out); refine F2.region [.o, .o, .o, .so (w6.heap.size) 25 #[.bool (decide (q0 < 0)), .slice C5 d5.length cc5]] [Fact.eq ?cc51, Fact.int 0 1 1, Fact.int (w.heap.size + 4) (K + 1) q, Fact.int (w.heap.size + 4) (K + 1) q] [51, 52, 53] [51, 52, 53, 0] (by kernel_rfl) ?soc ?sopc (by kernel_rfl) ?stc ?finc
        case soc => exact List.forall_mem_cons.2 ⟨⟨hx, NoU.two (by intro x h; cases h) (by intro x h; cases h)⟩, fun x hx => by cases hx⟩
        case sopc => exact List.Pairwise.cons (fun y hy => by cases hy) (List.Pairwise.nil)
        case stc =>
          refine F2.Steps.consO rfl ?_ ?_
          · intro vz wz hBz hDz hTz K hK
            have hxz := hTz 3 _ _ _ _ rfl rfl (by kernel_rfl); obtain ⟨hxzc0, hxzc1, -⟩ := hxz.two; replace hK := hK.out; simp only [actv, fill, Act.put, F2.fc, List.getD_cons_zero, List.getD_cons_succ, List.foldl_cons, List.foldl_nil, List.setIfInBounds_toArray, List.set_cons_succ, List.set_cons_zero] at hK; apply Kept.mk; simp only [F2.Wp, actv, fill, List.foldl_cons, List.foldl_nil, List.setIfInBounds_toArray, List.set_cons_succ, List.set_cons_zero]; go_simp; refine hK _ wz (Below.refl _ _) (Fact.eq_mk ?_); with_reducible rfl
          refine F2.Steps.consO rfl ?_ ?_
          · intro vz wz hBz hDz hTz K hK
            have HW := jaa hBz.ext; replace hK := hK.out; simp only [actv, fill, Act.put, F2.fc, List.getD_cons_zero, List.getD_cons_succ, List.foldl_cons, List.foldl_nil, List.setIfInBounds_toArray, List.set_cons_succ, List.set_cons_zero] at hK; apply Kept.mk; simp only [F2.Wp, actv, fill, List.foldl_cons, List.foldl_nil, List.setIfInBounds_toArray, List.set_cons_succ, List.set_cons_zero]; go_simp; refine Calls.mono (jew _ 1 (by omega) (by omega)) ?_; rintro e w2z ⟨hb2, u, d, rfl, hu, hd⟩
            go_wp2_with fail
            exact hK _ w2z hb2 (intV (hu.mono (Nat.zero_le _)) hd (by rw [Nat.pow_one]; unfold W; omega))
          refine F2.Steps.consO rfl ?_ ?_
          · intro vz wz hBz hDz hTz K hK
            have E51 : vz 51 = _ := hDz 0 (by kernel_rfl) rfl; obtain ⟨n52_, A52_, l52_, c52_, E52, q52⟩ : IntV _ _ _ wz (vz 52) := hDz 1 (by kernel_rfl) rfl; have HW := jaa hBz.ext; replace hK := hK.out; simp only [actv, fill, Act.put, F2.fc, List.getD_cons_zero, List.getD_cons_succ, List.foldl_cons, List.foldl_nil, List.setIfInBounds_toArray, List.set_cons_succ, List.set_cons_zero] at hK; apply Kept.mk; simp only [F2.Wp, actv, fill, List.foldl_cons, List.foldl_nil, List.setIfInBounds_toArray, List.set_cons_succ, List.set_cons_zero]; simp only [E51, E52] at hK ⊢; go_simp; refine Calls.mono (M2.out ▸ jmz (qq.q.ext HW) q52.q (by omega) (by omega)) ?_; rintro e w2z ⟨hb2, u, d, rfl, hu, hd⟩
            go_wp2_with fail
            exact hK _ w2z hb2 (intV (hu.mono (Nat.le_trans hsz hBz.size)) hd HLQ1.out)
          refine F2.Steps.consT rfl ?_ ?_
          · intro vz wz hBz hDz hbz K hK
            obtain ⟨zc0, zc1, zc2, zc3⟩ := hbz.two; obtain ⟨n53_, A53_, l53_, c53_, E53, q53⟩ : IntV _ _ _ wz (vz 53) := hDz 2 (by kernel_rfl) rfl; replace hK := hK.out; simp only [actv, fill, Act.put, F2.fc, List.getD_cons_zero, List.getD_cons_succ, List.foldl_cons, List.foldl_nil, List.setIfInBounds_toArray, List.set_cons_succ, List.set_cons_zero] at hK; apply Kept.mk; simp only [F2.Wp, actv, fill, List.foldl_cons, List.foldl_nil, List.setIfInBounds_toArray, List.set_cons_succ, List.set_cons_zero]; simp only [E53] at hK ⊢; go_simp; exact hK _ ((Far.set _ _ 0 _).trans (Far.set _ _ 1 _)) ⟨_, jab hbz, NoU.two (by intro x h; cases h) (by intro x h; cases h), ⟨_, _, _, _, rfl, q53⟩⟩
          exact F2.Steps.nil
        case finc =>
          intro vz wb hBz ⟨hOz, hAz, hNz, hSz⟩; have E51 : vz 51 = _ := hOz 0 (by decide) rfl; obtain ⟨n52_, A52_, l52_, c52_, E52, q52⟩ : IntV _ _ _ wb (vz 52) := hOz 1 (by decide) rfl; obtain ⟨n53_, A53_, l53_, c53_, E53, q53⟩ : IntV _ _ _ wb (vz 53) := hOz 2 (by decide) rfl; obtain ⟨cs10, hb10, hs10⟩ := hSz 3 _ _ _ (by decide) rfl; obtain ⟨n10_, A10_, l10_, c10_, e10_, q10⟩ : IntV _ _ _ wb (.agg cs10) := hs10; injection e10_ with e10_
          subst e10_; simp only [actv, fill, List.foldl_cons, List.foldl_nil, List.setIfInBounds_toArray, List.set_cons_succ, List.set_cons_zero]; simp only [E51, E52, E53]; clear hOz hAz hNz hSz; clear hx; have hE := hBz.ext; have hB9 := hBz.below (B := w.heap.size) (by omega) (fun g hg => by simp [F2.olds] at hg; omega); have HB := hide (HB.out.trans hB9); have hsz := Nat.le_trans hsz hBz.size; have hr1 := hBz.blk hr1 (by simp [F2.olds] <;> omega); have hr2 := hBz.blk hr2 (by simp [F2.olds] <;> omega); have hy := hBz.blk hy (by simp [F2.olds] <;> omega); have qr := qr.ext hE; clear hBz hE hB9; have hx := hb10; have qq := q10
          go_upto_region 13 with (fail)
          refine F2.region [.o, .o, .so (w.heap.size + 2) 25 #[.bool false, .slice none 0 0], .so (w.heap.size + 3) 25 #[.bool false, .slice none 0 0], .o] [Fact.eq ?ce54, Fact.eq ?ce55, Fact.int (w.heap.size + 4) (K + 1) q, Fact.int (w.heap.size + 4) (K + 1) r, Fact.eq ?ce6] [54, 55, 6] [54, 55, 0, 0, 6] (by kernel_rfl) ?soe ?sope (by kernel_rfl) ?ste ?fine
          case soe => exact List.forall_mem_cons.2 ⟨⟨hr1, NoU.two (by intro x h; cases h) (by intro x h; cases h)⟩, List.forall_mem_cons.2 ⟨⟨hr2, NoU.two (by intro x h; cases h) (by intro x h; cases h)⟩, fun x hx => by cases hx⟩⟩
          case sope => exact List.Pairwise.cons (by intro y hy; simp [F2.sos] at hy; first | (subst hy; simp; done) | (subst hy; simp; omega) | (rcases hy with rfl | rfl <;> simp <;> omega)) (List.Pairwise.cons (fun y hy => by cases hy) (List.Pairwise.nil))
          case ste =>
            refine F2.Steps.consO rfl ?_ ?_
            · intro vz wz hBz hDz hTz K hK
              have hxz := hBz.blk hx.drew (by simp [F2.olds] <;> omega); obtain ⟨hxzc0, hxzc1, -⟩ := hxz.two; replace hK := hK.out; simp only [actv, fill, Act.put, F2.fc, List.getD_cons_zero, List.getD_cons_succ, List.foldl_cons, List.foldl_nil, List.setIfInBounds_toArray, List.set_cons_succ, List.set_cons_zero] at hK; apply Kept.mk; simp only [F2.Wp, actv, fill, List.foldl_cons, List.foldl_nil, List.setIfInBounds_toArray, List.set_cons_succ, List.set_cons_zero]; go_simp; refine hK _ wz (Below.refl _ _) (Fact.eq_mk ?_); with_reducible rfl
            refine F2.Steps.consO rfl ?_ ?_
            · intro vz wz hBz hDz hTz K hK
              have hyz := hBz.blk hy.drew (by simp [F2.olds] <;> omega); obtain ⟨hyzc0, hyzc1, -⟩ := hyz.two; replace hK := hK.out; simp only [actv, fill, Act.put, F2.fc, List.getD_cons_zero, List.getD_cons_succ, List.foldl_cons, List.foldl_nil, List.setIfInBounds_toArray, List.set_cons_succ, List.set_cons_zero] at hK; apply Kept.mk; simp only [F2.Wp, actv, fill, List.foldl_cons, List.foldl_nil, List.setIfInBounds_toArray, List.set_cons_succ, List.set_cons_zero]; go_simp; refine hK _ wz (Below.refl _ _) (Fact.eq_mk ?_); with_reducible rfl
            refine F2.Steps.consT rfl ?_ ?_
            · intro vz wz hBz hDz hbz K hK
              obtain ⟨zc0, zc1, zc2, zc3⟩ := hbz.two; have E54 : vz 54 = _ := hDz 0 (by kernel_rfl) rfl; replace hK := hK.out; simp only [actv, fill, Act.put, F2.fc, List.getD_cons_zero, List.getD_cons_succ, List.foldl_cons, List.foldl_nil, List.setIfInBounds_toArray, List.set_cons_succ, List.set_cons_zero] at hK; apply Kept.mk; simp only [F2.Wp, actv, fill, List.foldl_cons, List.foldl_nil, List.setIfInBounds_toArray, List.set_cons_succ, List.set_cons_zero]; simp only [E54] at hK ⊢; go_simp; exact hK _ ((Far.set _ _ 0 _).trans (Far.set _ _ 1 _)) ⟨_, jab hbz, NoU.two (by intro x h; cases h) (by intro x h; cases h), ⟨_, _, _, _, rfl, qq.ext (jaa hBz.ext)⟩⟩
            refine F2.Steps.consT rfl ?_ ?_
            · intro vz wz hBz hDz hbz K hK
              obtain ⟨zc0, zc1, zc2, zc3⟩ := hbz.two; have E55 : vz 55 = _ := hDz 1 (by kernel_rfl) rfl; replace hK := hK.out; simp only [actv, fill, Act.put, F2.fc, List.getD_cons_zero, List.getD_cons_succ, List.foldl_cons, List.foldl_nil, List.setIfInBounds_toArray, List.set_cons_succ, List.set_cons_zero] at hK; apply Kept.mk; simp only [F2.Wp, actv, fill, List.foldl_cons, List.foldl_nil, List.setIfInBounds_toArray, List.set_cons_succ, List.set_cons_zero]; simp only [E55] at hK ⊢; go_simp; exact hK _ ((Far.set _ _ 0 _).trans (Far.set _ _ 1 _)) ⟨_, jab hbz, NoU.two (by intro x h; cases h) (by intro x h; cases h), ⟨_, _, _, _, rfl, qr.ext (jaa hBz.ext)⟩⟩
            refine F2.Steps.consO rfl ?_ ?_
            · intro vz wz hBz hDz hTz K hK
              replace hK := hK.out; simp only [actv, fill, Act.put, F2.fc, List.getD_cons_zero, List.getD_cons_succ, List.foldl_cons, List.foldl_nil, List.setIfInBounds_toArray, List.set_cons_succ, List.set_cons_zero] at hK; apply Kept.mk; simp only [F2.Wp, actv, fill, List.foldl_cons, List.foldl_nil, List.setIfInBounds_toArray, List.set_cons_succ, List.set_cons_zero]; go_simp; refine hK _ wz (Below.refl _ _) (Fact.eq_mk ?_); with_reducible rfl
            exact F2.Steps.nil
          case fine =>
            intro vz wf hBz ⟨hOz, hAz, hNz, hSz⟩; have E54 : vz 54 = _ := hOz 0 (by decide) rfl; have E55 : vz 55 = _ := hOz 1 (by decide) rfl; obtain ⟨cs4, hb4, hs4⟩ := hSz 2 _ _ _ (by decide) rfl; obtain ⟨n4_, A4_, l4_, c4_, e4_, q4⟩ : IntV _ _ _ wf (.agg cs4) := hs4; injection e4_ with e4_
            subst e4_; obtain ⟨cs5, hb5, hs5⟩ := hSz 3 _ _ _ (by decide) rfl; obtain ⟨n5_, A5_, l5_, c5_, e5_, q5⟩ : IntV _ _ _ wf (.agg cs5) := hs5; injection e5_ with e5_
            subst e5_; have E6 : vz 6 = _ := hOz 4 (by decide) rfl; simp only [actv, fill, List.foldl_cons, List.foldl_nil, List.setIfInBounds_toArray, List.set_cons_succ, List.set_cons_zero]; simp only [E54, E55, E6]; clear hOz hAz hNz hSz; have hB9 := hBz.below (B := w.heap.size) (by omega) (fun g hg => by simp [F2.olds] at hg; omega); have HB := hide (HB.out.trans hB9); clear hB9 hBz hx hy hr1 hr2 qq qr
            go_wp2_with fail
            exact bodyPost_ret (jad rfl _ _ _ _ _ _ _ _ _ _ rfl hb4 rfl hb5) rfl ⟨HB.out, jh0 (q4.mono (by omega)) (q5.mono (by omega))⟩
  · obtain ⟨m1, m2⟩ := HC2.out (by omega)
    rw [m1] at qq hx; rw [m2] at qr hy y0 hneg; have HNEG : Hid (decide (r < 0) = false) := hide (decide_eq_false hneg); rw [HNEG.out] at y0; have M1 := hide m1; have M2 := hide m2; clear m1 m2 hneg
    go_upto_region 13 with (fail)
    refine F2.region [.o, .o, .so (w.heap.size + 2) 25 #[.bool false, .slice none 0 0], .so (w.heap.size + 3) 25 #[.bool false, .slice none 0 0], .o] [Fact.eq ?cg54, Fact.eq ?cg55, Fact.int (w.heap.size + 4) K q, Fact.int (w.heap.size + 4) K r, Fact.eq ?cg6] [54, 55, 6] [54, 55, 0, 0, 6] (by kernel_rfl) ?sog ?sopg (by kernel_rfl) ?stg ?fing
    case sog => exact List.forall_mem_cons.2 ⟨⟨hr1, NoU.two (by intro x h; cases h) (by intro x h; cases h)⟩, List.forall_mem_cons.2 ⟨⟨hr2, NoU.two (by intro x h; cases h) (by intro x h; cases h)⟩, fun x hx => by cases hx⟩⟩
    case sopg => exact List.Pairwise.cons (by intro y hy; simp [F2.sos] at hy; first | (subst hy; simp; done) | (subst hy; simp; omega) | (rcases hy with rfl | rfl <;> simp <;> omega)) (List.Pairwise.cons (fun y hy => by cases hy) (List.Pairwise.nil))
    case stg =>
      refine F2.Steps.consO rfl ?_ ?_
      · intro vz wz hBz hDz hTz K hK
        have hxz := hBz.blk hx.drew (by simp [F2.olds] <;> omega); obtain ⟨hxzc0, hxzc1, -⟩ := hxz.two; replace hK := hK.out; simp only [actv, fill, Act.put, F2.fc, List.getD_cons_zero, List.getD_cons_succ, List.foldl_cons, List.foldl_nil, List.setIfInBounds_toArray, List.set_cons_succ, List.set_cons_zero] at hK; apply Kept.mk; simp only [F2.Wp, actv, fill, List.foldl_cons, List.foldl_nil, List.setIfInBounds_toArray, List.set_cons_succ, List.set_cons_zero]; go_simp; refine hK _ wz (Below.refl _ _) (Fact.eq_mk ?_); with_reducible rfl
      refine F2.Steps.consO rfl ?_ ?_
      · intro vz wz hBz hDz hTz K hK
        have hyz := hBz.blk hy.drew (by simp [F2.olds] <;> omega); obtain ⟨hyzc0, hyzc1, -⟩ := hyz.two; replace hK := hK.out; simp only [actv, fill, Act.put, F2.fc, List.getD_cons_zero, List.getD_cons_succ, List.foldl_cons, List.foldl_nil, List.setIfInBounds_toArray, List.set_cons_succ, List.set_cons_zero] at hK; apply Kept.mk; simp only [F2.Wp, actv, fill, List.foldl_cons, List.foldl_nil, List.setIfInBounds_toArray, List.set_cons_succ, List.set_cons_zero]; go_simp; refine hK _ wz (Below.refl _ _) (Fact.eq_mk ?_); with_reducible rfl
      refine F2.Steps.consT rfl ?_ ?_
      · intro vz wz hBz hDz hbz K hK
        obtain ⟨zc0, zc1, zc2, zc3⟩ := hbz.two; have E54 : vz 54 = _ := hDz 0 (by kernel_rfl) rfl; replace hK := hK.out; simp only [actv, fill, Act.put, F2.fc, List.getD_cons_zero, List.getD_cons_succ, List.foldl_cons, List.foldl_nil, List.setIfInBounds_toArray, List.set_cons_succ, List.set_cons_zero] at hK; apply Kept.mk; simp only [F2.Wp, actv, fill, List.foldl_cons, List.foldl_nil, List.setIfInBounds_toArray, List.set_cons_succ, List.set_cons_zero]; simp only [E54] at hK ⊢; go_simp; exact hK _ ((Far.set _ _ 0 _).trans (Far.set _ _ 1 _)) ⟨_, jab hbz, NoU.two (by intro x h; cases h) (by intro x h; cases h), ⟨_, _, _, _, rfl, qq.ext (jaa hBz.ext)⟩⟩
      refine F2.Steps.consT rfl ?_ ?_
      · intro vz wz hBz hDz hbz K hK
        obtain ⟨zc0, zc1, zc2, zc3⟩ := hbz.two; have E55 : vz 55 = _ := hDz 1 (by kernel_rfl) rfl; replace hK := hK.out; simp only [actv, fill, Act.put, F2.fc, List.getD_cons_zero, List.getD_cons_succ, List.foldl_cons, List.foldl_nil, List.setIfInBounds_toArray, List.set_cons_succ, List.set_cons_zero] at hK; apply Kept.mk; simp only [F2.Wp, actv, fill, List.foldl_cons, List.foldl_nil, List.setIfInBounds_toArray, List.set_cons_succ, List.set_cons_zero]; simp only [E55] at hK ⊢; go_simp; exact hK _ ((Far.set _ _ 0 _).trans (Far.set _ _ 1 _)) ⟨_, jab hbz, NoU.two (by intro x h; cases h) (by intro x h; cases h), ⟨_, _, _, _, rfl, qr.ext (jaa hBz.ext)⟩⟩
      refine F2.Steps.consO rfl ?_ ?_
      · intro vz wz hBz hDz hTz K hK
        replace hK := hK.out; simp only [actv, fill, Act.put, F2.fc, List.getD_cons_zero, List.getD_cons_succ, List.foldl_cons, List.foldl_nil, List.setIfInBounds_toArray, List.set_cons_succ, List.set_cons_zero] at hK; apply Kept.mk; simp only [F2.Wp, actv, fill, List.foldl_cons, List.foldl_nil, List.setIfInBounds_toArray, List.set_cons_succ, List.set_cons_zero]; go_simp; refine hK _ wz (Below.refl _ _) (Fact.eq_mk ?_); with_reducible rfl
      exact F2.Steps.nil
    case fing =>
      intro vz wf hBz ⟨hOz, hAz, hNz, hSz⟩; have E54 : vz 54 = _ := hOz 0 (by decide) rfl; have E55 : vz 55 = _ := hOz 1 (by decide) rfl; obtain ⟨cs4, hb4, hs4⟩ := hSz 2 _ _ _ (by decide) rfl; obtain ⟨n4_, A4_, l4_, c4_, e4_, q4⟩ : IntV _ _ _ wf (.agg cs4) := hs4; injection e4_ with e4_
      subst e4_; obtain ⟨cs5, hb5, hs5⟩ := hSz 3 _ _ _ (by decide) rfl; obtain ⟨n5_, A5_, l5_, c5_, e5_, q5⟩ : IntV _ _ _ wf (.agg cs5) := hs5; injection e5_ with e5_
      subst e5_; have E6 : vz 6 = _ := hOz 4 (by decide) rfl; simp only [actv, fill, List.foldl_cons, List.foldl_nil, List.setIfInBounds_toArray, List.set_cons_succ, List.set_cons_zero]; simp only [E54, E55, E6]; clear hOz hAz hNz hSz; have hB9 := hBz.below (B := w.heap.size) (by omega) (fun g hg => by simp [F2.olds] at hg; omega); have HB := hide (HB.out.trans hB9); clear hB9 hBz hx hy hr1 hr2 qq qr
      go_wp2_with fail
      exact bodyPost_ret (jad rfl _ _ _ _ _ _ _ _ _ _ rfl hb4 rfl hb5) rfl ⟨HB.out, jh0 (q4.mono (by omega)) (q5.mono (by omega))⟩
theorem QB.low2' {w W2 : World} {B k : Nat} {n : Bool} {A : Option Addr} {len cap : Nat} {z : Int} (h : QB w B k n A len cap z) {r : Nat} {x y : Value} (hW : W2 = (w.setCell ⟨r, 0, none⟩ x).setCell ⟨r, 1, none⟩ y) (hr : r < B) : QB W2 B k n A len cap z := by
  rw [hW]; exact h.low2 hr x y
theorem joy {w : World} {B k : Nat} {n : Bool} {A : Option Addr} {len cap : Nat} {z : Int} (h : QB w B k n A len cap z) : RetZ B z (.returned (.agg #[.bool n, .slice A len cap])) w := by
  obtain ⟨d, h1, h2, h3, rfl⟩ := h; exact ⟨_, d, rfl, h1, h3⟩
theorem jgc {w : World} {k k' : Nat} {n m : Bool} {A A' : Option Addr} {len cap len' cap' : Nat} {z y : Int} (h : Q w k n A len cap z) (h' : Q w k' m A' len' cap' y) (hk : k ≤ 30000) (hk' : k' ≤ 30000) (hy : y ≠ 0) :
    Calls Tryz.prog 40 #[.agg #[.bool n, .slice A len cap], .agg #[.bool m, .slice A' len' cap']] w fun e w' => Below w.heap.size w w' ∧ RetZZ w.heap.size (z / y) (z % y) e w' := by
  obtain ⟨d, h1, h2, rfl⟩ := h; obtain ⟨d', h1', h2', rfl⟩ := h'; exact jgi w n m 0 0 _ _ d d' h1 h1' (K := max k k') (by omega) (by omega) (by omega) (fun h0 => hy (by rw [h0]; cases m <;> rfl))
set_option maxHeartbeats 2000000 in
set_option maxRecDepth 100000 in
theorem jja {w : World} {k k' : Nat} {n m : Bool} {A A' : Option Addr} {len cap len' cap' : Nat} {z y : Int} (h : Q w k n A len cap z) (h' : Q w k' m A' len' cap' y) (hk : k ≤ 30000) (hk' : k' ≤ 30000) (hy : y ≠ 0) :
    Calls Tryz.prog 113 #[.agg #[.bool n, .slice A len cap], .agg #[.bool m, .slice A' len' cap']] w fun e w' => Below w.heap.size w w' ∧ RetZ w.heap.size (vDown z y) e w' := by
  obtain ⟨W0, hW, ha, hb, hr, hB0, hs⟩ := start3 w 25 25 25 #[.bool n, .slice A len cap] #[.bool m, .slice A' len' cap'] #[.bool false, .slice none 0 0]; have HB := hide hB0; have hsz : w.heap.size + 3 ≤ W0.heap.size := by omega
  clear hB0 hs; have HSG := hide (jkm (h'.at_ HB) (by omega)); obtain ⟨b0, b1, -, -⟩ := hb.two; obtain ⟨sg, HS⟩ : ∃ s, Hid (y.sign = s) := ⟨_, hide rfl⟩; rw [HS.out] at HSG; obtain ⟨v, HV⟩ : ∃ v, Hid (vDown z y = v) := ⟨_, hide rfl⟩; have HL : Hid (v.natAbs < W ^ k) := hide (by rw [← HV.out]; exact jd3 hy h.lt); rw [HV.out]
  have hneg : decide (sg < 0) = decide (y < 0) := by
    rw [← HS.out]; exact decide_eq_decide.2 ⟨fun h => jfd h, fun h => jfc h⟩
  have HNEG := hide hneg; clear hneg; have HY0 := hide hy; clear hy
  go_enter Tryz.func113, Tryz.ntmps113
  go_upto_region 1 with (fail)
  rw [← hW]; clear hW
  go_wp2_with fail
  refine HSG.out.mono ?_; rintro e w1 ⟨vb, rfl⟩; clear HSG b0 b1; have ha := ha.below vb ha.lt; have hb := hb.below vb hb.lt; have hr := hr.below vb hr.lt; have HB := hide (HB.out.trans (vb.mono HB.out.size)); have hsz := Nat.le_trans hsz vb.size; clear vb
  by_cases hyn : y < 0
  · have HD1 : Hid (decide (sg < 0) = true) := hide (by rw [HNEG.out]; exact decide_eq_true hyn)
    have hd1 := HD1.out; obtain ⟨a0, a1, a2, a3⟩ := ha.two; have HN1 := hide (jh5 (h.at_ HB) (by omega)); obtain ⟨z', HZ'⟩ : ∃ t, Hid (-z = t) := ⟨_, hide rfl⟩; obtain ⟨y', HY'⟩ : ∃ t, Hid (-y = t) := ⟨_, hide rfl⟩; have HZL : Hid (z'.natAbs < W ^ k) := hide (by rw [← HZ'.out, Int.natAbs_neg]; exact h.lt); have HYL : Hid (y'.natAbs < W ^ k') := hide (by rw [← HY'.out, Int.natAbs_neg]; exact h'.lt); have HVV : Hid (z' / y' = v) := hide (by rw [← HZ'.out, ← HY'.out, ← HV.out]; unfold vDown; rw [if_pos hyn]); have HY1 : Hid (y' ≠ 0) := hide (by have := HY0.out; have := HY'.out; omega); rw [HZ'.out] at HN1; clear hyn
    go_upto_region 2 with (fail)
    go_wp2_with fail
    refine HN1.out.mono ?_; rintro e w2 ⟨vb, u1, d1, rfl, hu1, hd1'⟩; obtain ⟨C1, cc1, rfl⟩ := hu1.form; clear HN1 a0 a1 a2 a3; have ha := ha.below vb ha.lt; have hb := hb.below vb hb.lt; have hr := hr.below vb hr.lt; have HB := hide (HB.out.trans (vb.mono HB.out.size)); have q1 := (RetZ.qb hu1 hd1' HZL.out).mono hsz; have hsz := Nat.le_trans hsz vb.size; clear vb hu1 hd1'; obtain ⟨a0, a1, a2, a3⟩ := ha.two; obtain ⟨w3, hW, ha, kg, kn, ks, kb⟩ := jcf ha (.bool (decide (z' < 0))) (.slice C1 d1.length cc1)
    go_upto_region 3 with (fail)
    rw [← hW]; clear a0 a1 a2 a3; have q1 := q1.low2' hW (by omega); have hb := kg _ _ _ (by omega) hb; have hr := kg _ _ _ (by omega) hr; have HB := hide (kb _ _ HB.out (by omega)); have hsz := Nat.le_trans hsz (Nat.le_of_eq ks.symm); clear kg kn ks kb hW; have HN2 := hide (jh5 (h'.at_ HB) (by omega)); rw [HY'.out] at HN2; obtain ⟨b0, b1, b2, b3⟩ := hb.two
    go_wp2_with fail
    refine HN2.out.mono ?_; rintro e w4 ⟨vb, u2, d2, rfl, hu2, hd2⟩; obtain ⟨C2, cc2, rfl⟩ := hu2.form; clear HN2 b0 b1 b2 b3; have ha := ha.below vb ha.lt; have hb := hb.below vb hb.lt; have hr := hr.below vb hr.lt; have q1 := q1.below vb; have HB := hide (HB.out.trans (vb.mono HB.out.size)); have q2 := (RetZ.qb hu2 hd2 HYL.out).mono hsz; have hsz := Nat.le_trans hsz vb.size; clear vb hu2 hd2; obtain ⟨b0, b1, b2, b3⟩ := hb.two; obtain ⟨w5, hW, hb, kg, kn, ks, kb⟩ := jcf hb (.bool (decide (y' < 0))) (.slice C2 d2.length cc2)
    go_upto_region 4 with (fail)
    rw [← hW]; clear b0 b1 b2 b3; have q1 := q1.low2' hW (by omega); have q2 := q2.low2' hW (by omega); have ha := kg _ _ _ (by omega) ha; have hr := kg _ _ _ (by omega) hr; have HB := hide (kb _ _ HB.out (by omega)); have hsz := Nat.le_trans hsz (Nat.le_of_eq ks.symm); clear kg kn ks kb hW; have HD := hide (jgc q1.q q2.q (by omega) (by omega) HY1.out); rw [HVV.out] at HD; obtain ⟨a0, a1, -, -⟩ := ha.two; obtain ⟨b0, b1, -, -⟩ := hb.two; obtain ⟨rm, HRM⟩ : ∃ t, Hid (z' % y' = t) := ⟨_, hide rfl⟩; rw [HRM.out] at HD
    go_wp2_with fail
    refine HD.out.mono ?_; rintro e w6 ⟨vb, u5, d5, u6, d6, rfl, hu5, hd5, hu6, hd6⟩; obtain ⟨C5, cc5, rfl⟩ := hu5.form; obtain ⟨C6, cc6, rfl⟩ := hu6.form; clear HD a0 a1 b0 b1; have hr := hr.below vb hr.lt; have HB := hide (HB.out.trans (vb.mono HB.out.size)); have q5 := (RetZ.qb hu5 hd5 HL.out).mono hsz; have hsz := Nat.le_trans hsz vb.size; clear vb hu5 hd5 hu6 hd6; obtain ⟨w7, hW, hx, hy, vb, hs⟩ := start2 w6 25 25 #[.bool (decide (v < 0)), .slice C5 d5.length cc5] #[.bool (decide (rm < 0)), .slice C6 d6.length cc6]; have hr := hr.below vb hr.lt; have q5 := q5.below vb; have HB := hide (HB.out.trans (vb.mono HB.out.size)); have hlt6 : w.heap.size + 3 ≤ w6.heap.size := hsz; clear vb hs; obtain ⟨x0, x1, -, -⟩ := hx.two; obtain ⟨r0, r1, r2, r3⟩ := hr.two; have hn1 : ¬ w6.heap.size = w.heap.size + 2 := by omega
    have hn2 : ¬ w.heap.size + 2 = w6.heap.size := by omega
    go_upto_region 5 with (fail)
    rw [← hW]; clear hW
    go_wp2_with fail
    refine bodyPost_ret (jac rfl _ _ _ _ _ _ rfl (jab hr)) rfl ⟨below2 HB.out (by omega) _ _, ?_⟩; exact joy ((q5.ext (jhe hr (jen _ _ _ _) _ _)).mono (by omega))
  · have HD1 : Hid (decide (sg < 0) = false) := hide (by rw [HNEG.out]; exact decide_eq_false hyn)
    have hd1 := HD1.out; have HVV : Hid (z / y = v) := hide (by rw [← HV.out]; unfold vDown; rw [if_neg hyn]); have HD := hide (jgc (h.at_ HB) (h'.at_ HB) (by omega) (by omega) HY0.out); rw [HVV.out] at HD; clear hyn
    go_upto_region 4 with (fail)
    obtain ⟨a0, a1, -, -⟩ := ha.two; obtain ⟨b0, b1, -, -⟩ := hb.two; obtain ⟨rm, HRM⟩ : ∃ t, Hid (z % y = t) := ⟨_, hide rfl⟩; rw [HRM.out] at HD
    go_wp2_with fail
    refine HD.out.mono ?_; rintro e w6 ⟨vb, u5, d5, u6, d6, rfl, hu5, hd5, hu6, hd6⟩; obtain ⟨C5, cc5, rfl⟩ := hu5.form; obtain ⟨C6, cc6, rfl⟩ := hu6.form; clear HD a0 a1 b0 b1; have hr := hr.below vb hr.lt; have HB := hide (HB.out.trans (vb.mono HB.out.size)); have q5 := (RetZ.qb hu5 hd5 HL.out).mono hsz; have hsz := Nat.le_trans hsz vb.size; clear vb hu5 hd5 hu6 hd6; obtain ⟨w7, hW, hx, hy, vb, hs⟩ := start2 w6 25 25 #[.bool (decide (v < 0)), .slice C5 d5.length cc5] #[.bool (decide (rm < 0)), .slice C6 d6.length cc6]; have hr := hr.below vb hr.lt; have q5 := q5.below vb; have HB := hide (HB.out.trans (vb.mono HB.out.size)); have hlt6 : w.heap.size + 3 ≤ w6.heap.size := hsz; clear vb hs; obtain ⟨x0, x1, -, -⟩ := hx.two; obtain ⟨r0, r1, r2, r3⟩ := hr.two; have hn1 : ¬ w6.heap.size = w.heap.size + 2 := by omega
    have hn2 : ¬ w.heap.size + 2 = w6.heap.size := by omega
    go_upto_region 5 with (fail)
    rw [← hW]; clear hW
    go_wp2_with fail
    refine bodyPost_ret (jac rfl _ _ _ _ _ _ rfl (jab hr)) rfl ⟨below2 HB.out (by omega) _ _, ?_⟩; exact joy ((q5.ext (jhe hr (jen _ _ _ _) _ _)).mono (by omega))
end
end
section
section
open Go.RowKit
open L (val dig nth)
theorem jqm {w : World} {B k : Nat} {n : Bool} {A : Option Addr} {len cap : Nat} {z : Int} (h : QB w B k n A len cap z) : RetZT B z (.returned (.tuple #[.agg #[.bool n, .slice A len cap], .bool true])) w := by
  obtain ⟨d, h1, h2, h3, rfl⟩ := h; exact ⟨_, d, rfl, h1, h3⟩
theorem jrt {z y : Int} {k : Nat} (hy : y ≠ 0) (hz : z.natAbs < W ^ k) : (vUp z y).natAbs < W ^ k := by
  unfold vUp; rw [Int.natAbs_neg]; exact jd3 hy (by rw [Int.natAbs_neg]; exact hz)
set_option maxHeartbeats 2000000 in
set_option maxRecDepth 100000 in
theorem joz {w : World} {k k' : Nat} {n m : Bool} {A A' : Option Addr} {len cap len' cap' : Nat} {z y : Int} (h : Q w k n A len cap z) (h' : Q w k' m A' len' cap' y) (hk : k ≤ 20000) (hk' : k' ≤ 20000) (hy : y ≠ 0) :
    Calls Tryz.prog 89 #[.agg #[.bool n, .slice A len cap], .agg #[.bool m, .slice A' len' cap']] w fun e w' => Below w.heap.size w w' ∧ RetZT w.heap.size (vUp z y) e w' := by
  obtain ⟨W0, hW, ha, hb, hr, hB0, hs⟩ := start3 w 25 25 25 #[.bool n, .slice A len cap] #[.bool m, .slice A' len' cap'] #[.bool false, .slice none 0 0]; have HB := hide hB0; have hsz : w.heap.size + 3 ≤ W0.heap.size := by omega
  clear hB0 hs; have HSG := hide (jkm (h'.at_ HB) (by omega)); obtain ⟨b0, b1, -, -⟩ := hb.two; obtain ⟨sg, HS⟩ : ∃ s, Hid (y.sign = s) := ⟨_, hide rfl⟩; rw [HS.out] at HSG; obtain ⟨z', HZ'⟩ : ∃ t, Hid (-z = t) := ⟨_, hide rfl⟩; obtain ⟨f, HF⟩ : ∃ t, Hid (vDown z' y = t) := ⟨_, hide rfl⟩; obtain ⟨v, HV⟩ : ∃ t, Hid (-f = t) := ⟨_, hide rfl⟩; have HVV : Hid (vUp z y = v) := hide (by rw [← HV.out, ← HF.out, ← HZ'.out]; rfl); rw [HVV.out]; have HLZ : Hid (z'.natAbs < W ^ k) := hide (by rw [← HZ'.out, Int.natAbs_neg]; exact h.lt); have HLF : Hid (f.natAbs < W ^ k) := hide (by rw [← HF.out]; exact jd3 hy HLZ.out); have HLV : Hid (v.natAbs < W ^ k) := hide (by rw [← HV.out, Int.natAbs_neg]; exact HLF.out); have hsg : (sg == 0) = false := by rw [← HS.out, beq_eq_false_iff_ne]; intro h0; exact hy (Int.sign_eq_zero_iff_zero.1 h0)
  go_enter Tryz.func89, Tryz.ntmps89
  go_upto_region 1 with (fail)
  rw [← hW]; clear hW
  go_wp2_with fail
  refine HSG.out.mono ?_; rintro e w1 ⟨vb, rfl⟩; clear HSG b0 b1; have ha := ha.below vb ha.lt; have hb := hb.below vb hb.lt; have hr := hr.below vb hr.lt; have HB := hide (HB.out.trans (vb.mono HB.out.size)); have hsz := Nat.le_trans hsz vb.size; clear vb
  go_upto_region 3 with (fail)
  have h1 := h.at_ HB; have h2 := h'.at_ HB; refine F2.region [.o, .o, .o, .o, .o, .so (w.heap.size + 2) 25 #[.bool false, .slice none 0 0], .o] [Fact.eq ?ca10, Fact.int (w.heap.size + 3) k z', Fact.eq ?ca12, Fact.int (w.heap.size + 3) k f, Fact.int (w.heap.size + 3) k v, Fact.int (w.heap.size + 3) k v, Fact.eq ?ca5] [10, 11, 12, 13, 14, 5] [10, 11, 12, 13, 14, 0, 5] (by kernel_rfl) ?soa ?sopa (by kernel_rfl) ?sta ?fina
  case soa => exact List.forall_mem_cons.2 ⟨⟨hr, NoU.two (by intro x h; cases h) (by intro x h; cases h)⟩, fun x hx => by cases hx⟩
  case sopa => exact List.Pairwise.cons (fun y hy => by cases hy) (List.Pairwise.nil)
  case sta =>
    refine F2.Steps.consO rfl ?_ ?_
    · intro vz wz hBz hDz hTz K hK
      have haz := hBz.blk ha.drew (by simp [F2.olds] <;> omega); obtain ⟨hazc0, hazc1, -⟩ := haz.two; replace hK := hK.out; simp only [actv, fill, Act.put, F2.fc, List.getD_cons_zero, List.getD_cons_succ, List.foldl_cons, List.foldl_nil, List.setIfInBounds_toArray, List.set_cons_succ, List.set_cons_zero] at hK; apply Kept.mk; simp only [F2.Wp, actv, fill, List.foldl_cons, List.foldl_nil, List.setIfInBounds_toArray, List.set_cons_succ, List.set_cons_zero]; go_simp; refine hK _ wz (Below.refl _ _) (Fact.eq_mk ?_); with_reducible rfl
    refine F2.Steps.consO rfl ?_ ?_
    · intro vz wz hBz hDz hTz K hK
      have E10 : vz 10 = _ := hDz 0 (by kernel_rfl) rfl; have HW := jaa hBz.ext; replace hK := hK.out; simp only [actv, fill, Act.put, F2.fc, List.getD_cons_zero, List.getD_cons_succ, List.foldl_cons, List.foldl_nil, List.setIfInBounds_toArray, List.set_cons_succ, List.set_cons_zero] at hK; apply Kept.mk; simp only [F2.Wp, actv, fill, List.foldl_cons, List.foldl_nil, List.setIfInBounds_toArray, List.set_cons_succ, List.set_cons_zero]; simp only [E10] at hK ⊢; go_simp; refine Calls.mono (HZ'.out ▸ jh5 (h1.ext HW) (by omega)) ?_; rintro e w2z ⟨hb2, u, d, rfl, hu, hd⟩
      go_wp2_with fail
      exact hK _ w2z hb2 (intV (hu.mono (Nat.le_trans hsz hBz.size)) hd HLZ.out)
    refine F2.Steps.consO rfl ?_ ?_
    · intro vz wz hBz hDz hTz K hK
      have hbz := hBz.blk hb.drew (by simp [F2.olds] <;> omega); obtain ⟨hbzc0, hbzc1, -⟩ := hbz.two; replace hK := hK.out; simp only [actv, fill, Act.put, F2.fc, List.getD_cons_zero, List.getD_cons_succ, List.foldl_cons, List.foldl_nil, List.setIfInBounds_toArray, List.set_cons_succ, List.set_cons_zero] at hK; apply Kept.mk; simp only [F2.Wp, actv, fill, List.foldl_cons, List.foldl_nil, List.setIfInBounds_toArray, List.set_cons_succ, List.set_cons_zero]; go_simp; refine hK _ wz (Below.refl _ _) (Fact.eq_mk ?_); with_reducible rfl
    refine F2.Steps.consO rfl ?_ ?_
    · intro vz wz hBz hDz hTz K hK
      obtain ⟨n11_, A11_, l11_, c11_, E11, q11⟩ : IntV _ _ _ wz (vz 11) := hDz 1 (by kernel_rfl) rfl; have E12 : vz 12 = _ := hDz 2 (by kernel_rfl) rfl; have HW := jaa hBz.ext; replace hK := hK.out; simp only [actv, fill, Act.put, F2.fc, List.getD_cons_zero, List.getD_cons_succ, List.foldl_cons, List.foldl_nil, List.setIfInBounds_toArray, List.set_cons_succ, List.set_cons_zero] at hK; apply Kept.mk; simp only [F2.Wp, actv, fill, List.foldl_cons, List.foldl_nil, List.setIfInBounds_toArray, List.set_cons_succ, List.set_cons_zero]; simp only [E11, E12] at hK ⊢; go_simp; refine Calls.mono (HF.out ▸ jja q11.q (h2.ext HW) (by omega) (by omega) hy) ?_; rintro e w2z ⟨hb2, u, d, rfl, hu, hd⟩
      go_wp2_with fail
      exact hK _ w2z hb2 (intV (hu.mono (Nat.le_trans hsz hBz.size)) hd HLF.out)
    refine F2.Steps.consO rfl ?_ ?_
    · intro vz wz hBz hDz hTz K hK
      obtain ⟨n13_, A13_, l13_, c13_, E13, q13⟩ : IntV _ _ _ wz (vz 13) := hDz 3 (by kernel_rfl) rfl; have HW := jaa hBz.ext; replace hK := hK.out; simp only [actv, fill, Act.put, F2.fc, List.getD_cons_zero, List.getD_cons_succ, List.foldl_cons, List.foldl_nil, List.setIfInBounds_toArray, List.set_cons_succ, List.set_cons_zero] at hK; apply Kept.mk; simp only [F2.Wp, actv, fill, List.foldl_cons, List.foldl_nil, List.setIfInBounds_toArray, List.set_cons_succ, List.set_cons_zero]; simp only [E13] at hK ⊢; go_simp; refine Calls.mono (HV.out ▸ jh5 q13.q (by omega)) ?_; rintro e w2z ⟨hb2, u, d, rfl, hu, hd⟩
      go_wp2_with fail
      exact hK _ w2z hb2 (intV (hu.mono (Nat.le_trans hsz hBz.size)) hd HLV.out)
    refine F2.Steps.consT rfl ?_ ?_
    · intro vz wz hBz hDz hbz K hK
      obtain ⟨zc0, zc1, zc2, zc3⟩ := hbz.two; obtain ⟨n14_, A14_, l14_, c14_, E14, q14⟩ : IntV _ _ _ wz (vz 14) := hDz 4 (by kernel_rfl) rfl; replace hK := hK.out; simp only [actv, fill, Act.put, F2.fc, List.getD_cons_zero, List.getD_cons_succ, List.foldl_cons, List.foldl_nil, List.setIfInBounds_toArray, List.set_cons_succ, List.set_cons_zero] at hK; apply Kept.mk; simp only [F2.Wp, actv, fill, List.foldl_cons, List.foldl_nil, List.setIfInBounds_toArray, List.set_cons_succ, List.set_cons_zero]; simp only [E14] at hK ⊢; go_simp; exact hK _ ((Far.set _ _ 0 _).trans (Far.set _ _ 1 _)) ⟨_, jab hbz, NoU.two (by intro x h; cases h) (by intro x h; cases h), ⟨_, _, _, _, rfl, q14⟩⟩
    refine F2.Steps.consO rfl ?_ ?_
    · intro vz wz hBz hDz hTz K hK
      replace hK := hK.out; simp only [actv, fill, Act.put, F2.fc, List.getD_cons_zero, List.getD_cons_succ, List.foldl_cons, List.foldl_nil, List.setIfInBounds_toArray, List.set_cons_succ, List.set_cons_zero] at hK; apply Kept.mk; simp only [F2.Wp, actv, fill, List.foldl_cons, List.foldl_nil, List.setIfInBounds_toArray, List.set_cons_succ, List.set_cons_zero]; go_simp; refine hK _ wz (Below.refl _ _) (Fact.eq_mk ?_); with_reducible rfl
    exact F2.Steps.nil
  case fina =>
    intro vz wa hBz ⟨hOz, hAz, hNz, hSz⟩; have E10 : vz 10 = _ := hOz 0 (by decide) rfl; obtain ⟨n11_, A11_, l11_, c11_, E11, q11⟩ : IntV _ _ _ wa (vz 11) := hOz 1 (by decide) rfl; have E12 : vz 12 = _ := hOz 2 (by decide) rfl; obtain ⟨n13_, A13_, l13_, c13_, E13, q13⟩ : IntV _ _ _ wa (vz 13) := hOz 3 (by decide) rfl; obtain ⟨n14_, A14_, l14_, c14_, E14, q14⟩ : IntV _ _ _ wa (vz 14) := hOz 4 (by decide) rfl; obtain ⟨cs4, hb4, hs4⟩ := hSz 5 _ _ _ (by decide) rfl; obtain ⟨n4_, A4_, l4_, c4_, e4_, q4⟩ : IntV _ _ _ wa (.agg cs4) := hs4; injection e4_ with e4_
    subst e4_; have E5 : vz 5 = _ := hOz 6 (by decide) rfl; simp only [actv, fill, List.foldl_cons, List.foldl_nil, List.setIfInBounds_toArray, List.set_cons_succ, List.set_cons_zero]; simp only [E10, E11, E12, E13, E14, E5]; clear hOz hAz hNz hSz; have hB9 := hBz.below (B := w.heap.size) (by omega) (fun g hg => by simp [F2.olds] at hg; omega); have HB := hide (HB.out.trans hB9)
    go_wp2_with fail
    exact bodyPost_ret (jbv rfl _ _ _ _ _ _ rfl hb4) rfl ⟨HB.out, jqm (q4.mono (by omega))⟩
end
end
end
section
section
section
open Go.RowKit
open L (val dig nth)
namespace F2
section
variable {P : Program} {md : Region.Mode} {ops : Array Oper} {Q : Exit → Act → World → Prop}
theorem jkg (hb : ∀ i o, ops[i]? = some o → ∀ j, depB md o j = true → j < i) :
    ∀ (n i f : Nat) (listed : Array Bool) (a : Act) (w : World), i + n = ops.size → n ≤ f → listed.size = ops.size → (∀ j, j < i → listed.getD j false = true) → (∀ j, i ≤ j → listed.getD j false = false) → wpAny P md ops Q f listed a w → wpOps P ops Q (List.range' i n) a w := by
  intro n
  induction n with
  | zero =>
    intro i f listed a w hn hf hsz h1 h2 h
    have hr : Region.ready md ops listed = [] := by
      cases hr : Region.ready md ops listed with
      | nil => rfl
      | cons x xs =>
        exfalso
        obtain ⟨hun, o, ho, -⟩ := mem_ready.1 (show x ∈ Region.ready md ops listed by rw [hr]; exact List.mem_cons_self); have hx : x < ops.size := (Array.getElem?_eq_some_iff.1 ho).1; have h3 := h1 x (by omega); have h4 := notlisted hun; rw [h3] at h4
        cases h4
    show Q .normal a w
    cases f with
    | zero => exact h.2
    | succ f => exact h.1 hr
  | succ n ih =>
    intro i f listed a w hn hf hsz h1 h2 h
    cases f with
    | zero => omega
    | succ f =>
      rw [List.range'_succ, wpOps_cons]; have hi : i < ops.size := by omega
      have ho : ops[i]? = some ops[i] := Array.getElem?_eq_getElem hi
      have hr : i ∈ Region.ready md ops listed := by
        refine mem_ready.2 ⟨?_, _, ho, fun e he hbd => ?_⟩
        · have h3 := h2 i (Nat.le_refl _)
          have hlt : i < listed.size := by omega
          simp [hlt] at h3 ⊢; exact h3
        · exact h1 _ (hb i _ ho e.on (Array.any_eq_true'.2 ⟨e, he, by simp [hbd]⟩))
      refine wpOp_mono (fun a' w' h' => ?_) (h.2 i hr); refine ih (i + 1) f _ a' w' (by omega) (by omega) (by simpa using hsz) (fun j hj => ?_) (fun j hj => ?_) h'
      · rcases Nat.lt_or_ge j i with h3 | h3
        · exact set_true (h1 j h3)
        · obtain rfl : j = i := by omega
          exact set_self (by omega)
      · cases hx : (listed.setIfInBounds i true).getD j false with
        | false => rfl
        | true =>
          rcases set_of_true hx with h3 | h3
          · omega
          · rw [h2 j (by omega)] at h3; cases h3
end
theorem regionS {P : Program} {id : Nat} {ops : Array Oper} {Q : Exit → Act → World → Prop} {a0 : Act} {w : World} (Ks : List Kd) (Fs : List Fact) (ds ix : List Nat) (hm : P.follows .mixedOrders = true)
    (hso : ∀ x ∈ sos Ks, Blk w x.1 x.2.1 x.2.2 ∧ NoU x.2.2) (hso2 : (sos Ks).Pairwise (fun x y => x.1 ≠ y.1))
    (hc : (chk .any ops Ks ds ix a0 && Ks.all fun k => !isT k && !isL k) = true) (hs : Steps P .any ops Q Ks Fs ds ix a0 w 0 ops.toList)
    (fin : ∀ v w', Low (olds Ks) w w' → Done (ops := ops) (Ks := Ks) (Fs := Fs) (ix := ix) (w0 := w) v w' → Q .normal (actv a0 ds v) w') : (Code.region id ops false).wp P Q a0 w := by
  rw [Bool.and_eq_true] at hc; obtain ⟨hc, hT⟩ := hc; have hT0 := noT Ks hT; have hL0 := noL Ks hT; have hso' : ∀ s g t z, kd Ks s = .so g t z → s < ops.size → Blk w g t z ∧ NoU z := fun s g t z hk _ => hso _ (jeo hk)
  have hso2' : ∀ s s' g g' t t' z z', s ≠ s' → s < ops.size → s' < ops.size → kd Ks s = .so g t z → kd Ks s' = .so g' t' z' → g ≠ g' := fun s s' g g' t t' z z' hne _ _ h h' => jkw Ks hso2 s s' g g' t t' z z' hne h h'
  refine wp_region ?_; rw [List.range_eq_range']; refine jkg (fun i o ho => (chk_spec hc ho).1) ops.size 0 ops.size (Array.replicate ops.size false) a0 w (by simp) (Nat.le_refl _) (by simp) (fun j hj => by omega) (fun j _ => ?_) ?_
  · simp only [Array.getD_eq_getD_getElem?, Array.getElem?_replicate]
    split <;> rfl
  have h := wpAny_free (w0 := w) hT0 hL0 hso' hso2' hc hs fin ops.size (Array.replicate ops.size false) (fun d => a0.tmps.getD d undef) w (by simp)
    ⟨by simp, fun i o ho hl => ?_, fun i hl => ?_, Low.refl _ _, fun s g t z hk hlt => ?fs, fun i hi hl => ?_, fun i t z hl => ?_, fun i j t z t' z' hne hl => ?_⟩
  · unfold actv at h
    rw [jd7] at h; exact h
  case fs =>
    obtain ⟨h1, h2⟩ := hso' s g t z hk hlt; refine ⟨z, h1, h2, fun h => ?_, fun _ => rfl⟩
    exfalso
    simp only [Array.getD_eq_getD_getElem?, Array.getElem?_replicate] at h
    split at h <;> cases h
  all_goals
    exfalso
    simp only [Array.getD_eq_getD_getElem?, Array.getElem?_replicate] at hl
    split at hl <;> cases hl
end F2
def VF (F : Fact) (e : Ending) (w : World) : Prop := ∃ u, e = .returned u ∧ F.holds w u
theorem VF.mk {F : Fact} {u : Value} {w : World} (h : F.holds w u) : VF F (.returned u) w := ⟨u, rfl, h⟩
theorem VF.eq {v : Value} {e : Ending} {w : World} (h : e = .returned v) : VF (Fact.eq v) e w := ⟨v, h, rfl⟩
def Fact.z (k : Nat) (x : Int) : Fact := Fact.int 0 k x
def Fact.t2 (F G : Fact) : Fact := ⟨fun w u => ∃ a b, u = .tuple #[a, b] ∧ F.holds w a ∧ G.holds w b, fun ⟨a, b, h, h1, h2⟩ he => ⟨a, b, h, F.stab h1 he, G.stab h2 he⟩⟩
def Fact.t3 (F G H : Fact) : Fact := ⟨fun w u => ∃ a b c, u = .tuple #[a, b, c] ∧ F.holds w a ∧ G.holds w b ∧ H.holds w c, fun ⟨a, b, c, h, h1, h2, h3⟩ he => ⟨a, b, c, h, F.stab h1 he, G.stab h2 he, H.stab h3 he⟩⟩
def Fact.t4 (F G H I : Fact) : Fact := ⟨fun w u => ∃ a b c d, u = .tuple #[a, b, c, d] ∧ F.holds w a ∧ G.holds w b ∧ H.holds w c ∧ I.holds w d, fun ⟨a, b, c, d, h, h1, h2, h3, h4⟩ he => ⟨a, b, c, d, h, F.stab h1 he, G.stab h2 he, H.stab h3 he, I.stab h4 he⟩⟩
def Fact.b (k : Nat) (x y q : Int) : Fact := Fact.ball 0 k x y q
def PairV (k : Nat) (x y : Int) (w : World) (u : Value) : Prop := ∃ n A l c m A' j d, u = .agg #[.bool n, .slice A l c, .bool m, .slice A' j d] ∧ QB w 0 k n A l c x ∧ QB w 0 k m A' j d y
def Fact.pr (k : Nat) (x y : Int) : Fact := ⟨PairV k x y, fun ⟨n, A, l, c, m, A', j, d, h, h1, h2⟩ he => ⟨n, A, l, c, m, A', j, d, h, h1.ext he, h2.ext he⟩⟩
theorem Fact.eq_of {c : Value} {w : World} {u : Value} (h : (Fact.eq c).holds w u) : u = c := h
theorem QB.fit {w : World} {B k k' : Nat} {n : Bool} {A : Option Addr} {len cap : Nat} {z : Int} (h : QB w B k n A len cap z) (hz : z.natAbs < W ^ k') : QB w B k' n A len cap z := by
  obtain ⟨d, h1, h2, h3, h4⟩ := h; exact ⟨d, h1, by rw [h3.len]; exact hz, h3, h4⟩
theorem QB.lt {w : World} {B k : Nat} {n : Bool} {A : Option Addr} {len cap : Nat} {z : Int} (h : QB w B k n A len cap z) : z.natAbs < W ^ k := by
  obtain ⟨d, h1, h2, h3, h4⟩ := h; exact h3.len.1 h2
theorem VF.z {B k : Nat} {z : Int} {e : Ending} {w : World} (h : RetZ B z e w) (hz : z.natAbs < W ^ k) : VF (Fact.z k z) e w := by
  obtain ⟨u, d, rfl, hu, hd⟩ := h; exact ⟨_, rfl, intV (hu.mono (Nat.zero_le _)) hd hz⟩
theorem VF.zt {B k : Nat} {z : Int} {e : Ending} {w : World} (h : RetZT B z e w) (hz : z.natAbs < W ^ k) : VF (Fact.t2 (Fact.z k z) (Fact.eq (.bool true))) e w := by
  obtain ⟨u, d, rfl, hu, hd⟩ := h; exact ⟨_, rfl, _, _, rfl, intV (hu.mono (Nat.zero_le _)) hd hz, rfl⟩
theorem VF.zzt {B k k' : Nat} {z y : Int} {e : Ending} {w : World} (h : RetZZ B z y e w) (hz : z.natAbs < W ^ k) (hy : y.natAbs < W ^ k') : VF (Fact.t3 (Fact.z k z) (Fact.z k' y) (Fact.eq (.bool true))) e w := by
  obtain ⟨u, d, u', d', rfl, hu, hd, hu', hd'⟩ := h; exact ⟨_, rfl, _, _, _, rfl, intV (hu.mono (Nat.zero_le _)) hd hz, intV (hu'.mono (Nat.zero_le _)) hd' hy, rfl⟩
theorem VF.mono {F G : Fact} {e : Ending} {w : World} (h : VF F e w) (hg : ∀ u, F.holds w u → G.holds w u) : VF G e w := by
  obtain ⟨u, h1, h2⟩ := h; exact ⟨u, h1, hg u h2⟩
section
variable {w : World} {k k' : Nat} {n m : Bool} {A A' : Option Addr} {len cap len' cap' : Nat} {z y : Int}
theorem jcq {a b : Nat} (h : a ≤ b) : W ^ a ≤ W ^ b := Nat.pow_le_pow_right (by unfold W; omega) h
theorem jo0 (hz : z.natAbs < W ^ k) (hy : y.natAbs < W ^ k') : (z + y).natAbs < W ^ (max k k' + 1) :=
  jhf (Nat.lt_of_lt_of_le hz (jcq (by omega))) (Nat.lt_of_lt_of_le hy (jcq (by omega)))
theorem jo1 (hz : z.natAbs < W ^ k) (hy : y.natAbs < W ^ k') : (z - y).natAbs < W ^ (max k k' + 1) :=
  jnf (Nat.lt_of_lt_of_le hz (jcq (by omega))) (Nat.lt_of_lt_of_le hy (jcq (by omega)))
theorem jo2 (hz : z.natAbs < W ^ k) (hy : y.natAbs < W ^ k') : (z * y).natAbs < W ^ (k + k') := by
  rw [Int.natAbs_mul, Nat.pow_add]; exact Nat.mul_lt_mul'' hz hy
theorem jo3 (c : Nat) (hz : z.natAbs < W ^ k) : (z / 2 ^ c).natAbs < W ^ k := by
  have h2 : (0 : Int) < 2 ^ c := Int.pow_pos (by omega); have := jd3 (z := z) (y := 2 ^ c) (k := k) (by omega) hz; unfold vDown at this
  rwa [if_neg (by omega)] at this
theorem jo4 (h : 0 < y) : (z / y).natAbs ≤ z.natAbs := by
  have h3 := Int.mul_ediv_add_emod z y; have h4 := Int.emod_nonneg z (show y ≠ 0 by omega); have h5 := Int.emod_lt_of_pos z h
  generalize z / y = q at *
  rcases Int.lt_or_le q 0 with h6 | h6
  · have : y * (q + 1) ≤ 1 * (q + 1) := Int.mul_le_mul_of_nonpos_right (by omega) (by omega)
    rw [Int.mul_add] at this
    omega
  · have : 1 * q ≤ y * q := Int.mul_le_mul_of_nonneg_right (by omega) (by omega)
    omega
theorem jo5 (hy : y ≠ 0) (hz : z.natAbs < W ^ k) : (z / y).natAbs < W ^ k := by
  have h1 : (z / y).natAbs ≤ z.natAbs := by
    rcases Int.lt_or_gt_of_ne hy with h | h
    · rw [← Int.neg_neg (z / y), Int.natAbs_neg, ← Int.ediv_neg]
      exact jo4 (by omega)
    · exact jo4 h
  omega
theorem jo6 (hy : y ≠ 0) (h : y.natAbs < W ^ k) : (z % y).natAbs < W ^ k := by
  have h4 := Int.emod_nonneg z hy; have h5 := Int.emod_lt z hy
  omega
theorem jo7 (c : Nat) (hz : z.natAbs < W ^ k) : (z * 2 ^ c).natAbs < W ^ (k + (c / 64 + 1)) := jpr hz (by omega)
theorem jo8 {x : Int} (h0 : -9223372036854775808 ≤ x) (h1 : x ≤ 9223372036854775807) : x.natAbs < W ^ 1 := by
  rw [Nat.pow_one]; unfold W; omega
end
end
end
section
section
open Go.RowKit
open L (val dig nth)
section
variable {w : World} {k k' : Nat} {n m : Bool} {A A' : Option Addr} {len cap len' cap' : Nat} {z y x : Int}
theorem v_of (hx0 : -9223372036854775808 ≤ x) (hx1 : x ≤ 9223372036854775807) : Calls Tryz.prog 33 #[.int .i64 x] w fun e w' => Below w.heap.size w w' ∧ VF (Fact.z 1 x) e w' := by
  refine (jpl w x hx0 hx1).mono ?_; rintro e w' ⟨hb, h9⟩; exact ⟨hb, VF.z h9 (jo8 hx0 hx1)⟩
theorem jud (h : Q w k n A len cap z) (hk : k ≤ 29000) : Calls Tryz.prog 75 #[.agg #[.bool n, .slice A len cap]] w fun e w' => Below w.heap.size w w' ∧ VF (Fact.z k z) e w' := by
  have hlt := h.lt; obtain ⟨d, h1, h2, rfl⟩ := h; refine (jki w n 0 _ d h1 (by omega)).mono ?_; rintro e w' ⟨hb, h9⟩; exact ⟨hb, VF.z h9 hlt⟩
theorem ju6 (h : Q w k n A len cap z) (hk : k ≤ 29000) : Calls Tryz.prog 54 #[.agg #[.bool n, .slice A len cap]] w fun e w' => Below w.heap.size w w' ∧ VF (Fact.z k (-z)) e w' := by
  refine (jg4 h (by omega)).mono ?_; rintro e w' ⟨hb, h9⟩; exact ⟨hb, VF.z h9 (by rw [Int.natAbs_neg]; exact h.lt)⟩
theorem ju7 (h : Q w k n A len cap z) (h' : Q w k' m A' len' cap' y) (hk : k ≤ 29000) (hk' : k' ≤ 29000) : Calls Tryz.prog 34 #[.agg #[.bool n, .slice A len cap], .agg #[.bool m, .slice A' len' cap']] w fun e w' => Below w.heap.size w w' ∧ VF (Fact.z (max k k' + 1) (z + y)) e w' := by
  refine (jup h h' (by omega) (by omega)).mono ?_; rintro e w' ⟨hb, h9⟩; exact ⟨hb, VF.z h9 (jo0 h.lt h'.lt)⟩
theorem ju8 (h : Q w k n A len cap z) (h' : Q w k' m A' len' cap' y) (hk : k ≤ 29000) (hk' : k' ≤ 29000) : Calls Tryz.prog 114 #[.agg #[.bool n, .slice A len cap], .agg #[.bool m, .slice A' len' cap']] w fun e w' => Below w.heap.size w w' ∧ VF (Fact.z (max k k' + 1) (z - y)) e w' := by
  refine (jps h h' (by omega) (by omega)).mono ?_; rintro e w' ⟨hb, h9⟩; exact ⟨hb, VF.z h9 (jo1 h.lt h'.lt)⟩
theorem jue (h : Q w k n A len cap z) (h' : Q w k' m A' len' cap' y) (hk : k ≤ 29000) (hk' : k' ≤ 29000) : Calls Tryz.prog 72 #[.agg #[.bool n, .slice A len cap], .agg #[.bool m, .slice A' len' cap']] w fun e w' => Below w.heap.size w w' ∧ VF (Fact.z (k + k') (z * y)) e w' := by
  refine (juo h h' (by omega) (by omega)).mono ?_; rintro e w' ⟨hb, h9⟩; exact ⟨hb, VF.z h9 (jo2 h.lt h'.lt)⟩
theorem ju9 (h : Q w k n A len cap z) (hk : k ≤ 29000) (hx0 : 0 ≤ x) (hx1 : x ≤ 8000) : Calls Tryz.prog 32 #[.agg #[.bool n, .slice A len cap], .int .i64 x] w fun e w' => Below w.heap.size w w' ∧ VF (Fact.z (k + (x.toNat / 64 + 1)) (z * 2 ^ x.toNat)) e w' := by
  obtain ⟨c, rfl⟩ := Int.eq_ofNat_of_zero_le hx0; refine (js7 h (by omega) c (by omega)).mono ?_; rintro e w' ⟨hb, h9⟩; exact ⟨hb, VF.z h9 (jo7 c h.lt)⟩
theorem jva (h : Q w k n A len cap z) (hk : k ≤ 29000) (hx0 : 0 ≤ x) (hx1 : x ≤ 8000) : Calls Tryz.prog 67 #[.agg #[.bool n, .slice A len cap], .int .i64 x] w fun e w' => Below w.heap.size w w' ∧ VF (Fact.z k (z / 2 ^ x.toNat)) e w' := by
  obtain ⟨c, rfl⟩ := Int.eq_ofNat_of_zero_le hx0; refine (juq h (by omega) c (by omega)).mono ?_; rintro e w' ⟨hb, h9⟩; exact ⟨hb, VF.z h9 (jo3 c h.lt)⟩
theorem jqn (h : Q w k n A len cap z) (h' : Q w k' m A' len' cap' y) (hk : k ≤ 29000) (hk' : k' ≤ 29000) (hy : y ≠ 0) : Calls Tryz.prog 31 #[.agg #[.bool n, .slice A len cap], .agg #[.bool m, .slice A' len' cap']] w fun e w' => Below w.heap.size w w' ∧ VF (Fact.t3 (Fact.z k (z / y)) (Fact.z k' (z % y)) (Fact.eq (.bool true))) e w' := by
  refine (jge h h' (by omega) (by omega) hy).mono ?_; rintro e w' ⟨hb, h9⟩; exact ⟨hb, VF.zzt h9 (jo5 hy h.lt) (jo6 hy h'.lt)⟩
theorem v_up (h : Q w k n A len cap z) (h' : Q w k' m A' len' cap' y) (hk : k ≤ 29000) (hk' : k' ≤ 29000) (hy : y ≠ 0) : Calls Tryz.prog 102 #[.agg #[.bool n, .slice A len cap], .agg #[.bool m, .slice A' len' cap']] w fun e w' => Below w.heap.size w w' ∧ VF (Fact.t2 (Fact.z k (vUp z y)) (Fact.eq (.bool true))) e w' := by
  refine (jpi h h' (by omega) (by omega) hy (Nat.lt_of_lt_of_le (jd3 hy (by rw [Int.natAbs_neg]; exact h.lt)) (jcq (by omega)))).mono ?_; rintro e w' ⟨hb, h9⟩; exact ⟨hb, VF.zt h9 (jrt hy h.lt)⟩
theorem juf (h : Q w k n A len cap z) (hk : k ≤ 29000) : Calls Tryz.prog 73 #[.agg #[.bool n, .slice A len cap]] w fun e w' => Below w.heap.size w w' ∧ VF (Fact.eq (.int .i64 z.sign)) e w' := by
  refine (jr3 h (by omega)).mono ?_; rintro e w' ⟨hb, h9⟩; exact ⟨hb, VF.eq h9⟩
theorem jvb (h : Q w k n A len cap z) (h' : Q w k' m A' len' cap' y) (hk : k ≤ 29000) (hk' : k' ≤ 29000) : Calls Tryz.prog 66 #[.agg #[.bool n, .slice A len cap], .agg #[.bool m, .slice A' len' cap']] w fun e w' => Below w.heap.size w w' ∧ VF (Fact.eq (.int .i64 (cmpZ z y))) e w' := by
  refine (jtl h h' (by omega) (by omega)).mono ?_; rintro e w' ⟨hb, h9⟩; exact ⟨hb, VF.eq h9⟩
theorem u_of (hx0 : 0 ≤ x) (hx1 : x ≤ 9223372036854775807) : Calls Tryz.prog 17 #[.int .i64 x] w fun e w' => Below w.heap.size w w' ∧ VF (Fact.z 1 x) e w' := by
  refine (jew w x hx0 hx1).mono ?_; rintro e w' ⟨hb, h9⟩; exact ⟨hb, VF.z h9 (jo8 (by omega) hx1)⟩
theorem jo9 (h : Q w k n A len cap z) (hk : k ≤ 29000) : Calls Tryz.prog 45 #[.agg #[.bool n, .slice A len cap]] w fun e w' => Below w.heap.size w w' ∧ VF (Fact.z k z) e w' := by
  have hlt := h.lt; obtain ⟨d, h1, h2, rfl⟩ := h; refine (jbd w n 0 _ d h1 (by omega)).mono ?_; rintro e w' ⟨hb, h9⟩; exact ⟨hb, VF.z h9 hlt⟩
theorem jsx (h : Q w k n A len cap z) (hk : k ≤ 29000) : Calls Tryz.prog 88 #[.agg #[.bool n, .slice A len cap]] w fun e w' => Below w.heap.size w w' ∧ VF (Fact.z k (-z)) e w' := by
  refine (jh5 h (by omega)).mono ?_; rintro e w' ⟨hb, h9⟩; exact ⟨hb, VF.z h9 (by rw [Int.natAbs_neg]; exact h.lt)⟩
theorem jkh (h : Q w k n A len cap z) (h' : Q w k' m A' len' cap' y) (hk : k ≤ 29000) (hk' : k' ≤ 29000) : Calls Tryz.prog 42 #[.agg #[.bool n, .slice A len cap], .agg #[.bool m, .slice A' len' cap']] w fun e w' => Below w.heap.size w w' ∧ VF (Fact.z (max k k' + 1) (z + y)) e w' := by
  refine (jox h h' (by omega) (by omega)).mono ?_; rintro e w' ⟨hb, h9⟩; exact ⟨hb, VF.z h9 (jo0 h.lt h'.lt)⟩
theorem jsy (h : Q w k n A len cap z) (h' : Q w k' m A' len' cap' y) (hk : k ≤ 29000) (hk' : k' ≤ 29000) : Calls Tryz.prog 59 #[.agg #[.bool n, .slice A len cap], .agg #[.bool m, .slice A' len' cap']] w fun e w' => Below w.heap.size w w' ∧ VF (Fact.z (max k k' + 1) (z - y)) e w' := by
  refine (jmz h h' (by omega) (by omega)).mono ?_; rintro e w' ⟨hb, h9⟩; exact ⟨hb, VF.z h9 (jo1 h.lt h'.lt)⟩
theorem jpa (h : Q w k n A len cap z) (h' : Q w k' m A' len' cap' y) (hk : k ≤ 29000) (hk' : k' ≤ 29000) : Calls Tryz.prog 44 #[.agg #[.bool n, .slice A len cap], .agg #[.bool m, .slice A' len' cap']] w fun e w' => Below w.heap.size w w' ∧ VF (Fact.z (k + k') (z * y)) e w' := by
  refine (jmy h h' (by omega) (by omega)).mono ?_; rintro e w' ⟨hb, h9⟩; exact ⟨hb, VF.z h9 (jo2 h.lt h'.lt)⟩
theorem jsz (h : Q w k n A len cap z) (hk : k ≤ 29000) (hx0 : 0 ≤ x) (hx1 : x ≤ 8000) : Calls Tryz.prog 41 #[.agg #[.bool n, .slice A len cap], .int .i64 x] w fun e w' => Below w.heap.size w w' ∧ VF (Fact.z (k + (x.toNat / 64 + 1)) (z * 2 ^ x.toNat)) e w' := by
  obtain ⟨c, rfl⟩ := Int.eq_ofNat_of_zero_le hx0; refine (js8 h (by omega) c (by omega)).mono ?_; rintro e w' ⟨hb, h9⟩; exact ⟨hb, VF.z h9 (jo7 c h.lt)⟩
theorem js0 (h : Q w k n A len cap z) (hk : k ≤ 29000) (hx0 : 0 ≤ x) (hx1 : x ≤ 8000) : Calls Tryz.prog 87 #[.agg #[.bool n, .slice A len cap], .int .i64 x] w fun e w' => Below w.heap.size w w' ∧ VF (Fact.z k (z / 2 ^ x.toNat)) e w' := by
  obtain ⟨c, rfl⟩ := Int.eq_ofNat_of_zero_le hx0; refine (js9 h (by omega) c (by omega)).mono ?_; rintro e w' ⟨hb, h9⟩; exact ⟨hb, VF.z h9 (jo3 c h.lt)⟩
theorem jl3 (h : Q w k n A len cap z) (h' : Q w k' m A' len' cap' y) (hk : k ≤ 29000) (hk' : k' ≤ 29000) (hy : y ≠ 0) : Calls Tryz.prog 40 #[.agg #[.bool n, .slice A len cap], .agg #[.bool m, .slice A' len' cap']] w fun e w' => Below w.heap.size w w' ∧ VF (Fact.t3 (Fact.z k (z / y)) (Fact.z k' (z % y)) (Fact.eq (.bool true))) e w' := by
  refine (jgc h h' (by omega) (by omega) hy).mono ?_; rintro e w' ⟨hb, h9⟩; exact ⟨hb, VF.zzt h9 (jo5 hy h.lt) (jo6 hy h'.lt)⟩
theorem u_up (h : Q w k n A len cap z) (h' : Q w k' m A' len' cap' y) (hk : k ≤ 20000) (hk' : k' ≤ 20000) (hy : y ≠ 0) : Calls Tryz.prog 89 #[.agg #[.bool n, .slice A len cap], .agg #[.bool m, .slice A' len' cap']] w fun e w' => Below w.heap.size w w' ∧ VF (Fact.t2 (Fact.z k (vUp z y)) (Fact.eq (.bool true))) e w' := by
  refine (joz h h' (by omega) (by omega) hy).mono ?_; rintro e w' ⟨hb, h9⟩; exact ⟨hb, VF.zt h9 (jrt hy h.lt)⟩
theorem jpb (h : Q w k n A len cap z) (hk : k ≤ 29000) : Calls Tryz.prog 84 #[.agg #[.bool n, .slice A len cap]] w fun e w' => Below w.heap.size w w' ∧ VF (Fact.eq (.int .i64 z.sign)) e w' := by
  refine (jkm h (by omega)).mono ?_; rintro e w' ⟨hb, h9⟩; exact ⟨hb, VF.eq h9⟩
theorem jug (h : Q w k n A len cap z) (h' : Q w k' m A' len' cap' y) (hk : k ≤ 1000) (hk' : k' ≤ 1000) : Calls Tryz.prog 85 #[.agg #[.bool n, .slice A len cap], .agg #[.bool m, .slice A' len' cap']] w fun e w' => Below w.heap.size w w' ∧ VF (Fact.eq (.int .i64 (cmpZ z y))) e w' := by
  refine (jkn h h' (by omega) (by omega)).mono ?_; rintro e w' ⟨hb, h9⟩; exact ⟨hb, VF.eq h9⟩
theorem u_eq (h : QB w 0 k n A len cap z) (h' : QB w 0 k' m A' len' cap' y) : Calls Tryz.prog 23 #[.agg #[.bool n, .slice A len cap], .agg #[.bool m, .slice A' len' cap']] w fun e w' => Below w.heap.size w w' ∧ VF (Fact.eq (.bool (decide (z = y)))) e w' := by
  refine (jne h.qc h'.qc).mono ?_; rintro e w' ⟨hb, h9⟩; exact ⟨hb, VF.eq h9⟩
end
end
end
section
section
open Go.RowKit
open L (val dig nth)
theorem sZ {α : Type} {d x : α} {l : List α} : (x :: l).getD 0 d = x := List.getD_cons_zero
theorem sS {α : Type} {d x : α} {l : List α} {n : Nat} : (x :: l).getD (n + 1) d = l.getD n d := List.getD_cons_succ
theorem fC {α β : Type} {f : β → α → β} {b : β} {a : α} {l : List α} : List.foldl f b (a :: l) = List.foldl f (f b a) l := List.foldl_cons ..
theorem fN {α β : Type} {f : β → α → β} {b : β} : List.foldl f b ([] : List α) = b := List.foldl_nil ..
theorem tA {α : Type} {l : List α} {i : Nat} {a : α} : l.toArray.setIfInBounds i a = (l.set i a).toArray := List.setIfInBounds_toArray ..
theorem cS {α : Type} {a b : α} {l : List α} {n : Nat} : (a :: l).set (n + 1) b = a :: l.set n b := List.set_cons_succ
theorem cZ {α : Type} {a b : α} {l : List α} : (a :: l).set 0 b = b :: l := List.set_cons_zero
theorem zy : (∀ p : Prop, Shut p = p) ∧ (∀ p : Prop, Kept p = p) ∧ (∀ (Fs : List Fact) (i : Nat), F2.fc Fs i = Fs.getD i Fact.any) ∧
    (∀ (a : Act) (ds : List Nat) (v : Nat → Value), actv a ds v = { a with tmps := fill a.tmps ds v }) ∧ (∀ (t : Array Value) (ds : List Nat) (v : Nat → Value), fill t ds v = ds.foldl (fun t d => t.setIfInBounds d (v d)) t) ∧
    (∀ (a : Act) (d : Tmp) (v : Value), a.put (some d) v = { a with tmps := a.tmps.setIfInBounds d v }) ∧ (∀ (a : Act) (v : Value), a.put none v = a) ∧
    (∀ {α : Type} {d x : α} {l : List α}, (x :: l).getD 0 d = x) ∧ (∀ {α : Type} {d x : α} {l : List α} {n : Nat}, (x :: l).getD (n + 1) d = l.getD n d) ∧
    (∀ {α β : Type} {f : β → α → β} {b : β} {a : α} {l : List α}, List.foldl f b (a :: l) = List.foldl f (f b a) l) ∧ (∀ {α β : Type} {f : β → α → β} {b : β}, List.foldl f b ([] : List α) = b) ∧
    (∀ {α : Type} {l : List α} {i : Nat} {a : α}, l.toArray.setIfInBounds i a = (l.set i a).toArray) ∧ (∀ {α : Type} {a b : α} {l : List α} {n : Nat}, (a :: l).set (n + 1) b = a :: l.set n b) ∧ (∀ {α : Type} {a b : α} {l : List α}, (a :: l).set 0 b = b :: l) :=
  ⟨fun p => rfl, fun p => propext ⟨fun h => h.out, fun h => ⟨h⟩⟩, fun _ _ => rfl, fun _ _ _ => rfl, fun _ _ _ => rfl, fun _ _ _ => rfl, fun _ _ => rfl, sZ, sS, fC, fN, tA, cS, cZ⟩
theorem zB {B : Nat} {w : World} : Below B w w := Below.refl _ _
theorem nB {b : Bool} : ∀ x : Int, Value.bool b ≠ .int .u64 x := by intro x h; cases h
theorem nS {A : Option Addr} {l c : Nat} : ∀ x : Int, Value.slice A l c ≠ .int .u64 x := by intro x h; cases h
theorem nI {y : Int} : ∀ x : Int, Value.int .i64 y ≠ .int .u64 x := by intro x h; cases h
theorem zM {a b : Nat} {l : List Nat} (h : a ≠ b) (k : a ∉ l) : a ∉ b :: l := List.not_mem_cons_of_ne_of_not_mem h k
theorem zN {a : Nat} : a ∉ ([] : List Nat) := by simp
theorem zA {p : Nat → Prop} {a : Nat} {l : List Nat} (h : p a) (k : ∀ x ∈ l, p x) : ∀ x ∈ a :: l, p x := List.forall_mem_cons.2 ⟨h, k⟩
theorem zE {p : Nat → Prop} : ∀ x ∈ ([] : List Nat), p x := by simp
theorem F2.nost {Ks : List F2.Kd} {j : Nat} (h : (Ks.all fun k => match k with | .st i => i != j | _ => true) = true) : ∀ s, F2.kd Ks s ≠ .st j := by
  intro s hs; unfold F2.kd at hs; rw [List.getD_eq_getElem?_getD] at hs
  cases hx : Ks[s]? with
  | none => rw [hx] at hs; cases hs
  | some k =>
    rw [hx] at hs; have : k = .st j := hs; subst this; have := List.all_eq_true.1 h _ (List.mem_of_getElem? hx); simp at this
theorem Q.up {w : World} {k k' : Nat} {n : Bool} {A : Option Addr} {len cap : Nat} {z : Int} (h : Q w k n A len cap z) (hk : k ≤ k') : Q w k' n A len cap z := by
  obtain ⟨d, h1, h2, h3⟩ := h; exact ⟨d, h1, Nat.le_trans h2 hk, h3⟩
theorem Q.nil (w : World) (k : Nat) (n : Bool) (cap : Nat) : Q w k false none 0 0 0 := by
  obtain ⟨d, h1, h2, h3⟩ := (QB.zero w 0 k).q; exact ⟨d, h1, h2, h3⟩
theorem Low.step {X Y : List Nat} {a b c : World} (h : Low X a b) (k : Low Y b c) (hY : ∀ g ∈ Y, g ∈ X ∨ a.heap.size ≤ g) : Low X a c := by
  refine ⟨k.os.trans h.os, k.tape.trans h.tape, k.output.trans h.output, Nat.le_trans h.size k.size, fun i hi hX => (k.block i (Nat.lt_of_lt_of_le hi h.size) (fun hm => ?_)).trans (h.block i hi hX), h.ext.trans k.ext⟩
  rcases hY i hm with h1 | h1
  · exact hX h1
  · omega
theorem jg1 {w w' : World} (h : Below w.heap.size w w') : Low [] w w' := ⟨h.os, h.tape, h.output, h.size, fun k hk _ => h.block k hk, jah h⟩
theorem Fact.cast {F G : Fact} {w : World} {u : Value} (h : F.holds w u) (e : F = G) : G.holds w u := e ▸ h
theorem Fact.z_mk {w : World} {k : Nat} {z : Int} {n : Bool} {A : Option Addr} {l c : Nat} (h : QB w 0 k n A l c z) : (Fact.z k z).holds w (.agg #[.bool n, .slice A l c]) := ⟨_, _, _, _, rfl, h⟩
theorem Fact.t2_mk {F G : Fact} {w : World} {a b : Value} (h : F.holds w a) (h1 : G.holds w b) : (Fact.t2 F G).holds w (.tuple #[a, b]) := ⟨_, _, rfl, h, h1⟩
theorem Fact.t3_mk {F G H : Fact} {w : World} {a b c : Value} (h : F.holds w a) (h1 : G.holds w b) (h2 : H.holds w c) : (Fact.t3 F G H).holds w (.tuple #[a, b, c]) := ⟨_, _, _, rfl, h, h1, h2⟩
theorem Fact.eq_self (c : Value) (w : World) : (Fact.eq c).holds w c := rfl
def TV2 (F G : Fact) (w : World) (u : Value) : Prop := ∃ a b, u = .tuple #[a, b] ∧ F.holds w a ∧ G.holds w b
def TV3 (F G H : Fact) (w : World) (u : Value) : Prop := ∃ a b c, u = .tuple #[a, b, c] ∧ F.holds w a ∧ G.holds w b ∧ H.holds w c
def TV4 (F G H I : Fact) (w : World) (u : Value) : Prop := ∃ a b c d, u = .tuple #[a, b, c, d] ∧ F.holds w a ∧ G.holds w b ∧ H.holds w c ∧ I.holds w d
def SV_z (k0 : Nat) (x0 : Int) (w : World) (u : Value) : Prop := ∃ n0 A0 l0 c0, u = .agg #[.bool n0, .slice A0 l0 c0] ∧ Q w k0 n0 A0 l0 c0 x0
def Fact.s_z (k0 : Nat) (x0 : Int) : Fact := ⟨SV_z k0 x0, fun ⟨n0, A0, l0, c0, h, h0⟩ he => ⟨n0, A0, l0, c0, h, h0.ext he⟩⟩
def jpc (k0 : Nat) (x0 : Int) (k1 : Nat) (x1 : Int) (w : World) (u : Value) : Prop := ∃ n0 A0 l0 c0 n1 A1 l1 c1, u = .agg #[.bool n0, .slice A0 l0 c0, .bool n1, .slice A1 l1 c1] ∧ Q w k0 n0 A0 l0 c0 x0 ∧ Q w k1 n1 A1 l1 c1 x1
def Fact.s_zz (k0 : Nat) (x0 : Int) (k1 : Nat) (x1 : Int) : Fact := ⟨jpc k0 x0 k1 x1, fun ⟨n0, A0, l0, c0, n1, A1, l1, c1, h, h0, h1⟩ he => ⟨n0, A0, l0, c0, n1, A1, l1, c1, h, h0.ext he, h1.ext he⟩⟩
theorem Fact.s_zz_mk {w : World} {k0 : Nat} {x0 : Int} {k1 : Nat} {x1 : Int} {n0 : Bool} {A0 : Option Addr} {l0 c0 : Nat} {n1 : Bool} {A1 : Option Addr} {l1 c1 : Nat} (h0 : Q w k0 n0 A0 l0 c0 x0) (h1 : Q w k1 n1 A1 l1 c1 x1) : (Fact.s_zz k0 x0 k1 x1).holds w (.agg #[.bool n0, .slice A0 l0 c0, .bool n1, .slice A1 l1 c1]) := ⟨_, _, _, _, _, _, _, _, rfl, h0, h1⟩
def jvc (k0 : Nat) (x0 : Int) (k1 : Nat) (x1 : Int) (w : World) (u : Value) : Prop := ∃ n0 A0 l0 c0 n1 A1 l1 c1, u = .agg #[.bool n0, .slice A0 l0 c0, .bool n1, .slice A1 l1 c1] ∧ QB w 0 k0 n0 A0 l0 c0 x0 ∧ QB w 0 k1 n1 A1 l1 c1 x1
def Fact.s_yy (k0 : Nat) (x0 : Int) (k1 : Nat) (x1 : Int) : Fact := ⟨jvc k0 x0 k1 x1, fun ⟨n0, A0, l0, c0, n1, A1, l1, c1, h, h0, h1⟩ he => ⟨n0, A0, l0, c0, n1, A1, l1, c1, h, h0.ext he, h1.ext he⟩⟩
def jvd (k0 : Nat) (x0 : Int) (k1 : Nat) (x1 : Int) (w : World) (u : Value) : Prop := ∃ n0 A0 l0 c0 n1 A1 l1 c1, u = .agg #[.bool n0, .slice A0 l0 c0, .bool n1, .slice A1 l1 c1] ∧ Q w k0 n0 A0 l0 c0 x0 ∧ QB w 0 k1 n1 A1 l1 c1 x1
def Fact.s_zy (k0 : Nat) (x0 : Int) (k1 : Nat) (x1 : Int) : Fact := ⟨jvd k0 x0 k1 x1, fun ⟨n0, A0, l0, c0, n1, A1, l1, c1, h, h0, h1⟩ he => ⟨n0, A0, l0, c0, n1, A1, l1, c1, h, h0.ext he, h1.ext he⟩⟩
def jve (k0 : Nat) (x0 : Int) (k1 : Nat) (x1 : Int) (w : World) (u : Value) : Prop := ∃ n0 A0 l0 c0 n1 A1 l1 c1, u = .agg #[.bool n0, .slice A0 l0 c0, .bool n1, .slice A1 l1 c1] ∧ QB w 0 k0 n0 A0 l0 c0 x0 ∧ Q w k1 n1 A1 l1 c1 x1
def Fact.s_yz (k0 : Nat) (x0 : Int) (k1 : Nat) (x1 : Int) : Fact := ⟨jve k0 x0 k1 x1, fun ⟨n0, A0, l0, c0, n1, A1, l1, c1, h, h0, h1⟩ he => ⟨n0, A0, l0, c0, n1, A1, l1, c1, h, h0.ext he, h1.ext he⟩⟩
def jvf (k0 : Nat) (x0 : Int) (u1 : Value) (w : World) (u : Value) : Prop := ∃ n0 A0 l0 c0, u = .agg #[.bool n0, .slice A0 l0 c0, u1] ∧ Q w k0 n0 A0 l0 c0 x0
def Fact.s_zv (k0 : Nat) (x0 : Int) (u1 : Value) : Fact := ⟨jvf k0 x0 u1, fun ⟨n0, A0, l0, c0, h, h0⟩ he => ⟨n0, A0, l0, c0, h, h0.ext he⟩⟩
def jvg (k0 : Nat) (x0 : Int) (u1 : Value) (w : World) (u : Value) : Prop := ∃ n0 A0 l0 c0, u = .agg #[.bool n0, .slice A0 l0 c0, u1] ∧ QB w 0 k0 n0 A0 l0 c0 x0
def Fact.s_yv (k0 : Nat) (x0 : Int) (u1 : Value) : Fact := ⟨jvg k0 x0 u1, fun ⟨n0, A0, l0, c0, h, h0⟩ he => ⟨n0, A0, l0, c0, h, h0.ext he⟩⟩
def juh (k0 : Nat) (x0 : Int) (k1 : Nat) (x1 : Int) (u2 : Value) (w : World) (u : Value) : Prop := ∃ n0 A0 l0 c0 n1 A1 l1 c1, u = .agg #[.bool n0, .slice A0 l0 c0, .bool n1, .slice A1 l1 c1, u2] ∧ Q w k0 n0 A0 l0 c0 x0 ∧ Q w k1 n1 A1 l1 c1 x1
def Fact.s_zzv (k0 : Nat) (x0 : Int) (k1 : Nat) (x1 : Int) (u2 : Value) : Fact := ⟨juh k0 x0 k1 x1 u2, fun ⟨n0, A0, l0, c0, n1, A1, l1, c1, h, h0, h1⟩ he => ⟨n0, A0, l0, c0, n1, A1, l1, c1, h, h0.ext he, h1.ext he⟩⟩
def jui (k0 : Nat) (x0 : Int) (k1 : Nat) (x1 : Int) (u2 : Value) (w : World) (u : Value) : Prop := ∃ n0 A0 l0 c0 n1 A1 l1 c1, u = .agg #[.bool n0, .slice A0 l0 c0, .bool n1, .slice A1 l1 c1, u2] ∧ QB w 0 k0 n0 A0 l0 c0 x0 ∧ QB w 0 k1 n1 A1 l1 c1 x1
def Fact.s_yyv (k0 : Nat) (x0 : Int) (k1 : Nat) (x1 : Int) (u2 : Value) : Fact := ⟨jui k0 x0 k1 x1 u2, fun ⟨n0, A0, l0, c0, n1, A1, l1, c1, h, h0, h1⟩ he => ⟨n0, A0, l0, c0, n1, A1, l1, c1, h, h0.ext he, h1.ext he⟩⟩
def juj (k0 : Nat) (x0 : Int) (k1 : Nat) (x1 : Int) (u2 : Value) (w : World) (u : Value) : Prop := ∃ n0 A0 l0 c0 n1 A1 l1 c1, u = .agg #[.bool n0, .slice A0 l0 c0, .bool n1, .slice A1 l1 c1, u2] ∧ Q w k0 n0 A0 l0 c0 x0 ∧ QB w 0 k1 n1 A1 l1 c1 x1
def Fact.s_zyv (k0 : Nat) (x0 : Int) (k1 : Nat) (x1 : Int) (u2 : Value) : Fact := ⟨juj k0 x0 k1 x1 u2, fun ⟨n0, A0, l0, c0, n1, A1, l1, c1, h, h0, h1⟩ he => ⟨n0, A0, l0, c0, n1, A1, l1, c1, h, h0.ext he, h1.ext he⟩⟩
def juk (k0 : Nat) (x0 : Int) (k1 : Nat) (x1 : Int) (u2 : Value) (w : World) (u : Value) : Prop := ∃ n0 A0 l0 c0 n1 A1 l1 c1, u = .agg #[.bool n0, .slice A0 l0 c0, .bool n1, .slice A1 l1 c1, u2] ∧ QB w 0 k0 n0 A0 l0 c0 x0 ∧ Q w k1 n1 A1 l1 c1 x1
def Fact.s_yzv (k0 : Nat) (x0 : Int) (k1 : Nat) (x1 : Int) (u2 : Value) : Fact := ⟨juk k0 x0 k1 x1 u2, fun ⟨n0, A0, l0, c0, n1, A1, l1, c1, h, h0, h1⟩ he => ⟨n0, A0, l0, c0, n1, A1, l1, c1, h, h0.ext he, h1.ext he⟩⟩
def js1 (k0 : Nat) (x0 : Int) (k1 : Nat) (x1 : Int) (k2 : Nat) (x2 : Int) (u3 : Value) (w : World) (u : Value) : Prop := ∃ n0 A0 l0 c0 n1 A1 l1 c1 n2 A2 l2 c2, u = .agg #[.bool n0, .slice A0 l0 c0, .bool n1, .slice A1 l1 c1, .bool n2, .slice A2 l2 c2, u3] ∧ Q w k0 n0 A0 l0 c0 x0 ∧ Q w k1 n1 A1 l1 c1 x1 ∧ Q w k2 n2 A2 l2 c2 x2
def Fact.s_zzzv (k0 : Nat) (x0 : Int) (k1 : Nat) (x1 : Int) (k2 : Nat) (x2 : Int) (u3 : Value) : Fact := ⟨js1 k0 x0 k1 x1 k2 x2 u3, fun ⟨n0, A0, l0, c0, n1, A1, l1, c1, n2, A2, l2, c2, h, h0, h1, h2⟩ he => ⟨n0, A0, l0, c0, n1, A1, l1, c1, n2, A2, l2, c2, h, h0.ext he, h1.ext he, h2.ext he⟩⟩
def js2 (k0 : Nat) (x0 : Int) (k1 : Nat) (x1 : Int) (k2 : Nat) (x2 : Int) (u3 : Value) (w : World) (u : Value) : Prop := ∃ n0 A0 l0 c0 n1 A1 l1 c1 n2 A2 l2 c2, u = .agg #[.bool n0, .slice A0 l0 c0, .bool n1, .slice A1 l1 c1, .bool n2, .slice A2 l2 c2, u3] ∧ QB w 0 k0 n0 A0 l0 c0 x0 ∧ QB w 0 k1 n1 A1 l1 c1 x1 ∧ QB w 0 k2 n2 A2 l2 c2 x2
def Fact.s_yyyv (k0 : Nat) (x0 : Int) (k1 : Nat) (x1 : Int) (k2 : Nat) (x2 : Int) (u3 : Value) : Fact := ⟨js2 k0 x0 k1 x1 k2 x2 u3, fun ⟨n0, A0, l0, c0, n1, A1, l1, c1, n2, A2, l2, c2, h, h0, h1, h2⟩ he => ⟨n0, A0, l0, c0, n1, A1, l1, c1, n2, A2, l2, c2, h, h0.ext he, h1.ext he, h2.ext he⟩⟩
theorem Blk.one {w : World} {g : Nat} {t : TypeId} {a : Value} (h : Blk w g t #[a]) :
    w.cell? ⟨g, 0, none⟩ = some a ∧ w.frozen? ⟨g, 0, none⟩ = false :=
  ⟨h.cell 0, h.frozen 0⟩
theorem NoU.one {a : Value} (ha : ∀ x : Int, a ≠ .int .u64 x) : NoU #[a] := by
  intro i x h
  match i with
  | 0 => exact ha x (Option.some.inj h)
  | k + 1 => simp at h
end
end
section
section
open Go.RowKit
namespace F4
structure FactW where
  holds : World → Value → Prop
  stab : ∀ {w w' : World} {u : Value}, holds w u → Below w.heap.size w w' → holds w' u
def FactW.any : FactW := ⟨fun _ _ => True, fun _ _ => trivial⟩
def FactW.of (F : Fact) : FactW := ⟨F.holds, fun h hb => F.stab h (jah hb)⟩
theorem FactW.cast {F G : Fact} {w : World} {u : Value} (h : F.holds w u) (e : FactW.of F = FactW.of G) : (FactW.of G).holds w u := by
  have : (FactW.of F).holds w u := h; rw [e] at this; exact this
section
variable (P : Program) (md : Region.Mode) (ops : Array Oper) (Q : Exit → Act → World → Prop) (N : List Bool) (Fs : List FactW) (ds ix : List Nat) (a0 : Act) (w0 : World)
def inN (i : Nat) : Bool := N.getD i false
def fw (i : Nat) : FactW := Fs.getD i FactW.any
def dd (i : Nat) : Nat := ix.getD i 0
def chk : Bool :=
  (List.range ops.size).all fun i => match ops[i]? with
    | none => false
    | some o => !inN N i || (match o.dst with
        | none => false
        | some d => ds.contains d && decide (d < a0.tmps.size) && (ix.getD i 0 == d) && (List.range ops.size).all fun j => i == j || !inN N j || dd ix j != d)
def StepN (i : Nat) (o : Oper) : Prop :=
  ∀ (v : Nat → Value) (w : World), Below w0.heap.size w0 w → (∀ j, F2.depB md o j = true → inN N j = true → (fw Fs j).holds w (v (dd ix j))) →
    ∀ K : Act → World → Prop, Shut (∀ u w', Below w.heap.size w w' → (fw Fs i).holds w' u → K ((actv a0 ds v).put o.dst u) w') → Kept (F2.Wp P ops Q o (actv a0 ds v) w K)
def Steps : Nat → List Oper → Prop
  | _, [] => True
  | i, o :: os => (inN N i = true → StepN P md ops Q N Fs ds ix a0 w0 i o) ∧ Steps (i + 1) os
variable {P md ops Q N Fs ds ix a0 w0}
theorem Steps.at_ : ∀ {os : List Oper} {n : Nat}, Steps P md ops Q N Fs ds ix a0 w0 n os → ∀ (i : Nat) (o : Oper), os[i]? = some o → inN N (n + i) = true → StepN P md ops Q N Fs ds ix a0 w0 (n + i) o
  | [], _, _, i, o, h => by simp at h
  | o' :: os, n, hs, 0, o, h => by
    simp at h; subst h; exact hs.1
  | o' :: os, n, hs, i + 1, o, h => by
    have := Steps.at_ hs.2 i o (by simpa using h); rw [show n + (i + 1) = n + 1 + i by omega]; exact this
theorem Steps.nil {n : Nat} : Steps P md ops Q N Fs ds ix a0 w0 n [] := trivial
theorem Steps.yes {n : Nat} {o : Oper} {os : List Oper} (h : StepN P md ops Q N Fs ds ix a0 w0 n o) (hs : Steps P md ops Q N Fs ds ix a0 w0 (n + 1) os) : Steps P md ops Q N Fs ds ix a0 w0 n (o :: os) := ⟨fun _ => h, hs⟩
theorem Steps.no {n : Nat} {o : Oper} {os : List Oper} (hn : inN N n = false) (hs : Steps P md ops Q N Fs ds ix a0 w0 (n + 1) os) : Steps P md ops Q N Fs ds ix a0 w0 n (o :: os) := ⟨fun h => (by rw [hn] at h; cases h), hs⟩
structure Inv (L0 listed : Array Bool) (v : Nat → Value) (w : World) : Prop where
  lsz : listed.size = ops.size
  sub : ∀ i, listed.getD i false = true → L0.getD i false = true ∨ inN N i = true
  sup : ∀ i, L0.getD i false = true → listed.getD i false = true
  closed : ∀ i o, ops[i]? = some o → listed.getD i false = true → ∀ j, F2.depB md o j = true → listed.getD j false = true
  low : Below w0.heap.size w0 w
  fo : ∀ i, i < ops.size → listed.getD i false = true → inN N i = true → (fw Fs i).holds w (v (dd ix i))
def tailOk (md : Region.Mode) (ops : Array Oper) (N : List Bool) (L0 : Array Bool) : Bool :=
  (List.range ops.size).all fun i => L0.getD i false || inN N i || (List.range ops.size).all fun j => !inN N j || F2.ancB md ops ops.size i j
def apart (ops : Array Oper) (N : List Bool) (L0 : Array Bool) : Bool := (List.range ops.size).all fun i => !(L0.getD i false && inN N i)
def back (md : Region.Mode) (ops : Array Oper) : Bool := (List.range ops.size).all fun i => match ops[i]? with | none => false | some o => o.after.all fun e => !Region.binds md e || decide (e.on < i)
theorem jjb {md : Region.Mode} {ops : Array Oper} (h : back md ops = true) : ∀ i o, ops[i]? = some o → ∀ j, F2.depB md o j = true → j < i := fun i o ho j hj => by
  obtain ⟨e, he, hb⟩ := Array.any_eq_true'.1 hj; simp only [Bool.and_eq_true, beq_iff_eq] at hb; have h1 := List.all_eq_true.1 h i (List.mem_range.2 (Array.getElem?_eq_some_iff.1 ho).1); rw [ho] at h1; have h2 := Array.all_eq_true'.1 h1 e he; rw [hb.1, hb.2] at h2
  simpa using h2
theorem all_listed {md : Region.Mode} {ops : Array Oper} (hb : ∀ i o, ops[i]? = some o → ∀ j, F2.depB md o j = true → j < i) {listed : Array Bool} (hsz : listed.size = ops.size) (hr : Region.ready md ops listed = []) : ∀ (i : Nat), i < ops.size → listed.getD i false = true := by
  intro i
  induction i using Nat.strongRecOn with
  | _ i ih =>
    intro hi
    cases hl : listed.getD i false with
    | true => rfl
    | false =>
      have ho : ops[i]? = some ops[i] := Array.getElem?_eq_getElem hi
      have : i ∈ Region.ready md ops listed := by
        refine mem_ready.2 ⟨?_, _, ho, fun e he hbd => ?_⟩
        · have hlt : i < listed.size := by omega
          simp [hlt] at hl ⊢; exact hl
        · have hd : F2.depB md ops[i] e.on = true := Array.any_eq_true'.2 ⟨e, he, by simp [hbd]⟩
          have hlt := hb i _ ho e.on hd; exact ih e.on hlt (by omega)
      rw [hr] at this
      cases this
def L1 (ops : Array Oper) (N : List Bool) (L0 : Array Bool) : Array Bool := ((List.range ops.size).map fun i => L0.getD i false || inN N i).toArray
theorem step (hs : Steps P md ops Q N Fs ds ix a0 w0 0 ops.toList) (hc : chk ops N ds ix a0 = true) {L0 listed : Array Bool} {v : Nat → Value} {w : World} (hd0 : ∀ i, inN N i = true → L0.getD i false = false)
    (hI : Inv (md := md) (ops := ops) (N := N) (Fs := Fs) (ix := ix) (w0 := w0) L0 listed v w) {i : Nat} (hr : i ∈ Region.ready md ops listed) (hN : inN N i = true) (hdepN : ∀ o, ops[i]? = some o → ∀ j, F2.depB md o j = true → j < ops.size) :
    wpOp P ops Q i (fun a' w' => ∃ v', a' = actv a0 ds v' ∧ Inv (md := md) (ops := ops) (N := N) (Fs := Fs) (ix := ix) (w0 := w0) L0 (listed.setIfInBounds i true) v' w') (actv a0 ds v) w := by
  obtain ⟨hun, o, ho, hall⟩ := mem_ready.1 hr; have hi : i < ops.size := (Array.getElem?_eq_some_iff.1 ho).1; have hun' := notlisted hun
  have hdep : ∀ j, F2.depB md o j = true → listed.getD j false = true := fun j hj => by
    obtain ⟨e, he, hb⟩ := Array.any_eq_true'.1 hj; simp only [Bool.and_eq_true, beq_iff_eq] at hb; have := hall e he hb.1; rw [hb.2] at this; exact this
  have h0 := List.all_eq_true.1 hc i (List.mem_range.2 hi); rw [ho] at h0; simp only [hN, Bool.not_true, Bool.false_or] at h0
  cases hdst : o.dst with
  | none => rw [hdst] at h0; cases h0
  | some d =>
    rw [hdst] at h0; simp only [Bool.and_eq_true, decide_eq_true_eq] at h0; obtain ⟨⟨⟨g1, g2⟩, g3⟩, g4⟩ := h0; have g1' : d ∈ ds := by simpa using g1
    have g3' : dd ix i = d := by simpa [dd] using g3
    have hK : StepN P md ops Q N Fs ds ix a0 w0 i o := by
      have := hs.at_ i o (by rw [Array.getElem?_toList]; exact ho); rw [Nat.zero_add] at this; exact this hN
    refine wpOp_step ho (fun K' hK' => ?_); refine (hK v w hI.low (fun j hj hjN => hI.fo j (hdepN o ho j hj) (hdep j hj) hjN) K' (fun u w' hb hf => hK' _ _ ?_)).out; refine ⟨fun x => if x = d then u else v x, ?_, by simpa using hI.lsz, fun j hj => ?_, fun j hj => set_true (hI.sup j hj), fun k o' hk hl j hj => ?_, hI.low.trans (hb.mono hI.low.size), fun j hj hl hjN => ?_⟩
    · rw [hdst]; exact jd6 a0 ds v d u g1' g2
    · rcases set_of_true hj with rfl | h
      · exact .inr hN
      · exact hI.sub j h
    · rcases set_of_true hl with rfl | h
      · rw [ho] at hk
        cases hk
        exact set_true (hdep j hj)
      · exact set_true (hI.closed k o' hk h j hj)
    · by_cases hji : j = i
      · subst hji
        show (fw Fs j).holds w' (if dd ix j = d then u else v (dd ix j))
        rw [if_pos g3']; exact hf
      · have hl' : listed.getD j false = true := by
          rcases set_of_true hl with h | h
          · exact absurd h hji
          · exact h
        have hne : dd ix j ≠ d := by
          have := List.all_eq_true.1 g4 j (List.mem_range.2 hj); simp only [hjN, Bool.not_true, Bool.or_false, Bool.or_eq_true, beq_iff_eq, bne_iff_ne] at this
          rcases this with h | h
          · exact absurd h.symm hji
          · exact h
        show (fw Fs j).holds w' (if dd ix j = d then u else v (dd ix j))
        rw [if_neg hne]; exact (fw Fs j).stab (hI.fo j hj hl' hjN) hb
theorem phase (hs : Steps P md ops Q N Fs ds ix a0 w0 0 ops.toList) (hc : chk ops N ds ix a0 = true) {L0 : Array Bool} (hap : apart ops N L0 = true) (ht : tailOk md ops N L0 = true) (hbk : back md ops = true) (hNl : N.length ≤ ops.size) (m : Nat) (hm : ((L1 ops N L0).toList.filter (! ·)).length = m)
    (fin : ∀ v w f, Below w0.heap.size w0 w → (∀ i, i < ops.size → inN N i = true → (fw Fs i).holds w (v (dd ix i))) → wpAny P md ops Q (f + m) (L1 ops N L0) (actv a0 ds v) w) :
    ∀ (fuel : Nat) (listed : Array Bool) (v : Nat → Value) (w : World), (listed.toList.filter (! ·)).length ≤ fuel → Inv (md := md) (ops := ops) (N := N) (Fs := Fs) (ix := ix) (w0 := w0) L0 listed v w → wpAny P md ops Q fuel listed (actv a0 ds v) w := by
  have hlt : ∀ i, inN N i = true → i < ops.size := fun i h => by
    unfold inN at h
    rcases Nat.lt_or_ge i N.length with h1 | h1
    · omega
    · rw [List.getD_eq_getElem?_getD, List.getElem?_eq_none h1] at h; cases h
  have hd0 : ∀ i, inN N i = true → L0.getD i false = false := fun i h => by
    have := List.all_eq_true.1 hap i (List.mem_range.2 (hlt i h)); rw [h, Bool.and_true] at this
    cases hx : L0.getD i false with
    | false => rfl
    | true => rw [hx] at this; cases this
  have hdepN : ∀ i o, ops[i]? = some o → ∀ j, F2.depB md o j = true → j < ops.size := fun i o ho j hj => Nat.lt_trans (jjb hbk i o ho j hj) (Array.getElem?_eq_some_iff.1 ho).1
  have lenset : ∀ (l : List Bool) (i : Nat), l[i]? = some false → ((l.set i true).filter (! ·)).length + 1 = (l.filter (! ·)).length := by
    intro l
    induction l with
    | nil => intro i h; simp at h
    | cons b l ih =>
      intro i h
      match i with
      | 0 =>
        simp at h; subst h; simp
      | n + 1 =>
        have := ih n (by simpa using h)
        cases b <;> simp [List.set] <;> omega
  have full : ∀ (listed : Array Bool) (v : Nat → Value) (w : World) (fuel : Nat), Inv (md := md) (ops := ops) (N := N) (Fs := Fs) (ix := ix) (w0 := w0) L0 listed v w → (listed.toList.filter (! ·)).length ≤ fuel →
      (∀ i, i < ops.size → inN N i = true → listed.getD i false = true) → wpAny P md ops Q fuel listed (actv a0 ds v) w := fun listed v w fuel hI hf hall => by
    have e : listed = L1 ops N L0 := by
      apply Array.ext
      · rw [hI.lsz]; simp [L1]
      · intro i h1 h2
        have h3 : i < ops.size := by rw [← hI.lsz]; exact h1
        have h4 : (L1 ops N L0)[i] = (L0.getD i false || inN N i) := by simp [L1]
        rw [h4]; have h5 : listed.getD i false = listed[i] := by simp [h1]
        cases hx : (L0.getD i false || inN N i) with
        | true =>
          rw [Bool.or_eq_true] at hx; rw [← h5]
          rcases hx with hx | hx
          · exact hI.sup i hx
          · exact hall i h3 hx
        | false =>
          rw [Bool.or_eq_false_iff] at hx; rw [← h5]
          cases hy : listed.getD i false with
          | false => rfl
          | true =>
            rcases hI.sub i hy with h | h
            · rw [hx.1] at h; cases h
            · rw [hx.2] at h; cases h
    subst e; obtain ⟨f, rfl⟩ : ∃ f, fuel = f + m := ⟨fuel - m, by omega⟩; exact fin v w f hI.low fun i hi hN => hI.fo i hi (hall i hi hN) hN
  intro fuel
  induction fuel with
  | zero =>
    intro listed v w hf hI; refine full listed v w 0 hI hf fun i hi _ => ?_
    cases hx : listed.getD i false with
    | true => rfl
    | false =>
      have h1 : i < listed.size := by rw [hI.lsz]; exact hi
      have : listed.toList[i]? = some false := by
        rw [Array.getElem?_toList, Array.getElem?_eq_getElem h1]
        simpa [h1] using hx
      have := lenset _ _ this
      omega
  | succ fuel ih =>
    intro listed v w hf hI
    by_cases hall : ∀ i, i < ops.size → inN N i = true → listed.getD i false = true
    · exact full listed v w _ hI hf hall
    · refine ⟨fun h0 => absurd (fun i hi _ => all_listed (jjb hbk) hI.lsz h0 i hi) hall, fun i hi => ?_⟩
      obtain ⟨hun, o, ho, hdl⟩ := mem_ready.1 hi
      have hdep : ∀ j, F2.depB md o j = true → listed.getD j false = true := fun j hj => by
        obtain ⟨e, he, hb⟩ := Array.any_eq_true'.1 hj; simp only [Bool.and_eq_true, beq_iff_eq] at hb; have := hdl e he hb.1; rw [hb.2] at this; exact this
      have hiN : inN N i = true := by
        cases hT : inN N i with
        | true => rfl
        | false =>
          refine absurd (fun j hj hjN => ?_) hall; have h1 := List.all_eq_true.1 ht i (List.mem_range.2 (Array.getElem?_eq_some_iff.1 ho).1); rw [hT, Bool.or_false, Bool.or_eq_true] at h1
          rcases h1 with h1 | h1
          · have h2 := hI.sup i h1
            have h3 := notlisted hun; rw [h2] at h3; cases h3
          · have h2 := List.all_eq_true.1 h1 j (List.mem_range.2 hj)
            rw [hjN, Bool.not_true, Bool.false_or] at h2; exact F2.anc_listed hI.closed ops.size i j (fun o' ho' k hk => by rw [ho] at ho'; cases ho'; exact hdep k hk) h2
      refine wpOp_mono ?_ (step hs hc hd0 hI hi hiN (fun o' ho' j hj => hdepN i o' ho' j hj)); rintro a' w' ⟨v', rfl, hI'⟩; refine ih _ v' w' ?_ hI'
      have : listed.toList[i]? = some false := by
        rw [Array.getElem?_toList]; simp only [Array.getD_eq_getD_getElem?] at hun
        cases hx : listed[i]? with
        | none => rw [hx] at hun; cases hun
        | some b => rw [hx] at hun; simp at hun; rw [hun]
      have := lenset _ _ this; rw [Array.toList_setIfInBounds]
      omega
end
theorem region {P : Program} {id : Nat} {ops : Array Oper} {Q : Exit → Act → World → Prop} {a0 : Act} {w : World} (N : List Bool) (Fs : List FactW) (ds ix : List Nat) (m : Nat) (hm : P.follows .mixedOrders = true)
    (hc : chk ops N ds ix a0 = true) (ht : tailOk .any ops N #[] = true) (hbk : back .any ops = true) (hNl : N.length ≤ ops.size) (hml : ((L1 ops N #[]).toList.filter (! ·)).length = m)
    (hs : Steps P .any ops Q N Fs ds ix a0 w.drew 0 ops.toList)
    (fin : ∀ v w' f, Below w.heap.size w w' → (∀ i, i < ops.size → inN N i = true → (fw Fs i).holds w' (v (dd ix i))) → wpAny P .any ops Q (f + m) (L1 ops N #[]) (actv a0 ds v) w') : (Code.region id ops true).wp P Q a0 w := by
  refine wp_region_any hm ?_
  have h := phase (w0 := w.drew) (L0 := #[]) hs hc (by simp [apart]) ht hbk hNl m hml (fun v w' f hb hf => fin v w' f ⟨hb.os, hb.tape, hb.output, hb.size, hb.block⟩ hf) ops.size (Array.replicate ops.size false) (fun d => a0.tmps.getD d undef) w.drew (by simp)
    ⟨by simp, fun i hl => ?_, fun i hl => ?_, fun i o ho hl => ?_, Below.refl _ _, fun i hi hl => ?_⟩
  · unfold actv at h
    rw [jd7] at h; exact h
  all_goals
    exfalso
    first
      | (simp at hl; done)
      | (simp only [Array.getD_eq_getD_getElem?, Array.getElem?_replicate] at hl
         split at hl <;> cases hl)
end F4
end
end
section
section
def sq (f : Nat → Int → Int) (x : Int) : Nat → Int
  | 0 => x
  | k + 1 => f (k + 1) (sq f x k)
def su (a : Nat → Int) : Nat → Int
  | 0 => 0
  | k + 1 => su a k + a k
def tu (a b : Nat → Int) : Nat → Int
  | 0 => 0
  | k + 1 => if k % 2 = 1 then tu a b k - b k else tu a b k + a k
theorem jey {a b : Nat → Int} {k : Nat} (h : k % 2 = 1) : tu a b (k + 1) = tu a b k - b k := if_pos h
theorem jdw {a b : Nat → Int} {k : Nat} (h : ¬ k % 2 = 1) : tu a b (k + 1) = tu a b k + a k := if_neg h
theorem jpd (a b : Nat → Int) (n : Nat) : tu a b (2 * n + 1) = tu a b (2 * n) + a (2 * n) := jdw (by omega)
theorem jul (a b : Nat → Int) (n : Nat) : tu a b (2 * n + 2) = tu a b (2 * n + 1) - b (2 * n + 1) := jey (k := 2 * n + 1) (by omega)
theorem jgd {z y : Int} (h : 0 < y) : vUp z y = -((-z) / y) := by
  unfold vUp vDown; rw [if_neg (by omega)]
theorem jru {z y : Int} (h : 0 < y) : z ≤ vUp z y * y := by
  rw [jgd h]; have := Int.ediv_mul_le (-z) (b := y) (by omega); rw [Int.neg_mul]
  omega
theorem jpe {z y c : Int} (h : 0 < y) (hz : z ≤ c * y) : vUp z y ≤ c := by
  rw [jgd h]
  have : -c ≤ (-z) / y := by
    rw [Int.le_ediv_iff_mul_le h, Int.neg_mul]
    omega
  omega
theorem jum {z y c : Int} (h : 0 < y) (hz : c * y ≤ z) : c ≤ vUp z y := by
  have := jru (z := z) h; exact Int.le_of_mul_le_mul_right (Int.le_trans hz this) h
theorem jg2 {x z y : Int} (h : 0 < y) (hxz : x ≤ z) : x / y ≤ vUp z y :=
  jum h (Int.le_trans (Int.ediv_mul_le x (by omega)) hxz)
theorem jqo {d : Nat → Int} {T x : Int} (hd : ∀ k, 0 < d (k + 1)) (hT : 0 ≤ T) (hx : 0 ≤ x) : ∀ k, 0 ≤ sq (fun y x => x * T / d y) x k ∧ sq (fun y x => x * T / d y) x k ≤ sq (fun y x => vUp (x * T) (d y)) x k
  | 0 => ⟨hx, Int.le_refl _⟩
  | k + 1 => by
    obtain ⟨e1, e2⟩ := jqo hd hT hx k; have e3 := hd k; refine ⟨?_, ?_⟩
    · exact Int.ediv_nonneg (Int.mul_nonneg e1 hT) (by omega)
    · exact jg2 e3 (Int.mul_le_mul_of_nonneg_right e2 hT)
theorem jjc {d : Nat → Int} {T x : Int} (hd : ∀ k, 0 < d (k + 1)) (hT : ∀ k, T ≤ 2 * d (k + 1)) (hT0 : 0 ≤ T) (hx : 0 ≤ x) : ∀ k, sq (fun y x => vUp (x * T) (d y)) x k ≤ x * 2 ^ k
  | 0 => by show x ≤ x * 2 ^ 0; omega
  | k + 1 => by
    have e0 := jjc hd hT hT0 hx k; obtain ⟨e1, e2⟩ := jqo hd hT0 hx k
    show vUp (sq _ x k * T) (d (k + 1)) ≤ _
    generalize sq (fun y x => vUp (x * T) (d y)) x k = z at *
    have e3 := hd k; refine jpe e3 ?_; have e5 : z * T ≤ z * (2 * d (k + 1)) := Int.mul_le_mul_of_nonneg_left (hT k) (by omega); have e6 : z * 2 * d (k + 1) ≤ x * 2 ^ k * 2 * d (k + 1) := Int.mul_le_mul_of_nonneg_right (by omega) (by omega); rw [show x * 2 ^ (k + 1) = x * 2 ^ k * 2 by rw [Int.pow_succ, Int.mul_assoc]]; rw [← Int.mul_assoc] at e5
    omega
theorem jpf {b : Nat → Int} {x : Int} (h0 : ∀ k, 0 ≤ b k) (h : ∀ k, b k ≤ x * 2 ^ k) (hx : 0 ≤ x) : ∀ n, 0 ≤ su b n ∧ su b n ≤ x * 2 ^ n
  | 0 => ⟨Int.le_refl _, Int.mul_nonneg hx (Int.le_of_lt (Int.pow_pos (by omega)))⟩
  | n + 1 => by
    obtain ⟨e1, e2⟩ := jpf h0 h hx n; have e3 := h0 n; have e4 := h n; rw [Int.pow_succ, ← Int.mul_assoc]
    show 0 ≤ su b n + b n ∧ su b n + b n ≤ _
    omega
theorem jpg {a b : Nat → Int} {x : Int} (h0 : ∀ k, 0 ≤ a k) (h0' : ∀ k, 0 ≤ b k) (h : ∀ k, a k ≤ x * 2 ^ k) (h' : ∀ k, b k ≤ x * 2 ^ k) (hx : 0 ≤ x) : ∀ n, -(x * 2 ^ n) ≤ tu a b n ∧ tu a b n ≤ x * 2 ^ n
  | 0 => by
    have : 0 ≤ x * 2 ^ 0 := Int.mul_nonneg hx (Int.le_of_lt (Int.pow_pos (by omega)))
    show -(x * 2 ^ 0) ≤ 0 ∧ 0 ≤ x * 2 ^ 0
    omega
  | n + 1 => by
    obtain ⟨e1, e2⟩ := jpg h0 h0' h h' hx n; have e3 := h0 n; have e4 := h n; have e5 := h0' n; have e6 := h' n; rw [Int.pow_succ, ← Int.mul_assoc]
    by_cases hp : n % 2 = 1
    · rw [jey hp]; omega
    · rw [jdw hp]; omega
structure Lim (x : Int) (a b : Nat → Int) : Prop where
  pos : ∀ k, 0 ≤ a k
  le : ∀ k, a k ≤ b k
  lim : ∀ k, b k ≤ x * 2 ^ k
theorem Lim.of {d : Nat → Int} {T x : Int} (hd : ∀ k, 0 < d (k + 1)) (hT : ∀ k, T ≤ 2 * d (k + 1)) (hT0 : 0 ≤ T) (hx : 0 ≤ x) : Lim x (sq (fun y x => x * T / d y) x) (sq (fun y x => vUp (x * T) (d y)) x) :=
  ⟨fun k => (jqo hd hT0 hx k).1, fun k => (jqo hd hT0 hx k).2, jjc hd hT hT0 hx⟩
theorem Lim.odd {x : Int} {a b : Nat → Int} (h : Lim x a b) {m : Nat → Int} (hm : ∀ k, 0 < m k) : Lim x (fun y => a y * 1 / m y) (fun y => vUp (b y * 1) (m y)) := by
  refine ⟨fun k => ?_, fun k => ?_, fun k => ?_⟩
  · exact Int.ediv_nonneg (by rw [Int.mul_one]; exact h.pos k) (Int.le_of_lt (hm k))
  · exact jg2 (hm k) (by rw [Int.mul_one, Int.mul_one]; exact h.le k)
  · refine jpe (hm k) ?_
    rw [Int.mul_one]; have e1 := h.pos k; have e2 := h.le k; have e3 := h.lim k; have e4 := hm k; have : x * 2 ^ k * 1 ≤ x * 2 ^ k * m k := Int.mul_le_mul_of_nonneg_left (by omega) (by omega)
    omega
theorem Lim.x0 {x : Int} {a b : Nat → Int} (h : Lim x a b) : 0 ≤ x := by
  have e1 := h.pos 0; have e2 := h.le 0; have e3 := h.lim 0; rw [Int.pow_zero] at e3
  omega
theorem jjd {a b : Nat} (_ : (0:Int) < 2) (h : a ≤ b) : (2 : Int) ^ a ≤ 2 ^ b := by
  obtain ⟨d, rfl⟩ := Nat.exists_eq_add_of_le h; rw [Int.pow_add]; have h1 : (0 : Int) < 2 ^ a := Int.pow_pos (by omega); have h2 : (0 : Int) < 2 ^ d := Int.pow_pos (by omega); have : (2 : Int) ^ a * 1 ≤ 2 ^ a * 2 ^ d := Int.mul_le_mul_of_nonneg_left (by omega) (by omega)
  omega
theorem jqp {n m : Nat} (h : n < 64 * m) : 2 ^ n < W ^ m := by
  rw [show W = 2 ^ 64 from rfl, ← Nat.pow_mul]; exact Nat.pow_lt_pow_right (by omega) h
theorem jb8 {x z : Int} {i a : Nat} (ha : a + i < 2560) (hx : x ≤ 2 ^ a) (h1 : -(x * 2 ^ i) ≤ z) (h2 : z ≤ x * 2 ^ i) : z.natAbs < W ^ 40 := by
  have e2 : x * 2 ^ i ≤ 2 ^ a * 2 ^ i := Int.mul_le_mul_of_nonneg_right hx (Int.le_of_lt (Int.pow_pos (by omega))); rw [← Int.pow_add] at e2
  have e3 : z.natAbs ≤ 2 ^ (a + i) := by
    have : ((z.natAbs : Nat) : Int) ≤ ((2 ^ (a + i) : Nat) : Int) := by
      rw [Int.natCast_pow]
      show ((z.natAbs : Nat) : Int) ≤ (2 : Int) ^ (a + i)
      generalize (2 : Int) ^ (a + i) = Y at *
      omega
    exact Int.ofNat_le.1 this
  exact Nat.lt_of_le_of_lt e3 (jqp (by omega))
section
variable {x : Int} {a b : Nat → Int} (h : Lim x a b) (hx : x ≤ 2 ^ 1203)
include h hx
theorem Lim.la : ∀ i, i ≤ 802 → (a i).natAbs < W ^ 40 := fun i hi => by
  have e1 := h.pos i; have e2 := h.le i; have e3 := h.lim i; exact jb8 (a := 1203) (i := i) (by omega) hx (by omega) (by omega)
theorem Lim.lb : ∀ i, i ≤ 802 → (b i).natAbs < W ^ 40 := fun i hi => by
  have e1 := h.pos i; have e2 := h.le i; have e3 := h.lim i; exact jb8 (a := 1203) (i := i) (by omega) hx (by omega) (by omega)
theorem Lim.sa : ∀ i, i ≤ 802 → (su a i).natAbs < W ^ 40 := fun i hi => by
  obtain ⟨e1, e2⟩ := jpf h.pos (fun k => Int.le_trans (h.le k) (h.lim k)) h.x0 i; exact jb8 (a := 1203) (i := i) (by omega) hx (by omega) (by omega)
theorem Lim.sb : ∀ i, i ≤ 802 → (su b i).natAbs < W ^ 40 := fun i hi => by
  obtain ⟨e1, e2⟩ := jpf (fun k => Int.le_trans (h.pos k) (h.le k)) h.lim h.x0 i; exact jb8 (a := 1203) (i := i) (by omega) hx (by omega) (by omega)
theorem Lim.ta : ∀ i, i ≤ 802 → (tu a b i).natAbs < W ^ 40 := fun i hi => by
  obtain ⟨e1, e2⟩ := jpg h.pos (fun k => Int.le_trans (h.pos k) (h.le k)) (fun k => Int.le_trans (h.le k) (h.lim k)) h.lim h.x0 i; exact jb8 (a := 1203) (i := i) (by omega) hx e1 e2
theorem Lim.tb : ∀ i, i ≤ 802 → (tu b a i).natAbs < W ^ 40 := fun i hi => by
  obtain ⟨e1, e2⟩ := jpg (fun k => Int.le_trans (h.pos k) (h.le k)) h.pos h.lim (fun k => Int.le_trans (h.le k) (h.lim k)) h.x0 i; exact jb8 (a := 1203) (i := i) (by omega) hx e1 e2
end
theorem two_pow_pos (q : Int) : (0 : Int) < 2 ^ q.toNat := Int.pow_pos (by omega)
def dExp (q : Int) (y : Nat) : Int := (y : Int) * 2 ^ q.toNat
def dPow (q : Int) (y : Nat) : Int := 1 * 2 ^ (2 * q).toNat
def dSin (q : Int) (y : Nat) : Int := (2 * (y : Int) * (2 * (y : Int) + 1)) * 2 ^ (2 * q).toNat
def dCos (q : Int) (y : Nat) : Int := ((2 * (y : Int) - 1) * 2 * (y : Int)) * 2 ^ (2 * q).toNat
theorem jph (q : Int) (k : Nat) : 2 ^ (2 * q).toNat ≤ dPow q (k + 1) := by unfold dPow; omega
theorem jun {q : Int} (hq : 0 ≤ q) : (2 : Int) ^ (2 * q).toNat = 2 ^ q.toNat * 2 ^ q.toNat := by
  rw [show (2 * q).toNat = q.toNat + q.toNat by omega, Int.pow_add]
theorem jqq {t q y : Int} (hq : 0 ≤ q) (h0 : 0 ≤ t) (h : t * 2 ≤ y * 2 ^ q.toNat) : 4 * (t * t) ≤ y * y * 2 ^ (2 * q).toNat := by
  rw [jun hq]; have e1 : t * 2 * (t * 2) ≤ y * 2 ^ q.toNat * (y * 2 ^ q.toNat) := Int.mul_le_mul h h (by omega) (by omega)
  have e2 : t * 2 * (t * 2) = 4 * (t * t) := by
    calc t * 2 * (t * 2) = t * t * (2 * 2) := by ac_rfl
      _ = 4 * (t * t) := by omega
  have e3 : y * 2 ^ q.toNat * (y * 2 ^ q.toNat) = y * y * (2 ^ q.toNat * 2 ^ q.toNat) := by ac_rfl
  omega
def rA (d : Nat → Int) (T x : Int) : Nat → Int := sq (fun y x => x * T / d y) x
def rB (d : Nat → Int) (T x : Int) : Nat → Int := sq (fun y x => vUp (x * T) (d y)) x
def oA (a : Nat → Int) (y : Nat) : Int := a y * 1 / ((2 * (y : Int) + 1) * 2 ^ (0 : Int).toNat)
def oB (b : Nat → Int) (y : Nat) : Int := vUp (b y * 1) ((2 * (y : Int) + 1) * 2 ^ (0 : Int).toNat)
theorem js3 (y : Nat) : 0 < (2 * (y : Int) + 1) * 2 ^ (0 : Int).toNat := Int.mul_pos (by omega) (by decide)
section
variable {t q : Int} (hq : 0 ≤ q) (h0 : 0 ≤ t)
include h0
include hq
theorem jh1 (h : t * 2 ≤ 1 * 2 ^ q.toNat) : Lim t (rA (dPow q) (t * t) t) (rB (dPow q) (t * t) t) := by
  have hp := two_pow_pos (2 * q); have hb := jqq hq h0 h; have h1 : 0 ≤ t * t := Int.mul_nonneg h0 h0; refine Lim.of (fun k => ?_) (fun k => ?_) h1 h0
  · have := jph q k; omega
  · have := jph q k; omega
theorem jd1 (h : t * 2 ≤ 1 * 2 ^ q.toNat) : Lim t (oA (rA (dPow q) (t * t) t)) (oB (rB (dPow q) (t * t) t)) :=
  (jh1 hq h0 h).odd js3
end
theorem jvh {q : Int} (hq1 : q ≤ 1200) : (2 : Int) ^ q.toNat ≤ 2 ^ 1200 := jjd (by omega) (by omega)
theorem jl4 {t q y : Int} (hq1 : q ≤ 1200) (hy : y ≤ 4) (h : t * 2 ≤ y * 2 ^ q.toNat) : t ≤ 2 ^ 1203 := by
  have e1 := jvh hq1; have hp := two_pow_pos q; have e2 : y * 2 ^ q.toNat ≤ 4 * 2 ^ q.toNat := Int.mul_le_mul_of_nonneg_right hy (by omega); have e3 : (2 : Int) ^ 1203 = 2 ^ 1200 * 8 := Int.pow_add 2 1200 3; rw [e3]
  generalize (2 : Int) ^ 1200 = Y at *
  omega
end
end
end
end Go.Proofs.YtgbpnpemigddeaaGreat
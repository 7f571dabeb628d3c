/- hairlineref02: Of, Abs, DivMod, floor, Up. hairlineref02.Up; hairlineref05: floor, both, Add, Sub. -/
import Derived.Test.YtdglddpigeamaaaGreatDm
import Derived.Test.YtdglddpigeamaaaGreatZrs
import Derived.Test.YtdglddpigeamaaaGreatZe
import Derived.Test.YtdglddpigeamaaaGreatRb1
import Derived.Test.YtdglddpigeamaaaGreatFree
import Derived.Test.YtdglddpigeamaaaGreatBa7
set_option linter.unusedVariables false
set_option linter.unusedSimpArgs false
namespace Go.Proofs.YtdglddpigeamaaaGreat
section
section
open Go.RowKit
open L (val dig nth)
theorem jln (w : World) (n : Bool) (B : Nat) (v : Value) (l : List Nat) (h : Nums w B v l) (hl : l.length ≤ 100000) :
    Calls Tryz.prog 136 #[.agg #[.bool n, v]] w fun e w' => Below w.heap.size w w' ∧ RetZ w.heap.size ((val W l : Nat) : Int) e w' := by
  have h0 := h; obtain ⟨A, cap, rfl, -, -, -, hc⟩ := h; obtain ⟨W0, hW, hbx, hrs, hB0, hs⟩ := jcl w 24 24 (.bool n) (.slice A l.length cap) (.bool false) (.slice none 0 0); have h1 := h0.up hB0; have hs2 : w.heap.size + 1 < W0.heap.size := by omega
  clear hs hc; obtain ⟨c0, c1, -, -⟩ := hbx.two; obtain ⟨z, HZ⟩ : ∃ z, Hid (((val W l : Nat) : Int) = z) := ⟨_, hide rfl⟩; have HP := jaz W0 false B _ l h1 hl; rw [show ival false (val W l) = ((val W l : Nat) : Int) from rfl, HZ.out] at HP; rw [HZ.out]
  go_enter Tryz.func136, Tryz.ntmps136
  go_upto_region 1 with (fail)
  rw [← hW]; clear hW
  go_wp2_with fail
  refine HP.mono ?_; rintro e w1 ⟨hb1, u, d, rfl, hu, hd⟩; obtain ⟨A1, cap1, rfl⟩ := hu.form; have hrs1 := hrs.below hb1 hrs.lt; obtain ⟨g0, g1, g2, g3⟩ := hrs1.two; have s1 := hb1.size
  go_wp2_with fail
  refine bodyPost_ret (jaa rfl _ _ _ _ _ _ rfl ((hrs1.set_ 0 _).set_ 1 _)) rfl ⟨below2 (hB0.trans (hb1.mono (by omega))) (by omega) _ _, ?_⟩; exact retZ2 (by omega) hs2 hu hd _ _
theorem jpn {w : World} {k k' : Nat} {n m : Bool} {A A' : Option Addr} {len cap len' cap' : Nat} {z y : Int} (h : Q w k n A len cap z) (h' : Q w k' m A' len' cap' y) (hk : k ≤ 60000) (hk' : k' ≤ 60000) :
    Calls Tryz.prog 51 #[.agg #[.bool n, .slice A len cap], .agg #[.bool m, .slice A' len' cap']] w fun e w' => Below w.heap.size w w' ∧ RetZ w.heap.size (z + y) e w' := by
  obtain ⟨d, h1, h2, rfl⟩ := h; obtain ⟨d', h1', h2', rfl⟩ := h'; exact jhq w n m 0 0 _ _ d d' h1 h1' (by omega) (by omega)
theorem jy6 {w : World} {k : Nat} {n : Bool} {A : Option Addr} {len cap : Nat} {z : Int} (h : Q w k n A len cap z) (hk : k ≤ 100000) :
    Calls Tryz.prog 136 #[.agg #[.bool n, .slice A len cap]] w fun e w' => Below w.heap.size w w' ∧ RetZ w.heap.size ((z.natAbs : Nat) : Int) e w' := by
  obtain ⟨d, h1, h2, rfl⟩ := h; rw [jat]; exact jln w n 0 _ d h1 (by omega)
theorem jfk (w : World) (n : Int) (hn0 : 0 ≤ n) (hn1 : n ≤ 9223372036854775807) :
    Calls Tryz.prog 45 #[.int .i64 n] w fun e w' => Below w.heap.size w w' ∧ RetZ w.heap.size n e w' := by
  obtain ⟨W0, hW, hrs, hB0, hs⟩ := start1 w 24 #[.bool false, .slice none 0 0]; have e1 : IntKind.u64.wrap n = ((n.natAbs : Nat) : Int) := by rw [IntKind.wrap_u64]; omega
  have E2 : Hid (n = ((n.natAbs : Nat) : Int)) := hide (by omega); have hw : n.natAbs < W := by unfold W; omega
  have hs2 : w.heap.size + 1 ≤ W0.heap.size := by omega
  have hng : ¬ n < 0 := by omega
  have HNG := hide hng; clear e1 hs hng
  go_enter Tryz.func45, Tryz.ntmps45
  go_upto_region 1 with (fail)
  rw [← hW]; clear hW
  go_wp2_with fail
  refine (jaz _ false 0 _ [n.natAbs] (Nums.one W0 _ _ E2.out hw) (by simp)).mono ?_; rintro e w1 ⟨hb1, u, d, rfl, hu, hd⟩; obtain ⟨A1, cap1, rfl⟩ := hu.form; have ba : Below W0.heap.size W0 (W0.alloc (.cells #[.int .u64 n] 36)) := (Below.refl _ _).alloc (Nat.le_refl _) _; have sa := ba.size; have hrs1 := (hrs.below ba hrs.lt).below hb1 (by have := hrs.lt; omega); obtain ⟨g0, g1, g2, g3⟩ := hrs1.two; have s1 := hb1.size
  go_wp2_with fail
  refine bodyPost_ret (jaa rfl _ _ _ _ _ _ rfl ((hrs1.set_ 0 _).set_ 1 _)) rfl ⟨below2 ((hB0.trans (ba.mono (by omega))).trans (hb1.mono (by omega))) (by omega) _ _, ?_⟩; have hv : ival false (val W [n.natAbs]) = n := by rw [show val W [n.natAbs] = n.natAbs by simp [L.val]]; exact E2.out.symm
  rw [hv] at hd ⊢; exact retZ2 (by omega) (by omega) hu hd _ _
theorem ji2 {w : World} {B k k' : Nat} {n m : Bool} {A A' : Option Addr} {l c l' c' : Nat} {x y : Int} (h : QB w B k n A l c x) (h' : QB w B k' m A' l' c' y) : RetZZ B x y (.returned (.tuple #[.agg #[.bool n, .slice A l c], .agg #[.bool m, .slice A' l' c'], .bool true])) w := by
  obtain ⟨d, h1, h2, h3, rfl⟩ := h; obtain ⟨d', h1', h2', h3', rfl⟩ := h'; exact ⟨_, d, _, d', rfl, h1, h3, h1', h3'⟩
set_option maxHeartbeats 4000000 in
set_option maxRecDepth 100000 in
theorem jhw (w : World) (n m : Bool) (B C : Nat) (v u : Value) (l k : List Nat) (h : Nums w B v l) (hk : Nums w C u k) {K : Nat} (hK : K ≤ 30000) (hl : l.length ≤ K) (hkl : k.length ≤ K) (h0 : val W k ≠ 0) :
    Calls Tryz.prog 86 #[.agg #[.bool n, v], .agg #[.bool m, u]] w fun e w' => Below w.heap.size w w' ∧ RetZZ w.heap.size (ival n (val W l) / ival m (val W k)) (ival n (val W l) % ival m (val W k)) e w' := by
  obtain ⟨A, cap, hv⟩ := h.form; obtain ⟨A', cap', hu⟩ := hk.form; subst hv hu; obtain ⟨W0, hW, ha, hb, hr1, hr2, hB0, hs⟩ := start4 w 24 24 24 24 #[.bool n, .slice A l.length cap] #[.bool m, .slice A' k.length cap'] #[.bool false, .slice none 0 0] #[.bool false, .slice none 0 0]; have HB := hide hB0; have hsz : w.heap.size + 4 ≤ W0.heap.size := by omega
  have h1 := h.up hB0; have k1 := hk.up hB0; clear hs hB0; obtain ⟨z, HZ⟩ : ∃ z, Hid (ival n (val W l) = z) := ⟨_, hide rfl⟩; obtain ⟨y, HY⟩ : ∃ z, Hid (ival m (val W k) = z) := ⟨_, hide rfl⟩; have hzl : z.natAbs = val W l := by rw [← HZ.out, jat]
  have hyl : y.natAbs = val W k := by rw [← HY.out, jat]
  have hy0 : y ≠ 0 := by omega
  have HLZ : Hid (z.natAbs < W ^ K) := hide (by rw [hzl]; exact Nat.lt_of_lt_of_le (L.val_lt l h.lt) (Nat.pow_le_pow_right jay hl)); have HLY : Hid (y.natAbs < W ^ K) := hide (by rw [hyl]; exact Nat.lt_of_lt_of_le (L.val_lt k hk.lt) (Nat.pow_le_pow_right jay hkl)); have HN1 := hide (jbo W0 n B _ l h1 (by omega)); rw [HZ.out] at HN1; obtain ⟨q, HQ⟩ : ∃ t, Hid (z / y = t) := ⟨_, hide rfl⟩; obtain ⟨r, HR⟩ : ∃ t, Hid (z % y = t) := ⟨_, hide rfl⟩; rw [HZ.out, HY.out, HQ.out, HR.out]; obtain ⟨a0, a1, a2, a3⟩ := ha.two
  go_enter Tryz.func86, Tryz.ntmps86
  go_upto_region 1 with (fail)
  rw [← hW]; clear hW
  go_wp2_with fail
  refine HN1.out.mono ?_; rintro e w1 ⟨vb, u1, d1, rfl, hu1, hd1⟩; obtain ⟨C1, cc1, rfl⟩ := hu1.form; clear HN1 a0 a1 a2 a3; have ha := ha.below vb ha.lt; have hb := hb.below vb hb.lt; have hr1 := hr1.below vb hr1.lt; have hr2 := hr2.below vb hr2.lt; have k2 := k1.below vb; have HB := hide (HB.out.trans (vb.mono HB.out.size)); have q1 := (RetZ.qb hu1 hd1 HLZ.out).mono hsz; have hsz := Nat.le_trans hsz vb.size; clear vb hu1 hd1; obtain ⟨a0, a1, a2, a3⟩ := ha.two; obtain ⟨b0, b1, b2, b3⟩ := hb.two; have hx2 := ji3 ha (ji4 _ _ _ _) (.bool (decide (z < 0))) (.slice C1 d1.length cc1)
  go_upto_region 2 with (fail)
  obtain ⟨w2, hW, ha, kg, -, ks, kb⟩ := jct ha (.bool (decide (z < 0))) (.slice C1 d1.length cc1); rw [← hW]; rw [← hW] at hx2; clear hW a0 a1 a2 a3 b0 b1 b2 b3; have hb := kg _ _ _ (by omega) hb; have hr1 := kg _ _ _ (by omega) hr1; have hr2 := kg _ _ _ (by omega) hr2; have q1 := q1.ext hx2; have k2 := k2.ext hx2; have HB := hide (kb _ _ HB.out (by omega)); have hsz := Nat.le_trans hsz (Nat.le_of_eq ks.symm); clear kg ks kb hx2; have HN2 := hide (jbo w2 m C _ k k2 (by omega)); rw [HY.out] at HN2; obtain ⟨b0, b1, b2, b3⟩ := hb.two
  go_wp2_with fail
  refine HN2.out.mono ?_; rintro e w3 ⟨vb, u2, d2, rfl, hu2, hd2⟩; obtain ⟨C2, cc2, rfl⟩ := hu2.form; clear HN2 b0 b1 b2 b3 k2; have ha := ha.below vb ha.lt; have hb := hb.below vb hb.lt; have hr1 := hr1.below vb hr1.lt; have hr2 := hr2.below vb hr2.lt; have q1 := q1.below vb; have HB := hide (HB.out.trans (vb.mono HB.out.size)); have q2 := (RetZ.qb hu2 hd2 HLY.out).mono hsz; have hsz := Nat.le_trans hsz vb.size; clear vb hu2 hd2; obtain ⟨b0, b1, b2, b3⟩ := hb.two; have hx2 := ji3 hb (ji4 _ _ _ _) (.bool (decide (y < 0))) (.slice C2 d2.length cc2)
  go_upto_region 3 with (fail)
  obtain ⟨w4, hW, hb, kg, -, ks, kb⟩ := jct hb (.bool (decide (y < 0))) (.slice C2 d2.length cc2); rw [← hW]; rw [← hW] at hx2; clear hW b0 b1 b2 b3; have ha := kg _ _ _ (by omega) ha; have hr1 := kg _ _ _ (by omega) hr1; have hr2 := kg _ _ _ (by omega) hr2; have q1 := q1.ext hx2; have q2 := q2.ext hx2; have HB := hide (kb _ _ HB.out (by omega)); have hsz := Nat.le_trans hsz (Nat.le_of_eq ks.symm); clear kg ks kb hx2
  -- the magnitudes
  obtain ⟨e1, g1, g2, g3, -⟩ := q1; obtain ⟨e2, f1, f2, f3, -⟩ := q2; have hv1 := g3.val; have hv2 := f3.val; have HD := hide (jix w4 _ _ _ _ e1 e2 g1 f1 (by omega) (by omega) (by rw [hv2]; omega)); rw [hv1, hv2] at HD; obtain ⟨M, HM⟩ : ∃ t, Hid (z.natAbs / y.natAbs = t) := ⟨_, hide rfl⟩; obtain ⟨R, HRM⟩ : ∃ t, Hid (z.natAbs % y.natAbs = t) := ⟨_, hide rfl⟩; obtain ⟨q0, HQ0⟩ : ∃ t, Hid (ival (decide (z < 0) != decide (y < 0)) M = t) := ⟨_, hide rfl⟩; obtain ⟨r0, HR0⟩ : ∃ t, Hid (ival (decide (z < 0)) R = t) := ⟨_, hide rfl⟩; have HML : Hid (M < W ^ K) := hide (Nat.lt_of_le_of_lt (by rw [← HM.out]; exact Nat.div_le_self _ _) HLZ.out); have HRL : Hid (R < W ^ K) := hide (Nat.lt_of_lt_of_le (by rw [← HRM.out]; exact Nat.mod_lt _ (by omega)) (Nat.le_of_lt HLY.out)); have HLQ0 : Hid (q0.natAbs < W ^ K) := hide (by rw [← HQ0.out, jat]; exact HML.out); have HLR0 : Hid (r0.natAbs < W ^ K) := hide (by rw [← HR0.out, jat]; exact HRL.out)
  have HC1 : Hid (r0 < 0 → r0 + (y.natAbs : Int) = r ∧ (y < 0 → q0 + 1 = q) ∧ (¬ y < 0 → q0 - 1 = q)) := hide (fun hneg => by
    have hz : z < 0 := by
      rcases Int.lt_or_le z 0 with h | h
      · exact h
      · rw [← HR0.out, decide_eq_false (by omega)] at hneg
        simp [ival] at hneg
        omega
    have hR : 0 < R := by
      rw [← HR0.out] at hneg
      rcases Nat.eq_zero_or_pos R with h | h
      · rw [h] at hneg; simp [ival] at hneg
      · exact h
    have h1 := jk9 (decide (y < 0)) z.natAbs y.natAbs (by omega) (by rw [HRM.out]; exact hR); have hzz : ival true z.natAbs = z := by simp [ival]; omega
    rw [hzz, jaj, HQ.out, HR.out, HM.out, HRM.out] at h1; have hRl : R < y.natAbs := by rw [← HRM.out]; exact Nat.mod_lt _ (by omega)
    rw [← HR0.out, ← HQ0.out, h1.1, h1.2, decide_eq_true hz]; refine ⟨by simp [ival]; omega, fun hy => ?_, fun hy => ?_⟩
    · rw [decide_eq_true hy]; simp [ival]
    · rw [decide_eq_false hy]; simp [ival]; omega)
  have HC2 : Hid (¬ r0 < 0 → q0 = q ∧ r0 = r) := hide (fun hneg => by
    have h1 := jim (decide (z < 0)) (decide (y < 0)) z.natAbs y.natAbs (by omega) (by
      rintro ⟨h2, h3⟩; rw [HRM.out] at h3; rw [← HR0.out, h2] at hneg; simp [ival] at hneg
      omega)
    rw [jaj, jaj, HQ.out, HR.out, HM.out, HRM.out] at h1; rw [← HQ0.out, ← HR0.out, h1.1, h1.2]; refine ⟨rfl, ?_⟩
    rcases Int.lt_or_le z 0 with h | h
    · rw [decide_eq_true h]
      rw [← HR0.out, decide_eq_true h] at hneg; simp [ival] at hneg ⊢
      omega
    · rw [decide_eq_false (by omega)]; rfl)
  rw [HM.out, HRM.out] at HD; have K1 := hide g1; have K2 := hide f1; have hq2 : QB w4 (w.heap.size + 4) K (decide (y < 0)) C2 d2.length cc2 y := ⟨e2, f1, f2, f3, rfl⟩; clear g1 g2 g3 f1 f2 f3 hv1 hv2; obtain ⟨a0, a1, -, -⟩ := ha.two; obtain ⟨b0, b1, -, -⟩ := hb.two
  go_wp2_with fail
  refine HD.out.mono ?_; rintro e w5 ⟨vb, u3, d3, u4, d4, rfl, hu3, hd3, hu4, hd4⟩; obtain ⟨C3, cc3, rfl⟩ := hu3.form; obtain ⟨C4, cc4, rfl⟩ := hu4.form; clear HD a0 a1 b0 b1; have ha := ha.below vb ha.lt; have hb := hb.below vb hb.lt; have hr1 := hr1.below vb hr1.lt; have hr2 := hr2.below vb hr2.lt; have hq2 := hq2.below vb; have HB := hide (HB.out.trans (vb.mono HB.out.size)); have hl3 : d3.length ≤ K := (hd3.len).2 HML.out; have hl4 : d4.length ≤ K := (hd4.len).2 HRL.out; have HV3 := hide hd3.val; have HV4 := hide hd4.val; have hsz := Nat.le_trans hsz vb.size; clear vb hd3 hd4; obtain ⟨a0, a1, -, -⟩ := ha.two; obtain ⟨b0, b1, -, -⟩ := hb.two
  go_upto_region 6 with (fail)
  have hq0' : ival (!(decide (z < 0) == decide (y < 0))) M = q0 := HQ0.out; have HK1 := hide (jaz w5 (!(decide (z < 0) == decide (y < 0))) _ _ d3 hu3 (by omega)); rw [HV3.out, hq0'] at HK1; clear hq0'
  go_wp2_with fail
  refine HK1.out.mono ?_; rintro e w6 ⟨vb, u5, d5, rfl, hu5, hd5⟩; obtain ⟨C5, cc5, rfl⟩ := hu5.form; clear HK1 a0 a1 b0 b1; have ha := ha.below vb ha.lt; have hb := hb.below vb hb.lt; have hr1 := hr1.below vb hr1.lt; have hr2 := hr2.below vb hr2.lt; have hq2 := hq2.below vb; have hu4 := hu4.below vb; have HB := hide (HB.out.trans (vb.mono HB.out.size)); have qq := (RetZ.qb hu5 hd5 HLQ0.out).mono (show w.heap.size + 4 ≤ _ from hsz); have hsz := Nat.le_trans hsz vb.size; clear vb hu5 hd5 hu3; obtain ⟨w7, hW, hx, vb, hs⟩ := start1 w6 24 #[.bool (decide (q0 < 0)), .slice C5 d5.length cc5]; have ha := ha.below vb ha.lt; have hb := hb.below vb hb.lt; have hr1 := hr1.below vb hr1.lt; have hr2 := hr2.below vb hr2.lt; have hq2 := hq2.below vb; have hu4 := hu4.below vb; have qq := qq.below vb; have hgx : w.heap.size + 4 ≤ w6.heap.size := hsz; have HB := hide (HB.out.trans (vb.mono HB.out.size)); have hsz := Nat.le_trans hsz vb.size; clear vb hs; obtain ⟨a0, a1, -, -⟩ := ha.two; obtain ⟨b0, b1, -, -⟩ := hb.two
  go_upto_region 7 with (fail)
  rw [← hW]; clear hW; have HK2 := hide (jaz w7 (decide (z < 0)) _ _ d4 hu4 (by omega)); rw [HV4.out, HR0.out] at HK2
  go_wp2_with fail
  refine HK2.out.mono ?_; rintro e w8 ⟨vb, u6, d6, rfl, hu6, hd6⟩; obtain ⟨C6, cc6, rfl⟩ := hu6.form; clear HK2 a0 a1 b0 b1; have hb := hb.below vb hb.lt; have hr1 := hr1.below vb hr1.lt; have hr2 := hr2.below vb hr2.lt; have hx := hx.below vb hx.lt; have hq2 := hq2.below vb; have qq := qq.below vb; have HB := hide (HB.out.trans (vb.mono HB.out.size)); have qr := (RetZ.qb hu6 hd6 HLR0.out).mono (show w.heap.size + 4 ≤ _ from hsz); have hxlt := hx.lt; have hsz := Nat.le_trans hsz vb.size; clear vb hu6 hd6 hu4; obtain ⟨w9, hW, hy, vb, hs⟩ := start1 w8 24 #[.bool (decide (r0 < 0)), .slice C6 d6.length cc6]; have hb := hb.below vb hb.lt; have hr1 := hr1.below vb hr1.lt; have hr2 := hr2.below vb hr2.lt; have hx := hx.below vb hx.lt; have hq2 := hq2.below vb; have qq := qq.below vb; have qr := qr.below vb; have hgy : w.heap.size + 4 ≤ w8.heap.size := hsz; have HB := hide (HB.out.trans (vb.mono HB.out.size)); have hsz := Nat.le_trans hsz vb.size; clear vb hs ha; obtain ⟨y0, y1, -, -⟩ := hy.two; have hneyx : ¬ w8.heap.size = w6.heap.size := by omega
  have hnexy : ¬ w6.heap.size = w8.heap.size := by omega
  go_upto_region 8 with (fail)
  rw [← hW]; clear hW
  by_cases hneg : r0 < 0
  · obtain ⟨m1, m2, m3⟩ := HC1.out hneg
    have HNEG : Hid (decide (r0 < 0) = true) := hide (decide_eq_true hneg); rw [HNEG.out] at hy y0 qr; have M1 := hide m1; have M2 := hide m2; have M3 := hide m3
    go_upto_region 9 with (fail)
    clear y0 y1 hneg m1 m2 m3; have HLR1 : Hid (r.natAbs < W ^ (K + 1)) := hide (by rw [← M1.out]; exact ji5 HLR0.out (by rw [Int.natAbs_natCast]; exact HLY.out)); have ONE : Hid ((1 : Int).natAbs < W ^ K) := hide (Nat.lt_of_le_of_lt (show (1 : Int).natAbs ≤ y.natAbs by omega) HLY.out); refine F2.region [.o, .o, .o, .o, .so (w8.heap.size) 24 #[.bool true, .slice C6 d6.length cc6]] [Fact.eq ?ca42, Fact.eq ?ca43, Fact.int w9.heap.size K ((y.natAbs : Nat) : Int), Fact.int (w.heap.size + 4) (K + 1) r, Fact.int (w.heap.size + 4) (K + 1) r] [42, 43, 44, 45] [42, 43, 44, 45, 0] (by kernel_rfl) ?soa ?sopa (by kernel_rfl) ?sta ?fina
    case soa => exact List.forall_mem_cons.2 ⟨⟨hy, NoU.two (by intro x h; cases h) (by intro x h; cases h)⟩, fun x hx => by cases hx⟩
    case sopa => exact List.Pairwise.cons (fun y hy => by cases hy) (List.Pairwise.nil)
    case sta =>
      refine F2.Steps.consO rfl ?_ ?_
      · intro vz wz hBz hDz hTz K hK
        have hyz := hTz 4 _ _ _ _ rfl rfl (by kernel_rfl); obtain ⟨hyzc0, hyzc1, -⟩ := hyz.two; replace hK := hK.out; simp only [actv, fill, Act.put, F2.fc, List.getD_cons_zero, List.getD_cons_succ, List.foldl_cons, List.foldl_nil, List.setIfInBounds_toArray, List.set_cons_succ, List.set_cons_zero] at hK; apply Kept.mk; simp only [F2.Wp, actv, fill, List.foldl_cons, List.foldl_nil, List.setIfInBounds_toArray, List.set_cons_succ, List.set_cons_zero]; go_simp; refine hK _ wz (Below.refl _ _) (Fact.eq_mk ?_); with_reducible rfl
      refine F2.Steps.consO rfl ?_ ?_
      · intro vz wz hBz hDz hTz K hK
        have hbz := hBz.blk hb.drew (by simp [F2.olds] <;> omega); obtain ⟨hbzc0, hbzc1, -⟩ := hbz.two; replace hK := hK.out; simp only [actv, fill, Act.put, F2.fc, List.getD_cons_zero, List.getD_cons_succ, List.foldl_cons, List.foldl_nil, List.setIfInBounds_toArray, List.set_cons_succ, List.set_cons_zero] at hK; apply Kept.mk; simp only [F2.Wp, actv, fill, List.foldl_cons, List.foldl_nil, List.setIfInBounds_toArray, List.set_cons_succ, List.set_cons_zero]; go_simp; refine hK _ wz (Below.refl _ _) (Fact.eq_mk ?_); with_reducible rfl
      refine F2.Steps.consO rfl ?_ ?_
      · intro vz wz hBz hDz hTz K hK
        have E43 : vz 43 = _ := hDz 1 (by kernel_rfl) rfl; have HW := jam hBz.ext; replace hK := hK.out; simp only [actv, fill, Act.put, F2.fc, List.getD_cons_zero, List.getD_cons_succ, List.foldl_cons, List.foldl_nil, List.setIfInBounds_toArray, List.set_cons_succ, List.set_cons_zero] at hK; apply Kept.mk; simp only [F2.Wp, actv, fill, List.foldl_cons, List.foldl_nil, List.setIfInBounds_toArray, List.set_cons_succ, List.set_cons_zero]; simp only [E43] at hK ⊢; go_simp; refine Calls.mono (jy6 (hq2.q.ext HW) (by omega)) ?_; rintro e w2z ⟨hb2, u, d, rfl, hu, hd⟩
        go_wp2_with fail
        exact hK _ w2z hb2 (intV (hu.mono (hBz.size)) hd (by rw [Int.natAbs_natCast]; exact HLY.out))
      refine F2.Steps.consO rfl ?_ ?_
      · intro vz wz hBz hDz hTz K hK
        have E42 : vz 42 = _ := hDz 0 (by kernel_rfl) rfl; obtain ⟨n44_, A44_, l44_, c44_, E44, q44⟩ : IntV _ _ _ wz (vz 44) := hDz 2 (by kernel_rfl) rfl; have HW := jam hBz.ext; replace hK := hK.out; simp only [actv, fill, Act.put, F2.fc, List.getD_cons_zero, List.getD_cons_succ, List.foldl_cons, List.foldl_nil, List.setIfInBounds_toArray, List.set_cons_succ, List.set_cons_zero] at hK; apply Kept.mk; simp only [F2.Wp, actv, fill, List.foldl_cons, List.foldl_nil, List.setIfInBounds_toArray, List.set_cons_succ, List.set_cons_zero]; simp only [E42, E44] at hK ⊢; go_simp; refine Calls.mono (M1.out ▸ jpn (qr.q.ext HW) q44.q (by omega) (by omega)) ?_; rintro e w2z ⟨hb2, u, d, rfl, hu, hd⟩
        go_wp2_with fail
        exact hK _ w2z hb2 (intV (hu.mono (Nat.le_trans (Nat.le_trans hsz hBz.size) (Nat.le_refl _))) hd HLR1.out)
      refine F2.Steps.consT rfl ?_ ?_
      · intro vz wz hBz hDz hbz K hK
        obtain ⟨zc0, zc1, zc2, zc3⟩ := hbz.two; obtain ⟨n45_, A45_, l45_, c45_, E45, q45⟩ : IntV _ _ _ wz (vz 45) := hDz 3 (by kernel_rfl) rfl; replace hK := hK.out; simp only [actv, fill, Act.put, F2.fc, List.getD_cons_zero, List.getD_cons_succ, List.foldl_cons, List.foldl_nil, List.setIfInBounds_toArray, List.set_cons_succ, List.set_cons_zero] at hK; apply Kept.mk; simp only [F2.Wp, actv, fill, List.foldl_cons, List.foldl_nil, List.setIfInBounds_toArray, List.set_cons_succ, List.set_cons_zero]; simp only [E45] at hK ⊢; go_simp; exact hK _ ((Far.set _ _ 0 _).trans (Far.set _ _ 1 _)) ⟨_, jac hbz, NoU.two (by intro x h; cases h) (by intro x h; cases h), ⟨_, _, _, _, rfl, q45⟩⟩
      exact F2.Steps.nil
    case fina =>
      intro vz wa hBz ⟨hOz, hAz, hNz, hSz⟩; have E42 : vz 42 = _ := hOz 0 (by decide) rfl; have E43 : vz 43 = _ := hOz 1 (by decide) rfl; obtain ⟨n44_, A44_, l44_, c44_, E44, q44⟩ : IntV _ _ _ wa (vz 44) := hOz 2 (by decide) rfl; obtain ⟨n45_, A45_, l45_, c45_, E45, q45⟩ : IntV _ _ _ wa (vz 45) := hOz 3 (by decide) rfl; obtain ⟨cs11, hb11, hs11⟩ := hSz 4 _ _ _ (by decide) rfl; obtain ⟨n11_, A11_, l11_, c11_, e11_, q11⟩ : IntV _ _ _ wa (.agg cs11) := hs11; injection e11_ with e11_
      subst e11_; simp only [actv, fill, List.foldl_cons, List.foldl_nil, List.setIfInBounds_toArray, List.set_cons_succ, List.set_cons_zero]; simp only [E42, E43, E44, E45]; clear hOz hAz hNz hSz; clear hy; have hE := hBz.ext; have hB9 := hBz.below (B := w.heap.size) (by omega) (fun g hg => by simp [F2.olds] at hg; omega); have HB := hide (HB.out.trans hB9); have hsz := Nat.le_trans hsz hBz.size; have hb := hBz.blk hb (by simp [F2.olds] <;> omega); have hr1 := hBz.blk hr1 (by simp [F2.olds] <;> omega); have hr2 := hBz.blk hr2 (by simp [F2.olds] <;> omega); have hx := hBz.blk hx (by simp [F2.olds] <;> omega); have qq := qq.ext hE; have hq2 := hq2.ext hE; clear hBz hE hB9; have hy := hb11; have qr := q11; clear hb11 q11; obtain ⟨b0, b1, -, -⟩ := hb.two
      by_cases hyn : y < 0
      · replace M2 := hide (M2.out hyn)
        have HYN : Hid (decide (y < 0) = true) := hide (decide_eq_true hyn); rw [HYN.out] at b0; clear hyn
        go_upto_region 11 with (fail)
        have HLQ1 : Hid (q.natAbs < W ^ (K + 1)) := hide (by rw [← M2.out]; exact ji5 HLQ0.out ONE.out); refine F2.region [.o, .o, .o, .so (w6.heap.size) 24 #[.bool (decide (q0 < 0)), .slice C5 d5.length cc5]] [Fact.eq ?cb48, Fact.int 0 1 1, Fact.int (w.heap.size + 4) (K + 1) q, Fact.int (w.heap.size + 4) (K + 1) q] [48, 49, 50] [48, 49, 50, 0] (by kernel_rfl) ?sob ?sopb (by kernel_rfl) ?stb ?finb
        case sob => exact List.forall_mem_cons.2 ⟨⟨hx, NoU.two (by intro x h; cases h) (by intro x h; cases h)⟩, fun x hx => by cases hx⟩
        case sopb => exact List.Pairwise.cons (fun y hy => by cases hy) (List.Pairwise.nil)
        case stb =>
          refine F2.Steps.consO rfl ?_ ?_
          · intro vz wz hBz hDz hTz K hK
            have hxz := hTz 3 _ _ _ _ rfl rfl (by kernel_rfl); obtain ⟨hxzc0, hxzc1, -⟩ := hxz.two; replace hK := hK.out; simp only [actv, fill, Act.put, F2.fc, List.getD_cons_zero, List.getD_cons_succ, List.foldl_cons, List.foldl_nil, List.setIfInBounds_toArray, List.set_cons_succ, List.set_cons_zero] at hK; apply Kept.mk; simp only [F2.Wp, actv, fill, List.foldl_cons, List.foldl_nil, List.setIfInBounds_toArray, List.set_cons_succ, List.set_cons_zero]; go_simp; refine hK _ wz (Below.refl _ _) (Fact.eq_mk ?_); with_reducible rfl
          refine F2.Steps.consO rfl ?_ ?_
          · intro vz wz hBz hDz hTz K hK
            have HW := jam hBz.ext; replace hK := hK.out; simp only [actv, fill, Act.put, F2.fc, List.getD_cons_zero, List.getD_cons_succ, List.foldl_cons, List.foldl_nil, List.setIfInBounds_toArray, List.set_cons_succ, List.set_cons_zero] at hK; apply Kept.mk; simp only [F2.Wp, actv, fill, List.foldl_cons, List.foldl_nil, List.setIfInBounds_toArray, List.set_cons_succ, List.set_cons_zero]; go_simp; refine Calls.mono (jfk _ 1 (by omega) (by omega)) ?_; rintro e w2z ⟨hb2, u, d, rfl, hu, hd⟩
            go_wp2_with fail
            exact hK _ w2z hb2 (intV (hu.mono (Nat.zero_le _)) hd (by rw [Nat.pow_one]; unfold W; omega))
          refine F2.Steps.consO rfl ?_ ?_
          · intro vz wz hBz hDz hTz K hK
            have E48 : vz 48 = _ := hDz 0 (by kernel_rfl) rfl; obtain ⟨n49_, A49_, l49_, c49_, E49, q49⟩ : IntV _ _ _ wz (vz 49) := hDz 1 (by kernel_rfl) rfl; have HW := jam hBz.ext; replace hK := hK.out; simp only [actv, fill, Act.put, F2.fc, List.getD_cons_zero, List.getD_cons_succ, List.foldl_cons, List.foldl_nil, List.setIfInBounds_toArray, List.set_cons_succ, List.set_cons_zero] at hK; apply Kept.mk; simp only [F2.Wp, actv, fill, List.foldl_cons, List.foldl_nil, List.setIfInBounds_toArray, List.set_cons_succ, List.set_cons_zero]; simp only [E48, E49] at hK ⊢; go_simp; refine Calls.mono (M2.out ▸ jpn (qq.q.ext HW) q49.q (by omega) (by omega)) ?_; rintro e w2z ⟨hb2, u, d, rfl, hu, hd⟩
            go_wp2_with fail
            exact hK _ w2z hb2 (intV (hu.mono (Nat.le_trans hsz hBz.size)) hd HLQ1.out)
          refine F2.Steps.consT rfl ?_ ?_
          · intro vz wz hBz hDz hbz K hK
            obtain ⟨zc0, zc1, zc2, zc3⟩ := hbz.two; obtain ⟨n50_, A50_, l50_, c50_, E50, q50⟩ : IntV _ _ _ wz (vz 50) := hDz 2 (by kernel_rfl) rfl; replace hK := hK.out; simp only [actv, fill, Act.put, F2.fc, List.getD_cons_zero, List.getD_cons_succ, List.foldl_cons, List.foldl_nil, List.setIfInBounds_toArray, List.set_cons_succ, List.set_cons_zero] at hK; apply Kept.mk; simp only [F2.Wp, actv, fill, List.foldl_cons, List.foldl_nil, List.setIfInBounds_toArray, List.set_cons_succ, List.set_cons_zero]; simp only [E50] at hK ⊢; go_simp; exact hK _ ((Far.set _ _ 0 _).trans (Far.set _ _ 1 _)) ⟨_, jac hbz, NoU.two (by intro x h; cases h) (by intro x h; cases h), ⟨_, _, _, _, rfl, q50⟩⟩
          exact F2.Steps.nil
        case finb =>
          intro vz wb hBz ⟨hOz, hAz, hNz, hSz⟩; have E48 : vz 48 = _ := hOz 0 (by decide) rfl; obtain ⟨n49_, A49_, l49_, c49_, E49, q49⟩ : IntV _ _ _ wb (vz 49) := hOz 1 (by decide) rfl; obtain ⟨n50_, A50_, l50_, c50_, E50, q50⟩ : IntV _ _ _ wb (vz 50) := hOz 2 (by decide) rfl; obtain ⟨cs10, hb10, hs10⟩ := hSz 3 _ _ _ (by decide) rfl; obtain ⟨n10_, A10_, l10_, c10_, e10_, q10⟩ : IntV _ _ _ wb (.agg cs10) := hs10; injection e10_ with e10_
          subst e10_; simp only [actv, fill, List.foldl_cons, List.foldl_nil, List.setIfInBounds_toArray, List.set_cons_succ, List.set_cons_zero]; simp only [E48, E49, E50]; clear hOz hAz hNz hSz; clear hx; have hE := hBz.ext; have hB9 := hBz.below (B := w.heap.size) (by omega) (fun g hg => by simp [F2.olds] at hg; omega); have HB := hide (HB.out.trans hB9); have hsz := Nat.le_trans hsz hBz.size; have hr1 := hBz.blk hr1 (by simp [F2.olds] <;> omega); have hr2 := hBz.blk hr2 (by simp [F2.olds] <;> omega); have hy := hBz.blk hy (by simp [F2.olds] <;> omega); have qr := qr.ext hE; clear hBz hE hB9; have hx := hb10; have qq := q10
          go_upto_region 13 with (fail)
          refine F2.region [.o, .o, .so (w.heap.size + 2) 24 #[.bool false, .slice none 0 0], .so (w.heap.size + 3) 24 #[.bool false, .slice none 0 0], .o] [Fact.eq ?cd54, Fact.eq ?cd55, Fact.int (w.heap.size + 4) (K + 1) q, Fact.int (w.heap.size + 4) (K + 1) r, Fact.eq ?cd6] [54, 55, 6] [54, 55, 0, 0, 6] (by kernel_rfl) ?sod ?sopd (by kernel_rfl) ?std ?find
          case sod => exact List.forall_mem_cons.2 ⟨⟨hr1, NoU.two (by intro x h; cases h) (by intro x h; cases h)⟩, List.forall_mem_cons.2 ⟨⟨hr2, NoU.two (by intro x h; cases h) (by intro x h; cases h)⟩, fun x hx => by cases hx⟩⟩
          case sopd => exact List.Pairwise.cons (by intro y hy; simp [F2.sos] at hy; first | (subst hy; simp; done) | (subst hy; simp; omega) | (rcases hy with rfl | rfl <;> simp <;> omega)) (List.Pairwise.cons (fun y hy => by cases hy) (List.Pairwise.nil))
          case std =>
            refine F2.Steps.consO rfl ?_ ?_
            · intro vz wz hBz hDz hTz K hK
              have hxz := hBz.blk hx.drew (by simp [F2.olds] <;> omega); obtain ⟨hxzc0, hxzc1, -⟩ := hxz.two; replace hK := hK.out; simp only [actv, fill, Act.put, F2.fc, List.getD_cons_zero, List.getD_cons_succ, List.foldl_cons, List.foldl_nil, List.setIfInBounds_toArray, List.set_cons_succ, List.set_cons_zero] at hK; apply Kept.mk; simp only [F2.Wp, actv, fill, List.foldl_cons, List.foldl_nil, List.setIfInBounds_toArray, List.set_cons_succ, List.set_cons_zero]; go_simp; refine hK _ wz (Below.refl _ _) (Fact.eq_mk ?_); with_reducible rfl
            refine F2.Steps.consO rfl ?_ ?_
            · intro vz wz hBz hDz hTz K hK
              have hyz := hBz.blk hy.drew (by simp [F2.olds] <;> omega); obtain ⟨hyzc0, hyzc1, -⟩ := hyz.two; replace hK := hK.out; simp only [actv, fill, Act.put, F2.fc, List.getD_cons_zero, List.getD_cons_succ, List.foldl_cons, List.foldl_nil, List.setIfInBounds_toArray, List.set_cons_succ, List.set_cons_zero] at hK; apply Kept.mk; simp only [F2.Wp, actv, fill, List.foldl_cons, List.foldl_nil, List.setIfInBounds_toArray, List.set_cons_succ, List.set_cons_zero]; go_simp; refine hK _ wz (Below.refl _ _) (Fact.eq_mk ?_); with_reducible rfl
            refine F2.Steps.consT rfl ?_ ?_
            · intro vz wz hBz hDz hbz K hK
              obtain ⟨zc0, zc1, zc2, zc3⟩ := hbz.two; have E54 : vz 54 = _ := hDz 0 (by kernel_rfl) rfl; replace hK := hK.out; simp only [actv, fill, Act.put, F2.fc, List.getD_cons_zero, List.getD_cons_succ, List.foldl_cons, List.foldl_nil, List.setIfInBounds_toArray, List.set_cons_succ, List.set_cons_zero] at hK; apply Kept.mk; simp only [F2.Wp, actv, fill, List.foldl_cons, List.foldl_nil, List.setIfInBounds_toArray, List.set_cons_succ, List.set_cons_zero]; simp only [E54] at hK ⊢; go_simp; exact hK _ ((Far.set _ _ 0 _).trans (Far.set _ _ 1 _)) ⟨_, jac hbz, NoU.two (by intro x h; cases h) (by intro x h; cases h), ⟨_, _, _, _, rfl, qq.ext (jam hBz.ext)⟩⟩
            refine F2.Steps.consT rfl ?_ ?_
            · intro vz wz hBz hDz hbz K hK
              obtain ⟨zc0, zc1, zc2, zc3⟩ := hbz.two; have E55 : vz 55 = _ := hDz 1 (by kernel_rfl) rfl; replace hK := hK.out; simp only [actv, fill, Act.put, F2.fc, List.getD_cons_zero, List.getD_cons_succ, List.foldl_cons, List.foldl_nil, List.setIfInBounds_toArray, List.set_cons_succ, List.set_cons_zero] at hK; apply Kept.mk; simp only [F2.Wp, actv, fill, List.foldl_cons, List.foldl_nil, List.setIfInBounds_toArray, List.set_cons_succ, List.set_cons_zero]; simp only [E55] at hK ⊢; go_simp; exact hK _ ((Far.set _ _ 0 _).trans (Far.set _ _ 1 _)) ⟨_, jac hbz, NoU.two (by intro x h; cases h) (by intro x h; cases h), ⟨_, _, _, _, rfl, qr.ext (jam hBz.ext)⟩⟩
            refine F2.Steps.consO rfl ?_ ?_
            · intro vz wz hBz hDz hTz K hK
              replace hK := hK.out; simp only [actv, fill, Act.put, F2.fc, List.getD_cons_zero, List.getD_cons_succ, List.foldl_cons, List.foldl_nil, List.setIfInBounds_toArray, List.set_cons_succ, List.set_cons_zero] at hK; apply Kept.mk; simp only [F2.Wp, actv, fill, List.foldl_cons, List.foldl_nil, List.setIfInBounds_toArray, List.set_cons_succ, List.set_cons_zero]; go_simp; refine hK _ wz (Below.refl _ _) (Fact.eq_mk ?_); with_reducible rfl
            exact F2.Steps.nil
          case find =>
            intro vz wf hBz ⟨hOz, hAz, hNz, hSz⟩; have E54 : vz 54 = _ := hOz 0 (by decide) rfl; have E55 : vz 55 = _ := hOz 1 (by decide) rfl; obtain ⟨cs4, hb4, hs4⟩ := hSz 2 _ _ _ (by decide) rfl; obtain ⟨n4_, A4_, l4_, c4_, e4_, q4⟩ : IntV _ _ _ wf (.agg cs4) := hs4; injection e4_ with e4_
            subst e4_; obtain ⟨cs5, hb5, hs5⟩ := hSz 3 _ _ _ (by decide) rfl; obtain ⟨n5_, A5_, l5_, c5_, e5_, q5⟩ : IntV _ _ _ wf (.agg cs5) := hs5; injection e5_ with e5_
            subst e5_; have E6 : vz 6 = _ := hOz 4 (by decide) rfl; simp only [actv, fill, List.foldl_cons, List.foldl_nil, List.setIfInBounds_toArray, List.set_cons_succ, List.set_cons_zero]; simp only [E54, E55, E6]; clear hOz hAz hNz hSz; have hB9 := hBz.below (B := w.heap.size) (by omega) (fun g hg => by simp [F2.olds] at hg; omega); have HB := hide (HB.out.trans hB9); clear hB9 hBz hx hy hr1 hr2 qq qr
            go_wp2_with fail
            exact bodyPost_ret (jae rfl _ _ _ _ _ _ _ _ _ _ rfl hb4 rfl hb5) rfl ⟨HB.out, ji2 (q4.mono (by omega)) (q5.mono (by omega))⟩
      · replace M2 := hide (M3.out (by omega))
        have HYN : Hid (decide (y < 0) = false) := hide (decide_eq_false hyn); rw [HYN.out] at b0; clear hyn
        go_upto_region 12 with (fail)
        have HLQ1 : Hid (q.natAbs < W ^ (K + 1)) := hide (by rw [← M2.out]; exact jpw HLQ0.out ONE.out); refine F2.region [.o, .o, .o, .so (w6.heap.size) 24 #[.bool (decide (q0 < 0)), .slice C5 d5.length cc5]] [Fact.eq ?cc51, Fact.int 0 1 1, Fact.int (w.heap.size + 4) (K + 1) q, Fact.int (w.heap.size + 4) (K + 1) q] [51, 52, 53] [51, 52, 53, 0] (by kernel_rfl) ?soc ?sopc (by kernel_rfl) ?stc ?finc
        case soc => exact List.forall_mem_cons.2 ⟨⟨hx, NoU.two (by intro x h; cases h) (by intro x h; cases h)⟩, fun x hx => by cases hx⟩
        case sopc => exact List.Pairwise.cons (fun y hy => by cases hy) (List.Pairwise.nil)
        case stc =>
          refine F2.Steps.consO rfl ?_ ?_
          · intro vz wz hBz hDz hTz K hK
            have hxz := hTz 3 _ _ _ _ rfl rfl (by kernel_rfl); obtain ⟨hxzc0, hxzc1, -⟩ := hxz.two; replace hK := hK.out; simp only [actv, fill, Act.put, F2.fc, List.getD_cons_zero, List.getD_cons_succ, List.foldl_cons, List.foldl_nil, List.setIfInBounds_toArray, List.set_cons_succ, List.set_cons_zero] at hK; apply Kept.mk; simp only [F2.Wp, actv, fill, List.foldl_cons, List.foldl_nil, List.setIfInBounds_toArray, List.set_cons_succ, List.set_cons_zero]; go_simp; refine hK _ wz (Below.refl _ _) (Fact.eq_mk ?_); with_reducible rfl
          refine F2.Steps.consO rfl ?_ ?_
          · intro vz wz hBz hDz hTz K hK
            have HW := jam hBz.ext; replace hK := hK.out; simp only [actv, fill, Act.put, F2.fc, List.getD_cons_zero, List.getD_cons_succ, List.foldl_cons, List.foldl_nil, List.setIfInBounds_toArray, List.set_cons_succ, List.set_cons_zero] at hK; apply Kept.mk; simp only [F2.Wp, actv, fill, List.foldl_cons, List.foldl_nil, List.setIfInBounds_toArray, List.set_cons_succ, List.set_cons_zero]; go_simp; refine Calls.mono (jfk _ 1 (by omega) (by omega)) ?_; rintro e w2z ⟨hb2, u, d, rfl, hu, hd⟩
            go_wp2_with fail
            exact hK _ w2z hb2 (intV (hu.mono (Nat.zero_le _)) hd (by rw [Nat.pow_one]; unfold W; omega))
          refine F2.Steps.consO rfl ?_ ?_
          · intro vz wz hBz hDz hTz K hK
            have E51 : vz 51 = _ := hDz 0 (by kernel_rfl) rfl; obtain ⟨n52_, A52_, l52_, c52_, E52, q52⟩ : IntV _ _ _ wz (vz 52) := hDz 1 (by kernel_rfl) rfl; have HW := jam hBz.ext; replace hK := hK.out; simp only [actv, fill, Act.put, F2.fc, List.getD_cons_zero, List.getD_cons_succ, List.foldl_cons, List.foldl_nil, List.setIfInBounds_toArray, List.set_cons_succ, List.set_cons_zero] at hK; apply Kept.mk; simp only [F2.Wp, actv, fill, List.foldl_cons, List.foldl_nil, List.setIfInBounds_toArray, List.set_cons_succ, List.set_cons_zero]; simp only [E51, E52] at hK ⊢; go_simp; refine Calls.mono (M2.out ▸ jqg (qq.q.ext HW) q52.q (by omega) (by omega)) ?_; rintro e w2z ⟨hb2, u, d, rfl, hu, hd⟩
            go_wp2_with fail
            exact hK _ w2z hb2 (intV (hu.mono (Nat.le_trans hsz hBz.size)) hd HLQ1.out)
          refine F2.Steps.consT rfl ?_ ?_
          · intro vz wz hBz hDz hbz K hK
            obtain ⟨zc0, zc1, zc2, zc3⟩ := hbz.two; obtain ⟨n53_, A53_, l53_, c53_, E53, q53⟩ : IntV _ _ _ wz (vz 53) := hDz 2 (by kernel_rfl) rfl; replace hK := hK.out; simp only [actv, fill, Act.put, F2.fc, List.getD_cons_zero, List.getD_cons_succ, List.foldl_cons, List.foldl_nil, List.setIfInBounds_toArray, List.set_cons_succ, List.set_cons_zero] at hK; apply Kept.mk; simp only [F2.Wp, actv, fill, List.foldl_cons, List.foldl_nil, List.setIfInBounds_toArray, List.set_cons_succ, List.set_cons_zero]; simp only [E53] at hK ⊢; go_simp; exact hK _ ((Far.set _ _ 0 _).trans (Far.set _ _ 1 _)) ⟨_, jac hbz, NoU.two (by intro x h; cases h) (by intro x h; cases h), ⟨_, _, _, _, rfl, q53⟩⟩
          exact F2.Steps.nil
        case finc =>
          intro vz wb hBz ⟨hOz, hAz, hNz, hSz⟩; have E51 : vz 51 = _ := hOz 0 (by decide) rfl; obtain ⟨n52_, A52_, l52_, c52_, E52, q52⟩ : IntV _ _ _ wb (vz 52) := hOz 1 (by decide) rfl; obtain ⟨n53_, A53_, l53_, c53_, E53, q53⟩ : IntV _ _ _ wb (vz 53) := hOz 2 (by decide) rfl; obtain ⟨cs10, hb10, hs10⟩ := hSz 3 _ _ _ (by decide) rfl; obtain ⟨n10_, A10_, l10_, c10_, e10_, q10⟩ : IntV _ _ _ wb (.agg cs10) := hs10; injection e10_ with e10_
          subst e10_; simp only [actv, fill, List.foldl_cons, List.foldl_nil, List.setIfInBounds_toArray, List.set_cons_succ, List.set_cons_zero]; simp only [E51, E52, E53]; clear hOz hAz hNz hSz; clear hx; have hE := hBz.ext; have hB9 := hBz.below (B := w.heap.size) (by omega) (fun g hg => by simp [F2.olds] at hg; omega); have HB := hide (HB.out.trans hB9); have hsz := Nat.le_trans hsz hBz.size; have hr1 := hBz.blk hr1 (by simp [F2.olds] <;> omega); have hr2 := hBz.blk hr2 (by simp [F2.olds] <;> omega); have hy := hBz.blk hy (by simp [F2.olds] <;> omega); have qr := qr.ext hE; clear hBz hE hB9; have hx := hb10; have qq := q10
          go_upto_region 13 with (fail)
          refine F2.region [.o, .o, .so (w.heap.size + 2) 24 #[.bool false, .slice none 0 0], .so (w.heap.size + 3) 24 #[.bool false, .slice none 0 0], .o] [Fact.eq ?ce54, Fact.eq ?ce55, Fact.int (w.heap.size + 4) (K + 1) q, Fact.int (w.heap.size + 4) (K + 1) r, Fact.eq ?ce6] [54, 55, 6] [54, 55, 0, 0, 6] (by kernel_rfl) ?soe ?sope (by kernel_rfl) ?ste ?fine
          case soe => exact List.forall_mem_cons.2 ⟨⟨hr1, NoU.two (by intro x h; cases h) (by intro x h; cases h)⟩, List.forall_mem_cons.2 ⟨⟨hr2, NoU.two (by intro x h; cases h) (by intro x h; cases h)⟩, fun x hx => by cases hx⟩⟩
          case sope => exact List.Pairwise.cons (by intro y hy; simp [F2.sos] at hy; first | (subst hy; simp; done) | (subst hy; simp; omega) | (rcases hy with rfl | rfl <;> simp <;> omega)) (List.Pairwise.cons (fun y hy => by cases hy) (List.Pairwise.nil))
          case ste =>
            refine F2.Steps.consO rfl ?_ ?_
            · intro vz wz hBz hDz hTz K hK
              have hxz := hBz.blk hx.drew (by simp [F2.olds] <;> omega); obtain ⟨hxzc0, hxzc1, -⟩ := hxz.two; replace hK := hK.out; simp only [actv, fill, Act.put, F2.fc, List.getD_cons_zero, List.getD_cons_succ, List.foldl_cons, List.foldl_nil, List.setIfInBounds_toArray, List.set_cons_succ, List.set_cons_zero] at hK; apply Kept.mk; simp only [F2.Wp, actv, fill, List.foldl_cons, List.foldl_nil, List.setIfInBounds_toArray, List.set_cons_succ, List.set_cons_zero]; go_simp; refine hK _ wz (Below.refl _ _) (Fact.eq_mk ?_); with_reducible rfl
            refine F2.Steps.consO rfl ?_ ?_
            · intro vz wz hBz hDz hTz K hK
              have hyz := hBz.blk hy.drew (by simp [F2.olds] <;> omega); obtain ⟨hyzc0, hyzc1, -⟩ := hyz.two; replace hK := hK.out; simp only [actv, fill, Act.put, F2.fc, List.getD_cons_zero, List.getD_cons_succ, List.foldl_cons, List.foldl_nil, List.setIfInBounds_toArray, List.set_cons_succ, List.set_cons_zero] at hK; apply Kept.mk; simp only [F2.Wp, actv, fill, List.foldl_cons, List.foldl_nil, List.setIfInBounds_toArray, List.set_cons_succ, List.set_cons_zero]; go_simp; refine hK _ wz (Below.refl _ _) (Fact.eq_mk ?_); with_reducible rfl
            refine F2.Steps.consT rfl ?_ ?_
            · intro vz wz hBz hDz hbz K hK
              obtain ⟨zc0, zc1, zc2, zc3⟩ := hbz.two; have E54 : vz 54 = _ := hDz 0 (by kernel_rfl) rfl; replace hK := hK.out; simp only [actv, fill, Act.put, F2.fc, List.getD_cons_zero, List.getD_cons_succ, List.foldl_cons, List.foldl_nil, List.setIfInBounds_toArray, List.set_cons_succ, List.set_cons_zero] at hK; apply Kept.mk; simp only [F2.Wp, actv, fill, List.foldl_cons, List.foldl_nil, List.setIfInBounds_toArray, List.set_cons_succ, List.set_cons_zero]; simp only [E54] at hK ⊢; go_simp; exact hK _ ((Far.set _ _ 0 _).trans (Far.set _ _ 1 _)) ⟨_, jac hbz, NoU.two (by intro x h; cases h) (by intro x h; cases h), ⟨_, _, _, _, rfl, qq.ext (jam hBz.ext)⟩⟩
            refine F2.Steps.consT rfl ?_ ?_
            · intro vz wz hBz hDz hbz K hK
              obtain ⟨zc0, zc1, zc2, zc3⟩ := hbz.two; have E55 : vz 55 = _ := hDz 1 (by kernel_rfl) rfl; replace hK := hK.out; simp only [actv, fill, Act.put, F2.fc, List.getD_cons_zero, List.getD_cons_succ, List.foldl_cons, List.foldl_nil, List.setIfInBounds_toArray, List.set_cons_succ, List.set_cons_zero] at hK; apply Kept.mk; simp only [F2.Wp, actv, fill, List.foldl_cons, List.foldl_nil, List.setIfInBounds_toArray, List.set_cons_succ, List.set_cons_zero]; simp only [E55] at hK ⊢; go_simp; exact hK _ ((Far.set _ _ 0 _).trans (Far.set _ _ 1 _)) ⟨_, jac hbz, NoU.two (by intro x h; cases h) (by intro x h; cases h), ⟨_, _, _, _, rfl, qr.ext (jam hBz.ext)⟩⟩
            refine F2.Steps.consO rfl ?_ ?_
            · intro vz wz hBz hDz hTz K hK
              replace hK := hK.out; simp only [actv, fill, Act.put, F2.fc, List.getD_cons_zero, List.getD_cons_succ, List.foldl_cons, List.foldl_nil, List.setIfInBounds_toArray, List.set_cons_succ, List.set_cons_zero] at hK; apply Kept.mk; simp only [F2.Wp, actv, fill, List.foldl_cons, List.foldl_nil, List.setIfInBounds_toArray, List.set_cons_succ, List.set_cons_zero]; go_simp; refine hK _ wz (Below.refl _ _) (Fact.eq_mk ?_); with_reducible rfl
            exact F2.Steps.nil
          case fine =>
            intro vz wf hBz ⟨hOz, hAz, hNz, hSz⟩; have E54 : vz 54 = _ := hOz 0 (by decide) rfl; have E55 : vz 55 = _ := hOz 1 (by decide) rfl; obtain ⟨cs4, hb4, hs4⟩ := hSz 2 _ _ _ (by decide) rfl; obtain ⟨n4_, A4_, l4_, c4_, e4_, q4⟩ : IntV _ _ _ wf (.agg cs4) := hs4; injection e4_ with e4_
            subst e4_; obtain ⟨cs5, hb5, hs5⟩ := hSz 3 _ _ _ (by decide) rfl; obtain ⟨n5_, A5_, l5_, c5_, e5_, q5⟩ : IntV _ _ _ wf (.agg cs5) := hs5; injection e5_ with e5_
            subst e5_; have E6 : vz 6 = _ := hOz 4 (by decide) rfl; simp only [actv, fill, List.foldl_cons, List.foldl_nil, List.setIfInBounds_toArray, List.set_cons_succ, List.set_cons_zero]; simp only [E54, E55, E6]; clear hOz hAz hNz hSz; have hB9 := hBz.below (B := w.heap.size) (by omega) (fun g hg => by simp [F2.olds] at hg; omega); have HB := hide (HB.out.trans hB9); clear hB9 hBz hx hy hr1 hr2 qq qr
            go_wp2_with fail
            exact bodyPost_ret (jae rfl _ _ _ _ _ _ _ _ _ _ rfl hb4 rfl hb5) rfl ⟨HB.out, ji2 (q4.mono (by omega)) (q5.mono (by omega))⟩
  · obtain ⟨m1, m2⟩ := HC2.out (by omega)
    rw [m1] at qq hx; rw [m2] at qr hy y0 hneg; have HNEG : Hid (decide (r < 0) = false) := hide (decide_eq_false hneg); rw [HNEG.out] at y0; have M1 := hide m1; have M2 := hide m2; clear m1 m2 hneg
    go_upto_region 13 with (fail)
    refine F2.region [.o, .o, .so (w.heap.size + 2) 24 #[.bool false, .slice none 0 0], .so (w.heap.size + 3) 24 #[.bool false, .slice none 0 0], .o] [Fact.eq ?cg54, Fact.eq ?cg55, Fact.int (w.heap.size + 4) K q, Fact.int (w.heap.size + 4) K r, Fact.eq ?cg6] [54, 55, 6] [54, 55, 0, 0, 6] (by kernel_rfl) ?sog ?sopg (by kernel_rfl) ?stg ?fing
    case sog => exact List.forall_mem_cons.2 ⟨⟨hr1, NoU.two (by intro x h; cases h) (by intro x h; cases h)⟩, List.forall_mem_cons.2 ⟨⟨hr2, NoU.two (by intro x h; cases h) (by intro x h; cases h)⟩, fun x hx => by cases hx⟩⟩
    case sopg => exact List.Pairwise.cons (by intro y hy; simp [F2.sos] at hy; first | (subst hy; simp; done) | (subst hy; simp; omega) | (rcases hy with rfl | rfl <;> simp <;> omega)) (List.Pairwise.cons (fun y hy => by cases hy) (List.Pairwise.nil))
    case stg =>
      refine F2.Steps.consO rfl ?_ ?_
      · intro vz wz hBz hDz hTz K hK
        have hxz := hBz.blk hx.drew (by simp [F2.olds] <;> omega); obtain ⟨hxzc0, hxzc1, -⟩ := hxz.two; replace hK := hK.out; simp only [actv, fill, Act.put, F2.fc, List.getD_cons_zero, List.getD_cons_succ, List.foldl_cons, List.foldl_nil, List.setIfInBounds_toArray, List.set_cons_succ, List.set_cons_zero] at hK; apply Kept.mk; simp only [F2.Wp, actv, fill, List.foldl_cons, List.foldl_nil, List.setIfInBounds_toArray, List.set_cons_succ, List.set_cons_zero]; go_simp; refine hK _ wz (Below.refl _ _) (Fact.eq_mk ?_); with_reducible rfl
      refine F2.Steps.consO rfl ?_ ?_
      · intro vz wz hBz hDz hTz K hK
        have hyz := hBz.blk hy.drew (by simp [F2.olds] <;> omega); obtain ⟨hyzc0, hyzc1, -⟩ := hyz.two; replace hK := hK.out; simp only [actv, fill, Act.put, F2.fc, List.getD_cons_zero, List.getD_cons_succ, List.foldl_cons, List.foldl_nil, List.setIfInBounds_toArray, List.set_cons_succ, List.set_cons_zero] at hK; apply Kept.mk; simp only [F2.Wp, actv, fill, List.foldl_cons, List.foldl_nil, List.setIfInBounds_toArray, List.set_cons_succ, List.set_cons_zero]; go_simp; refine hK _ wz (Below.refl _ _) (Fact.eq_mk ?_); with_reducible rfl
      refine F2.Steps.consT rfl ?_ ?_
      · intro vz wz hBz hDz hbz K hK
        obtain ⟨zc0, zc1, zc2, zc3⟩ := hbz.two; have E54 : vz 54 = _ := hDz 0 (by kernel_rfl) rfl; replace hK := hK.out; simp only [actv, fill, Act.put, F2.fc, List.getD_cons_zero, List.getD_cons_succ, List.foldl_cons, List.foldl_nil, List.setIfInBounds_toArray, List.set_cons_succ, List.set_cons_zero] at hK; apply Kept.mk; simp only [F2.Wp, actv, fill, List.foldl_cons, List.foldl_nil, List.setIfInBounds_toArray, List.set_cons_succ, List.set_cons_zero]; simp only [E54] at hK ⊢; go_simp; exact hK _ ((Far.set _ _ 0 _).trans (Far.set _ _ 1 _)) ⟨_, jac hbz, NoU.two (by intro x h; cases h) (by intro x h; cases h), ⟨_, _, _, _, rfl, qq.ext (jam hBz.ext)⟩⟩
      refine F2.Steps.consT rfl ?_ ?_
      · intro vz wz hBz hDz hbz K hK
        obtain ⟨zc0, zc1, zc2, zc3⟩ := hbz.two; have E55 : vz 55 = _ := hDz 1 (by kernel_rfl) rfl; replace hK := hK.out; simp only [actv, fill, Act.put, F2.fc, List.getD_cons_zero, List.getD_cons_succ, List.foldl_cons, List.foldl_nil, List.setIfInBounds_toArray, List.set_cons_succ, List.set_cons_zero] at hK; apply Kept.mk; simp only [F2.Wp, actv, fill, List.foldl_cons, List.foldl_nil, List.setIfInBounds_toArray, List.set_cons_succ, List.set_cons_zero]; simp only [E55] at hK ⊢; go_simp; exact hK _ ((Far.set _ _ 0 _).trans (Far.set _ _ 1 _)) ⟨_, jac hbz, NoU.two (by intro x h; cases h) (by intro x h; cases h), ⟨_, _, _, _, rfl, qr.ext (jam hBz.ext)⟩⟩
      refine F2.Steps.consO rfl ?_ ?_
      · intro vz wz hBz hDz hTz K hK
        replace hK := hK.out; simp only [actv, fill, Act.put, F2.fc, List.getD_cons_zero, List.getD_cons_succ, List.foldl_cons, List.foldl_nil, List.setIfInBounds_toArray, List.set_cons_succ, List.set_cons_zero] at hK; apply Kept.mk; simp only [F2.Wp, actv, fill, List.foldl_cons, List.foldl_nil, List.setIfInBounds_toArray, List.set_cons_succ, List.set_cons_zero]; go_simp; refine hK _ wz (Below.refl _ _) (Fact.eq_mk ?_); with_reducible rfl
      exact F2.Steps.nil
    case fing =>
      intro vz wf hBz ⟨hOz, hAz, hNz, hSz⟩; have E54 : vz 54 = _ := hOz 0 (by decide) rfl; have E55 : vz 55 = _ := hOz 1 (by decide) rfl; obtain ⟨cs4, hb4, hs4⟩ := hSz 2 _ _ _ (by decide) rfl; obtain ⟨n4_, A4_, l4_, c4_, e4_, q4⟩ : IntV _ _ _ wf (.agg cs4) := hs4; injection e4_ with e4_
      subst e4_; obtain ⟨cs5, hb5, hs5⟩ := hSz 3 _ _ _ (by decide) rfl; obtain ⟨n5_, A5_, l5_, c5_, e5_, q5⟩ : IntV _ _ _ wf (.agg cs5) := hs5; injection e5_ with e5_
      subst e5_; have E6 : vz 6 = _ := hOz 4 (by decide) rfl; simp only [actv, fill, List.foldl_cons, List.foldl_nil, List.setIfInBounds_toArray, List.set_cons_succ, List.set_cons_zero]; simp only [E54, E55, E6]; clear hOz hAz hNz hSz; have hB9 := hBz.below (B := w.heap.size) (by omega) (fun g hg => by simp [F2.olds] at hg; omega); have HB := hide (HB.out.trans hB9); clear hB9 hBz hx hy hr1 hr2 qq qr
      go_wp2_with fail
      exact bodyPost_ret (jae rfl _ _ _ _ _ _ _ _ _ _ rfl hb4 rfl hb5) rfl ⟨HB.out, ji2 (q4.mono (by omega)) (q5.mono (by omega))⟩
theorem QB.low2' {w W2 : World} {B k : Nat} {n : Bool} {A : Option Addr} {len cap : Nat} {z : Int} (h : QB w B k n A len cap z) {r : Nat} {x y : Value} (hW : W2 = (w.setCell ⟨r, 0, none⟩ x).setCell ⟨r, 1, none⟩ y) (hr : r < B) : QB W2 B k n A len cap z := by
  rw [hW]; exact h.low2 hr x y
theorem jpo {w : World} {B k : Nat} {n : Bool} {A : Option Addr} {len cap : Nat} {z : Int} (h : QB w B k n A len cap z) : RetZ B z (.returned (.agg #[.bool n, .slice A len cap])) w := by
  obtain ⟨d, h1, h2, h3, rfl⟩ := h; exact ⟨_, d, rfl, h1, h3⟩
theorem jgp {w : World} {k k' : Nat} {n m : Bool} {A A' : Option Addr} {len cap len' cap' : Nat} {z y : Int} (h : Q w k n A len cap z) (h' : Q w k' m A' len' cap' y) (hk : k ≤ 30000) (hk' : k' ≤ 30000) (hy : y ≠ 0) :
    Calls Tryz.prog 86 #[.agg #[.bool n, .slice A len cap], .agg #[.bool m, .slice A' len' cap']] w fun e w' => Below w.heap.size w w' ∧ RetZZ w.heap.size (z / y) (z % y) e w' := by
  obtain ⟨d, h1, h2, rfl⟩ := h; obtain ⟨d', h1', h2', rfl⟩ := h'; exact jhw w n m 0 0 _ _ d d' h1 h1' (K := max k k') (by omega) (by omega) (by omega) (fun h0 => hy (by rw [h0]; cases m <;> rfl))
set_option maxHeartbeats 2000000 in
set_option maxRecDepth 100000 in
theorem jjw {w : World} {k k' : Nat} {n m : Bool} {A A' : Option Addr} {len cap len' cap' : Nat} {z y : Int} (h : Q w k n A len cap z) (h' : Q w k' m A' len' cap' y) (hk : k ≤ 30000) (hk' : k' ≤ 30000) (hy : y ≠ 0) :
    Calls Tryz.prog 88 #[.agg #[.bool n, .slice A len cap], .agg #[.bool m, .slice A' len' cap']] w fun e w' => Below w.heap.size w w' ∧ RetZ w.heap.size (vDown z y) e w' := by
  obtain ⟨W0, hW, ha, hb, hr, hB0, hs⟩ := start3 w 24 24 24 #[.bool n, .slice A len cap] #[.bool m, .slice A' len' cap'] #[.bool false, .slice none 0 0]; have HB := hide hB0; have hsz : w.heap.size + 3 ≤ W0.heap.size := by omega
  clear hB0 hs; have HSG := hide (jm6 (h'.at_ HB) (by omega)); obtain ⟨b0, b1, -, -⟩ := hb.two; obtain ⟨sg, HS⟩ : ∃ s, Hid (y.sign = s) := ⟨_, hide rfl⟩; rw [HS.out] at HSG; obtain ⟨v, HV⟩ : ∃ v, Hid (vDown z y = v) := ⟨_, hide rfl⟩; have HL : Hid (v.natAbs < W ^ k) := hide (by rw [← HV.out]; exact jci hy h.lt); rw [HV.out]
  have hneg : decide (sg < 0) = decide (y < 0) := by
    rw [← HS.out]; exact decide_eq_decide.2 ⟨fun h => jgm h, fun h => jgl h⟩
  have HNEG := hide hneg; clear hneg; have HY0 := hide hy; clear hy
  go_enter Tryz.func88, Tryz.ntmps88
  go_upto_region 1 with (fail)
  rw [← hW]; clear hW
  go_wp2_with fail
  refine HSG.out.mono ?_; rintro e w1 ⟨vb, rfl⟩; clear HSG b0 b1; have ha := ha.below vb ha.lt; have hb := hb.below vb hb.lt; have hr := hr.below vb hr.lt; have HB := hide (HB.out.trans (vb.mono HB.out.size)); have hsz := Nat.le_trans hsz vb.size; clear vb
  by_cases hyn : y < 0
  · have HD1 : Hid (decide (sg < 0) = true) := hide (by rw [HNEG.out]; exact decide_eq_true hyn)
    have hd1 := HD1.out; obtain ⟨a0, a1, a2, a3⟩ := ha.two; have HN1 := hide (jkl (h.at_ HB) (by omega)); obtain ⟨z', HZ'⟩ : ∃ t, Hid (-z = t) := ⟨_, hide rfl⟩; obtain ⟨y', HY'⟩ : ∃ t, Hid (-y = t) := ⟨_, hide rfl⟩; have HZL : Hid (z'.natAbs < W ^ k) := hide (by rw [← HZ'.out, Int.natAbs_neg]; exact h.lt); have HYL : Hid (y'.natAbs < W ^ k') := hide (by rw [← HY'.out, Int.natAbs_neg]; exact h'.lt); have HVV : Hid (z' / y' = v) := hide (by rw [← HZ'.out, ← HY'.out, ← HV.out]; unfold vDown; rw [if_pos hyn]); have HY1 : Hid (y' ≠ 0) := hide (by have := HY0.out; have := HY'.out; omega); rw [HZ'.out] at HN1; clear hyn
    go_upto_region 2 with (fail)
    go_wp2_with fail
    refine HN1.out.mono ?_; rintro e w2 ⟨vb, u1, d1, rfl, hu1, hd1'⟩; obtain ⟨C1, cc1, rfl⟩ := hu1.form; clear HN1 a0 a1 a2 a3; have ha := ha.below vb ha.lt; have hb := hb.below vb hb.lt; have hr := hr.below vb hr.lt; have HB := hide (HB.out.trans (vb.mono HB.out.size)); have q1 := (RetZ.qb hu1 hd1' HZL.out).mono hsz; have hsz := Nat.le_trans hsz vb.size; clear vb hu1 hd1'; obtain ⟨a0, a1, a2, a3⟩ := ha.two; obtain ⟨w3, hW, ha, kg, kn, ks, kb⟩ := jct ha (.bool (decide (z' < 0))) (.slice C1 d1.length cc1)
    go_upto_region 3 with (fail)
    rw [← hW]; clear a0 a1 a2 a3; have q1 := q1.low2' hW (by omega); have hb := kg _ _ _ (by omega) hb; have hr := kg _ _ _ (by omega) hr; have HB := hide (kb _ _ HB.out (by omega)); have hsz := Nat.le_trans hsz (Nat.le_of_eq ks.symm); clear kg kn ks kb hW; have HN2 := hide (jkl (h'.at_ HB) (by omega)); rw [HY'.out] at HN2; obtain ⟨b0, b1, b2, b3⟩ := hb.two
    go_wp2_with fail
    refine HN2.out.mono ?_; rintro e w4 ⟨vb, u2, d2, rfl, hu2, hd2⟩; obtain ⟨C2, cc2, rfl⟩ := hu2.form; clear HN2 b0 b1 b2 b3; have ha := ha.below vb ha.lt; have hb := hb.below vb hb.lt; have hr := hr.below vb hr.lt; have q1 := q1.below vb; have HB := hide (HB.out.trans (vb.mono HB.out.size)); have q2 := (RetZ.qb hu2 hd2 HYL.out).mono hsz; have hsz := Nat.le_trans hsz vb.size; clear vb hu2 hd2; obtain ⟨b0, b1, b2, b3⟩ := hb.two; obtain ⟨w5, hW, hb, kg, kn, ks, kb⟩ := jct hb (.bool (decide (y' < 0))) (.slice C2 d2.length cc2)
    go_upto_region 4 with (fail)
    rw [← hW]; clear b0 b1 b2 b3; have q1 := q1.low2' hW (by omega); have q2 := q2.low2' hW (by omega); have ha := kg _ _ _ (by omega) ha; have hr := kg _ _ _ (by omega) hr; have HB := hide (kb _ _ HB.out (by omega)); have hsz := Nat.le_trans hsz (Nat.le_of_eq ks.symm); clear kg kn ks kb hW; have HD := hide (jgp q1.q q2.q (by omega) (by omega) HY1.out); rw [HVV.out] at HD; obtain ⟨a0, a1, -, -⟩ := ha.two; obtain ⟨b0, b1, -, -⟩ := hb.two; obtain ⟨rm, HRM⟩ : ∃ t, Hid (z' % y' = t) := ⟨_, hide rfl⟩; rw [HRM.out] at HD
    go_wp2_with fail
    refine HD.out.mono ?_; rintro e w6 ⟨vb, u5, d5, u6, d6, rfl, hu5, hd5, hu6, hd6⟩; obtain ⟨C5, cc5, rfl⟩ := hu5.form; obtain ⟨C6, cc6, rfl⟩ := hu6.form; clear HD a0 a1 b0 b1; have hr := hr.below vb hr.lt; have HB := hide (HB.out.trans (vb.mono HB.out.size)); have q5 := (RetZ.qb hu5 hd5 HL.out).mono hsz; have hsz := Nat.le_trans hsz vb.size; clear vb hu5 hd5 hu6 hd6; obtain ⟨w7, hW, hx, hy, vb, hs⟩ := start2 w6 24 24 #[.bool (decide (v < 0)), .slice C5 d5.length cc5] #[.bool (decide (rm < 0)), .slice C6 d6.length cc6]; have hr := hr.below vb hr.lt; have q5 := q5.below vb; have HB := hide (HB.out.trans (vb.mono HB.out.size)); have hlt6 : w.heap.size + 3 ≤ w6.heap.size := hsz; clear vb hs; obtain ⟨x0, x1, -, -⟩ := hx.two; obtain ⟨r0, r1, r2, r3⟩ := hr.two; have hn1 : ¬ w6.heap.size = w.heap.size + 2 := by omega
    have hn2 : ¬ w.heap.size + 2 = w6.heap.size := by omega
    go_upto_region 5 with (fail)
    rw [← hW]; clear hW
    go_wp2_with fail
    refine bodyPost_ret (jaa rfl _ _ _ _ _ _ rfl (jac hr)) rfl ⟨below2 HB.out (by omega) _ _, ?_⟩; exact jpo ((q5.ext (ji3 hr (ji4 _ _ _ _) _ _)).mono (by omega))
  · have HD1 : Hid (decide (sg < 0) = false) := hide (by rw [HNEG.out]; exact decide_eq_false hyn)
    have hd1 := HD1.out; have HVV : Hid (z / y = v) := hide (by rw [← HV.out]; unfold vDown; rw [if_neg hyn]); have HD := hide (jgp (h.at_ HB) (h'.at_ HB) (by omega) (by omega) HY0.out); rw [HVV.out] at HD; clear hyn
    go_upto_region 4 with (fail)
    obtain ⟨a0, a1, -, -⟩ := ha.two; obtain ⟨b0, b1, -, -⟩ := hb.two; obtain ⟨rm, HRM⟩ : ∃ t, Hid (z % y = t) := ⟨_, hide rfl⟩; rw [HRM.out] at HD
    go_wp2_with fail
    refine HD.out.mono ?_; rintro e w6 ⟨vb, u5, d5, u6, d6, rfl, hu5, hd5, hu6, hd6⟩; obtain ⟨C5, cc5, rfl⟩ := hu5.form; obtain ⟨C6, cc6, rfl⟩ := hu6.form; clear HD a0 a1 b0 b1; have hr := hr.below vb hr.lt; have HB := hide (HB.out.trans (vb.mono HB.out.size)); have q5 := (RetZ.qb hu5 hd5 HL.out).mono hsz; have hsz := Nat.le_trans hsz vb.size; clear vb hu5 hd5 hu6 hd6; obtain ⟨w7, hW, hx, hy, vb, hs⟩ := start2 w6 24 24 #[.bool (decide (v < 0)), .slice C5 d5.length cc5] #[.bool (decide (rm < 0)), .slice C6 d6.length cc6]; have hr := hr.below vb hr.lt; have q5 := q5.below vb; have HB := hide (HB.out.trans (vb.mono HB.out.size)); have hlt6 : w.heap.size + 3 ≤ w6.heap.size := hsz; clear vb hs; obtain ⟨x0, x1, -, -⟩ := hx.two; obtain ⟨r0, r1, r2, r3⟩ := hr.two; have hn1 : ¬ w6.heap.size = w.heap.size + 2 := by omega
    have hn2 : ¬ w.heap.size + 2 = w6.heap.size := by omega
    go_upto_region 5 with (fail)
    rw [← hW]; clear hW
    go_wp2_with fail
    refine bodyPost_ret (jaa rfl _ _ _ _ _ _ rfl (jac hr)) rfl ⟨below2 HB.out (by omega) _ _, ?_⟩; exact jpo ((q5.ext (ji3 hr (ji4 _ _ _ _) _ _)).mono (by omega))
end
end
section
section
open Go.RowKit
open L (val dig nth)
theorem jsj {w : World} {B k : Nat} {n : Bool} {A : Option Addr} {len cap : Nat} {z : Int} (h : QB w B k n A len cap z) : RetZT B z (.returned (.tuple #[.agg #[.bool n, .slice A len cap], .bool true])) w := by
  obtain ⟨d, h1, h2, h3, rfl⟩ := h; exact ⟨_, d, rfl, h1, h3⟩
theorem jt3 {z y : Int} {k : Nat} (hy : y ≠ 0) (hz : z.natAbs < W ^ k) : (vUp z y).natAbs < W ^ k := by
  unfold vUp; rw [Int.natAbs_neg]; exact jci hy (by rw [Int.natAbs_neg]; exact hz)
set_option maxHeartbeats 2000000 in
set_option maxRecDepth 100000 in
theorem jpp {w : World} {k k' : Nat} {n m : Bool} {A A' : Option Addr} {len cap len' cap' : Nat} {z y : Int} (h : Q w k n A len cap z) (h' : Q w k' m A' len' cap' y) (hk : k ≤ 20000) (hk' : k' ≤ 20000) (hy : y ≠ 0) :
    Calls Tryz.prog 48 #[.agg #[.bool n, .slice A len cap], .agg #[.bool m, .slice A' len' cap']] w fun e w' => Below w.heap.size w w' ∧ RetZT w.heap.size (vUp z y) e w' := by
  obtain ⟨W0, hW, ha, hb, hr, hB0, hs⟩ := start3 w 24 24 24 #[.bool n, .slice A len cap] #[.bool m, .slice A' len' cap'] #[.bool false, .slice none 0 0]; have HB := hide hB0; have hsz : w.heap.size + 3 ≤ W0.heap.size := by omega
  clear hB0 hs; have HSG := hide (jm6 (h'.at_ HB) (by omega)); obtain ⟨b0, b1, -, -⟩ := hb.two; obtain ⟨sg, HS⟩ : ∃ s, Hid (y.sign = s) := ⟨_, hide rfl⟩; rw [HS.out] at HSG; obtain ⟨z', HZ'⟩ : ∃ t, Hid (-z = t) := ⟨_, hide rfl⟩; obtain ⟨f, HF⟩ : ∃ t, Hid (vDown z' y = t) := ⟨_, hide rfl⟩; obtain ⟨v, HV⟩ : ∃ t, Hid (-f = t) := ⟨_, hide rfl⟩; have HVV : Hid (vUp z y = v) := hide (by rw [← HV.out, ← HF.out, ← HZ'.out]; rfl); rw [HVV.out]; have HLZ : Hid (z'.natAbs < W ^ k) := hide (by rw [← HZ'.out, Int.natAbs_neg]; exact h.lt); have HLF : Hid (f.natAbs < W ^ k) := hide (by rw [← HF.out]; exact jci hy HLZ.out); have HLV : Hid (v.natAbs < W ^ k) := hide (by rw [← HV.out, Int.natAbs_neg]; exact HLF.out); have hsg : (sg == 0) = false := by rw [← HS.out, beq_eq_false_iff_ne]; intro h0; exact hy (Int.sign_eq_zero_iff_zero.1 h0)
  go_enter Tryz.func48, Tryz.ntmps48
  go_upto_region 1 with (fail)
  rw [← hW]; clear hW
  go_wp2_with fail
  refine HSG.out.mono ?_; rintro e w1 ⟨vb, rfl⟩; clear HSG b0 b1; have ha := ha.below vb ha.lt; have hb := hb.below vb hb.lt; have hr := hr.below vb hr.lt; have HB := hide (HB.out.trans (vb.mono HB.out.size)); have hsz := Nat.le_trans hsz vb.size; clear vb
  go_upto_region 3 with (fail)
  have h1 := h.at_ HB; have h2 := h'.at_ HB; refine F2.region [.o, .o, .o, .o, .o, .so (w.heap.size + 2) 24 #[.bool false, .slice none 0 0], .o] [Fact.eq ?ca10, Fact.int (w.heap.size + 3) k z', Fact.eq ?ca12, Fact.int (w.heap.size + 3) k f, Fact.int (w.heap.size + 3) k v, Fact.int (w.heap.size + 3) k v, Fact.eq ?ca5] [10, 11, 12, 13, 14, 5] [10, 11, 12, 13, 14, 0, 5] (by kernel_rfl) ?soa ?sopa (by kernel_rfl) ?sta ?fina
  case soa => exact List.forall_mem_cons.2 ⟨⟨hr, NoU.two (by intro x h; cases h) (by intro x h; cases h)⟩, fun x hx => by cases hx⟩
  case sopa => exact List.Pairwise.cons (fun y hy => by cases hy) (List.Pairwise.nil)
  case sta =>
    refine F2.Steps.consO rfl ?_ ?_
    · intro vz wz hBz hDz hTz K hK
      have haz := hBz.blk ha.drew (by simp [F2.olds] <;> omega); obtain ⟨hazc0, hazc1, -⟩ := haz.two; replace hK := hK.out; simp only [actv, fill, Act.put, F2.fc, List.getD_cons_zero, List.getD_cons_succ, List.foldl_cons, List.foldl_nil, List.setIfInBounds_toArray, List.set_cons_succ, List.set_cons_zero] at hK; apply Kept.mk; simp only [F2.Wp, actv, fill, List.foldl_cons, List.foldl_nil, List.setIfInBounds_toArray, List.set_cons_succ, List.set_cons_zero]; go_simp; refine hK _ wz (Below.refl _ _) (Fact.eq_mk ?_); with_reducible rfl
    refine F2.Steps.consO rfl ?_ ?_
    · intro vz wz hBz hDz hTz K hK
      have E10 : vz 10 = _ := hDz 0 (by kernel_rfl) rfl; have HW := jam hBz.ext; replace hK := hK.out; simp only [actv, fill, Act.put, F2.fc, List.getD_cons_zero, List.getD_cons_succ, List.foldl_cons, List.foldl_nil, List.setIfInBounds_toArray, List.set_cons_succ, List.set_cons_zero] at hK; apply Kept.mk; simp only [F2.Wp, actv, fill, List.foldl_cons, List.foldl_nil, List.setIfInBounds_toArray, List.set_cons_succ, List.set_cons_zero]; simp only [E10] at hK ⊢; go_simp; refine Calls.mono (HZ'.out ▸ jkl (h1.ext HW) (by omega)) ?_; rintro e w2z ⟨hb2, u, d, rfl, hu, hd⟩
      go_wp2_with fail
      exact hK _ w2z hb2 (intV (hu.mono (Nat.le_trans hsz hBz.size)) hd HLZ.out)
    refine F2.Steps.consO rfl ?_ ?_
    · intro vz wz hBz hDz hTz K hK
      have hbz := hBz.blk hb.drew (by simp [F2.olds] <;> omega); obtain ⟨hbzc0, hbzc1, -⟩ := hbz.two; replace hK := hK.out; simp only [actv, fill, Act.put, F2.fc, List.getD_cons_zero, List.getD_cons_succ, List.foldl_cons, List.foldl_nil, List.setIfInBounds_toArray, List.set_cons_succ, List.set_cons_zero] at hK; apply Kept.mk; simp only [F2.Wp, actv, fill, List.foldl_cons, List.foldl_nil, List.setIfInBounds_toArray, List.set_cons_succ, List.set_cons_zero]; go_simp; refine hK _ wz (Below.refl _ _) (Fact.eq_mk ?_); with_reducible rfl
    refine F2.Steps.consO rfl ?_ ?_
    · intro vz wz hBz hDz hTz K hK
      obtain ⟨n11_, A11_, l11_, c11_, E11, q11⟩ : IntV _ _ _ wz (vz 11) := hDz 1 (by kernel_rfl) rfl; have E12 : vz 12 = _ := hDz 2 (by kernel_rfl) rfl; have HW := jam hBz.ext; replace hK := hK.out; simp only [actv, fill, Act.put, F2.fc, List.getD_cons_zero, List.getD_cons_succ, List.foldl_cons, List.foldl_nil, List.setIfInBounds_toArray, List.set_cons_succ, List.set_cons_zero] at hK; apply Kept.mk; simp only [F2.Wp, actv, fill, List.foldl_cons, List.foldl_nil, List.setIfInBounds_toArray, List.set_cons_succ, List.set_cons_zero]; simp only [E11, E12] at hK ⊢; go_simp; refine Calls.mono (HF.out ▸ jjw q11.q (h2.ext HW) (by omega) (by omega) hy) ?_; rintro e w2z ⟨hb2, u, d, rfl, hu, hd⟩
      go_wp2_with fail
      exact hK _ w2z hb2 (intV (hu.mono (Nat.le_trans hsz hBz.size)) hd HLF.out)
    refine F2.Steps.consO rfl ?_ ?_
    · intro vz wz hBz hDz hTz K hK
      obtain ⟨n13_, A13_, l13_, c13_, E13, q13⟩ : IntV _ _ _ wz (vz 13) := hDz 3 (by kernel_rfl) rfl; have HW := jam hBz.ext; replace hK := hK.out; simp only [actv, fill, Act.put, F2.fc, List.getD_cons_zero, List.getD_cons_succ, List.foldl_cons, List.foldl_nil, List.setIfInBounds_toArray, List.set_cons_succ, List.set_cons_zero] at hK; apply Kept.mk; simp only [F2.Wp, actv, fill, List.foldl_cons, List.foldl_nil, List.setIfInBounds_toArray, List.set_cons_succ, List.set_cons_zero]; simp only [E13] at hK ⊢; go_simp; refine Calls.mono (HV.out ▸ jkl q13.q (by omega)) ?_; rintro e w2z ⟨hb2, u, d, rfl, hu, hd⟩
      go_wp2_with fail
      exact hK _ w2z hb2 (intV (hu.mono (Nat.le_trans hsz hBz.size)) hd HLV.out)
    refine F2.Steps.consT rfl ?_ ?_
    · intro vz wz hBz hDz hbz K hK
      obtain ⟨zc0, zc1, zc2, zc3⟩ := hbz.two; obtain ⟨n14_, A14_, l14_, c14_, E14, q14⟩ : IntV _ _ _ wz (vz 14) := hDz 4 (by kernel_rfl) rfl; replace hK := hK.out; simp only [actv, fill, Act.put, F2.fc, List.getD_cons_zero, List.getD_cons_succ, List.foldl_cons, List.foldl_nil, List.setIfInBounds_toArray, List.set_cons_succ, List.set_cons_zero] at hK; apply Kept.mk; simp only [F2.Wp, actv, fill, List.foldl_cons, List.foldl_nil, List.setIfInBounds_toArray, List.set_cons_succ, List.set_cons_zero]; simp only [E14] at hK ⊢; go_simp; exact hK _ ((Far.set _ _ 0 _).trans (Far.set _ _ 1 _)) ⟨_, jac hbz, NoU.two (by intro x h; cases h) (by intro x h; cases h), ⟨_, _, _, _, rfl, q14⟩⟩
    refine F2.Steps.consO rfl ?_ ?_
    · intro vz wz hBz hDz hTz K hK
      replace hK := hK.out; simp only [actv, fill, Act.put, F2.fc, List.getD_cons_zero, List.getD_cons_succ, List.foldl_cons, List.foldl_nil, List.setIfInBounds_toArray, List.set_cons_succ, List.set_cons_zero] at hK; apply Kept.mk; simp only [F2.Wp, actv, fill, List.foldl_cons, List.foldl_nil, List.setIfInBounds_toArray, List.set_cons_succ, List.set_cons_zero]; go_simp; refine hK _ wz (Below.refl _ _) (Fact.eq_mk ?_); with_reducible rfl
    exact F2.Steps.nil
  case fina =>
    intro vz wa hBz ⟨hOz, hAz, hNz, hSz⟩; have E10 : vz 10 = _ := hOz 0 (by decide) rfl; obtain ⟨n11_, A11_, l11_, c11_, E11, q11⟩ : IntV _ _ _ wa (vz 11) := hOz 1 (by decide) rfl; have E12 : vz 12 = _ := hOz 2 (by decide) rfl; obtain ⟨n13_, A13_, l13_, c13_, E13, q13⟩ : IntV _ _ _ wa (vz 13) := hOz 3 (by decide) rfl; obtain ⟨n14_, A14_, l14_, c14_, E14, q14⟩ : IntV _ _ _ wa (vz 14) := hOz 4 (by decide) rfl; obtain ⟨cs4, hb4, hs4⟩ := hSz 5 _ _ _ (by decide) rfl; obtain ⟨n4_, A4_, l4_, c4_, e4_, q4⟩ : IntV _ _ _ wa (.agg cs4) := hs4; injection e4_ with e4_
    subst e4_; have E5 : vz 5 = _ := hOz 6 (by decide) rfl; simp only [actv, fill, List.foldl_cons, List.foldl_nil, List.setIfInBounds_toArray, List.set_cons_succ, List.set_cons_zero]; simp only [E10, E11, E12, E13, E14, E5]; clear hOz hAz hNz hSz; have hB9 := hBz.below (B := w.heap.size) (by omega) (fun g hg => by simp [F2.olds] at hg; omega); have HB := hide (HB.out.trans hB9)
    go_wp2_with fail
    exact bodyPost_ret (ja1 rfl _ _ _ _ _ _ rfl hb4) rfl ⟨HB.out, jsj (q4.mono (by omega))⟩
end
end
end Go.Proofs.YtdglddpigeamaaaGreat
/- rows: sums with changing signs. -/
import Derived.Test.YtnephejalollfaaGreatRt
set_option linter.unusedVariables false
set_option linter.unusedSimpArgs false
namespace Go.Proofs.YtnephejalollfaaGreat
open Go.RowKit
open L (val dig nth)
set_option maxHeartbeats 4000000 in
set_option maxRecDepth 100000 in
theorem turning_cos1_calls {w : World} {kt : Nat} {m : Bool} {B : Option Addr} {j d : Nat} {t q : Int} {g p : Nat} {N M : Nat} {k0 k1 : Nat} {n0 n1 : Bool} {A0 A1 : Option Addr} {l0 l1 c0 c1 : Nat} {x0 x1 : Int} (h0 : Q w k0 n0 A0 l0 c0 x0) (h1 : Q w k1 n1 A1 l1 c1 x1) (ht : Q w kt m B j d t) (hb1 : Blk w g 24 #[.bool m, .slice B j d]) (hb2 : Blk w p 3 #[.int .i64 q]) (hkt : kt ≤ 5000) (hk0 : k0 ≤ 4000) (hk1 : k1 ≤ 4000) (hq0 : 0 ≤ q) (hq1 : q ≤ 2000) (hN : N ≤ 1000) (hK : M ≤ 4000) (hk0M : k0 ≤ M) (hk1M : k1 ≤ M) (HA : Hid (∀ i, i ≤ 2 * N → (sq (lo_cos1 t q) x0 i).natAbs < W ^ M)) (HB_ : Hid (∀ i, i ≤ 2 * N → (sq (hi_cos1 t q) x1 i).natAbs < W ^ M)) (HS : Hid (∀ i, i ≤ 2 * N → (tu (fun y => whole y (sq (lo_cos1 t q) x0 y)) (fun y => whole y (sq (hi_cos1 t q) x1 y)) i).natAbs < W ^ M)) (HT : Hid (∀ i, i ≤ 2 * N → (tu (fun y => whole y (sq (hi_cos1 t q) x1 y)) (fun y => whole y (sq (lo_cos1 t q) x0 y)) i).natAbs < W ^ M)) :
    Calls Tryz.prog 22 #[.int .i64 (N : Nat), .agg #[.bool n0, .slice A0 l0 c0, .bool n1, .slice A1 l1 c1], .func (.func 31) #[] #[.pointer (some ⟨g, 0, none⟩), .pointer (some ⟨p, 0, none⟩)], .func (.func 25) #[] #[]] w fun e w' => Below w.heap.size w w' ∧ VF (Fact.t3 (Fact.z M (tu (fun y => whole y (sq (lo_cos1 t q) x0 y)) (fun y => whole y (sq (hi_cos1 t q) x1 y)) (2 * N))) (Fact.z (M + 300) ((tu (fun y => whole y (sq (hi_cos1 t q) x1 y)) (fun y => whole y (sq (lo_cos1 t q) x0 y)) (2 * N)) + whole (2 * N) (sq (hi_cos1 t q) x1 (2 * N)))) (Fact.eq (.int .i64 0))) e w' := by
 have hg := hb1.lt; have hp := hb2.lt
 go_enter Tryz.func22, Tryz.ntmps22
 have HB : Hid (Below w.heap.size w w) := hide (Below.refl _ _)
 go_upto_region 0 with (fail)
 refine F2.regionS [.al 39 #[.bool n0, .slice A0 l0 c0, .bool n1, .slice A1 l1 c1], .al 24 #[.bool false, .slice none 0 0], .al 24 #[.bool false, .slice none 0 0], .o] [Fact.any, Fact.any, Fact.any, Fact.eq ?ca10_] [5, 8, 9, 10] [5, 8, 9, 10] (by kernel_rfl) ?soa ?sopa (by kernel_rfl) ?sta ?fina
 case soa => exact fun x hx => by cases hx
 case sopa => exact List.Pairwise.nil
 case sta =>
  refine F2.Steps.consA rfl ⟨NoU.four nB nS nB nS, ?_⟩ ?_
  ·
   intro vz wz hBz K hK; simp only [zy, F2.Wp] at hK ⊢; go_simp; exact hK
  refine F2.Steps.consA rfl ⟨NoU.two nB nS, ?_⟩ ?_
  ·
   intro vz wz hBz K hK; simp only [zy, F2.Wp] at hK ⊢; go_simp; exact hK
  refine F2.Steps.consA rfl ⟨NoU.two nB nS, ?_⟩ ?_
  ·
   intro vz wz hBz K hK; simp only [zy, F2.Wp] at hK ⊢; go_simp; exact hK
  refine F2.Steps.consO rfl ?_ ?_
  ·
   intro vz wz hBz hDz hTz K hK; have HW := hBz.ext; simp only [zy, F2.Wp] at hK ⊢; go_simp; refine hK _ wz zB (Fact.eq_mk ?_); with_reducible rfl
  exact F2.Steps.nil
 intro va w1 hBz ⟨hOz, hAz, hNz, hSz⟩; obtain ⟨g5, cs5, E5, hg5, bx5, hs5, hz5⟩ := hAz 0 _ _ (by decide) rfl; have hzz := hz5 (F2.nost (by kernel_rfl)); subst hzz; obtain ⟨g8, cs8, E8, hg8, bx8, hs8, hz8⟩ := hAz 1 _ _ (by decide) rfl; have hzz := hz8 (F2.nost (by kernel_rfl)); subst hzz; obtain ⟨g9, cs9, E9, hg9, bx9, hs9, hz9⟩ := hAz 2 _ _ (by decide) rfl; have hzz := hz9 (F2.nost (by kernel_rfl)); subst hzz; have E10 : va 10 = _ := hOz 3 (by decide) rfl; have hne5_8 : Hid (¬ g5 = g8) := hide (fun h => hNz 0 1 _ _ _ _ (by decide) (by decide) (by decide) rfl rfl (by rw [E5, E8, h])); have hne5_9 : Hid (¬ g5 = g9) := hide (fun h => hNz 0 2 _ _ _ _ (by decide) (by decide) (by decide) rfl rfl (by rw [E5, E9, h])); have hne8_9 : Hid (¬ g8 = g9) := hide (fun h => hNz 1 2 _ _ _ _ (by decide) (by decide) (by decide) rfl rfl (by rw [E8, E9, h])); simp only [Act.put, actv, fill, fC, fN, tA, cS, cZ]; simp only [(show va 5 = _ from E5), (show va 8 = _ from E8), (show va 9 = _ from E9), E10]; clear E5 E8 E9 E10; have hge5 : w.heap.size ≤ g5 := Nat.le_trans HB.out.size hg5; have hne5_g := hide (Nat.ne_of_gt (Nat.lt_of_lt_of_le hb1.lt (show w.heap.size ≤ g5 from hg5))); have hne5_p := hide (Nat.ne_of_gt (Nat.lt_of_lt_of_le hb2.lt (show w.heap.size ≤ g5 from hg5))); have hge8 : w.heap.size ≤ g8 := Nat.le_trans HB.out.size hg8; have hne8_g := hide (Nat.ne_of_gt (Nat.lt_of_lt_of_le hb1.lt (show w.heap.size ≤ g8 from hg8))); have hne8_p := hide (Nat.ne_of_gt (Nat.lt_of_lt_of_le hb2.lt (show w.heap.size ≤ g8 from hg8))); have hge9 : w.heap.size ≤ g9 := Nat.le_trans HB.out.size hg9; have hne9_g := hide (Nat.ne_of_gt (Nat.lt_of_lt_of_le hb1.lt (show w.heap.size ≤ g9 from hg9))); have hne9_p := hide (Nat.ne_of_gt (Nat.lt_of_lt_of_le hb2.lt (show w.heap.size ≤ g9 from hg9))); replace ht := ht.ext hBz.ext; replace h0 := h0.ext hBz.ext; replace h1 := h1.ext hBz.ext; replace hb1 := hBz.blk hb1 zN; replace hb2 := hBz.blk hb2 zN; replace HB := hide (HB.out.trans (hBz.below (B := w.heap.size) HB.out.size zE)); clear hOz hAz hNz hSz hs5 hz5 hs8 hz8 hs9 hz9 hBz
 go_upto_region 1 with (fail)
 refine F2.regionS [.al 39 #[.bool false, .slice none 0 0, .bool false, .slice none 0 0]] [Fact.any] [11] [11] (by kernel_rfl) ?sob ?sopb (by kernel_rfl) ?stb ?finb
 case sob => exact fun x hx => by cases hx
 case sopb => exact List.Pairwise.nil
 case stb =>
  refine F2.Steps.consA rfl ⟨NoU.four nB nS nB nS, ?_⟩ ?_
  ·
   intro vz wz hBz K hK; simp only [zy, F2.Wp] at hK ⊢; go_simp; exact hK
  exact F2.Steps.nil
 intro vb w2 hBz ⟨hOz, hAz, hNz, hSz⟩; obtain ⟨g11, cs11, E11, hg11, bx11, hs11, hz11⟩ := hAz 0 _ _ (by decide) rfl; have hzz := hz11 (F2.nost (by kernel_rfl)); subst hzz; simp only [Act.put, actv, fill, fC, fN, tA, cS, cZ]; simp only [(show vb 11 = _ from E11)]; clear E11; have hge11 : w.heap.size ≤ g11 := Nat.le_trans HB.out.size hg11; have hne11_g := hide (Nat.ne_of_gt (Nat.lt_of_lt_of_le hb1.lt (show w1.heap.size ≤ g11 from hg11))); have hne11_p := hide (Nat.ne_of_gt (Nat.lt_of_lt_of_le hb2.lt (show w1.heap.size ≤ g11 from hg11))); have hne11_5 := hide (Nat.ne_of_gt (Nat.lt_of_lt_of_le bx5.lt (show w1.heap.size ≤ g11 from hg11))); have hne11_8 := hide (Nat.ne_of_gt (Nat.lt_of_lt_of_le bx8.lt (show w1.heap.size ≤ g11 from hg11))); have hne11_9 := hide (Nat.ne_of_gt (Nat.lt_of_lt_of_le bx9.lt (show w1.heap.size ≤ g11 from hg11))); replace ht := ht.ext hBz.ext; replace h0 := h0.ext hBz.ext; replace h1 := h1.ext hBz.ext; replace hb1 := hBz.blk hb1 zN; replace hb2 := hBz.blk hb2 zN; replace bx5 := hBz.blk bx5 zN; replace bx8 := hBz.blk bx8 zN; replace bx9 := hBz.blk bx9 zN; replace HB := hide (HB.out.trans (hBz.below (B := w.heap.size) HB.out.size zE)); clear hOz hAz hNz hSz hs11 hz11 hBz
 go_upto_region 2 with (fail)
 refine F2.regionS [.o, .o, .o] [Fact.eq ?cc14_, Fact.eq ?cc15_, Fact.eq ?cc16_] [14, 15, 16] [14, 15, 16] (by kernel_rfl) ?soc ?sopc (by kernel_rfl) ?stc ?finc
 case soc => exact fun x hx => by cases hx
 case sopc => exact List.Pairwise.nil
 case stc =>
  refine F2.Steps.consO rfl ?_ ?_
  ·
   intro vz wz hBz hDz hTz K hK; have HW := hBz.ext; simp only [zy, F2.Wp] at hK ⊢; go_simp; refine hK _ wz zB (Fact.eq_mk ?_); with_reducible rfl
  refine F2.Steps.consO rfl ?_ ?_
  ·
   intro vz wz hBz hDz hTz K hK; have E14 : vz 14 = _ := hDz 0 (by kernel_rfl) rfl; have HW := hBz.ext; simp only [zy, F2.Wp] at hK ⊢; simp only [E14] at hK ⊢; go_simp
   try simp (disch := omega) only [IntWalk.i64_in]
   refine hK _ wz zB (Fact.eq_mk ?_); with_reducible rfl
  refine F2.Steps.consO rfl ?_ ?_
  ·
   intro vz wz hBz hDz hTz K hK; have HW := hBz.ext; simp only [zy, F2.Wp] at hK ⊢; go_simp; refine hK _ wz zB (Fact.eq_mk ?_); with_reducible rfl
  exact F2.Steps.nil
 intro vc w3 hBz ⟨hOz, hAz, hNz, hSz⟩; have E14 : vc 14 = _ := hOz 0 (by decide) rfl; have E15 : vc 15 = _ := hOz 1 (by decide) rfl; have E16 : vc 16 = _ := hOz 2 (by decide) rfl; simp only [Act.put, actv, fill, fC, fN, tA, cS, cZ]; simp only [E14, E15, E16]; clear E14 E15 E16; replace ht := ht.ext hBz.ext; replace h0 := h0.ext hBz.ext; replace h1 := h1.ext hBz.ext; replace hb1 := hBz.blk hb1 zN; replace hb2 := hBz.blk hb2 zN; replace bx5 := hBz.blk bx5 zN; replace bx8 := hBz.blk bx8 zN; replace bx9 := hBz.blk bx9 zN; replace bx11 := hBz.blk bx11 zN; replace HB := hide (HB.out.trans (hBz.below (B := w.heap.size) HB.out.size zE)); clear hOz hAz hNz hSz hBz
 go_wp2_with fail
 go_loopw [16] (fun iv wr4 => ∃ i : Nat, i ≤ 2 * N ∧ iv = .int .i64 i ∧ Low [g5, g11] w3 wr4 ∧ True ∧ (∃ n5a A5a l5a c5a n5b A5b l5b c5b, Blk wr4 (g5) 39 #[.bool n5a, .slice A5a l5a c5a, .bool n5b, .slice A5b l5b c5b] ∧ Q wr4 (M) n5a A5a l5a c5a ((sq (lo_cos1 t q) x0 i)) ∧ Q wr4 (M) n5b A5b l5b c5b ((sq (hi_cos1 t q) x1 i))) ∧ (∃ n11a A11a l11a c11a n11b A11b l11b c11b, Blk wr4 (g11) 39 #[.bool n11a, .slice A11a l11a c11a, .bool n11b, .slice A11b l11b c11b] ∧ Q wr4 (M) n11a A11a l11a c11a ((tu (fun y => whole y (sq (lo_cos1 t q) x0 y)) (fun y => whole y (sq (hi_cos1 t q) x1 y)) i)) ∧ Q wr4 (M) n11b A11b l11b c11b ((tu (fun y => whole y (sq (hi_cos1 t q) x1 y)) (fun y => whole y (sq (lo_cos1 t q) x0 y)) i)))) (fun iv _ => 2 * N + 0 - (intOf iv).toNat)
 case atStart => exact ⟨0, by omega, rfl, Low.refl _ _, trivial, ⟨_, _, _, _, _, _, _, _, bx5, (h0.up (by omega)), (h1.up (by omega))⟩, ⟨_, _, _, _, _, _, _, _, bx11, (QB.zero _ 0 _).q, (QB.zero _ 0 _).q⟩⟩
 case round =>
  obtain ⟨i, hi, rfl, HL4, hmore, ⟨n5a, A5a, l5a, c5a, n5b, A5b, l5b, c5b, bx5, q5a, q5b⟩, ⟨n11a, A11a, l11a, c11a, n11b, A11b, l11b, c11b, bx11, q11a, q11b⟩⟩ := hrel; replace ht := ht.ext HL4.ext; replace h0 := h0.ext HL4.ext; replace h1 := h1.ext HL4.ext; replace hb1 := HL4.blk hb1 (zM (Ne.symm hne5_g.out) (zM (Ne.symm hne11_g.out) zN)); replace hb2 := HL4.blk hb2 (zM (Ne.symm hne5_p.out) (zM (Ne.symm hne11_p.out) zN)); replace bx8 := HL4.blk bx8 (zM (Ne.symm hne5_8.out) (zM (Ne.symm hne11_8.out) zN)); replace bx9 := HL4.blk bx9 (zM (Ne.symm hne5_9.out) (zM (Ne.symm hne11_9.out) zN)); replace HB := hide (HB.out.trans (HL4.below (B := w.heap.size) HB.out.size (zA hge5 (zA hge11 zE)))); have hszHL4 := HL4.size
  by_cases hlti : i < 2 * N
  ·
   have hlti' : (i : Int) < 2 * (N : Int) := by omega
   by_cases hpar : i % 2 = 1
   ·
    have hpb : (bits .and .i64 (i : Int) 1 == 1) = true := by rw [and_one_i64 i (by omega)]; simp; omega
    go_upto_region 8 with (fail)
    refine F2.region [.o, .o, .o, .o, .o, .o, .o, .so (g11) 39 #[.bool n11a, .slice A11a l11a c11a, .bool n11b, .slice A11b l11b c11b]] [Fact.eq ?ce22_, Fact.eq ?ce23_, Fact.eq ?ce24_, Fact.eq ?ce25_, Fact.eq ?ce26_, Fact.s_zz ?ke27_a ?ze27_a ?ke27_b ?ze27_b, Fact.s_yy ?ke28_a ?ze28_a ?ke28_b ?ze28_b, Fact.s_yy ?kes11_a ?zes11_a ?kes11_b ?zes11_b] [22, 23, 24, 25, 26, 27, 28] [22, 23, 24, 25, 26, 27, 28, 0] (by kernel_rfl) ?soe ?sope (by kernel_rfl) ?ste ?fine
    case soe => exact List.forall_mem_cons.2 ⟨⟨bx11, NoU.four nB nS nB nS⟩, fun x hx => by cases hx⟩
    case sope => exact List.Pairwise.cons (fun y hy => by cases hy) (List.Pairwise.nil)
    case ste =>
     refine F2.Steps.consO rfl ?_ ?_
     ·
      intro vz wz hBz hDz hTz K hK; have HW := ext_drew hBz.ext; simp only [zy, F2.Wp] at hK ⊢; go_simp; refine hK _ wz zB (Fact.eq_mk ?_); with_reducible rfl
     refine F2.Steps.consO rfl ?_ ?_
     ·
      intro vz wz hBz hDz hTz K hK; have HW := ext_drew hBz.ext; have bx11z := hTz 7 _ _ _ _ rfl rfl (by kernel_rfl); obtain ⟨zl0, zl1, zl2, zl3, -⟩ := bx11z.four; simp only [zy, F2.Wp] at hK ⊢; go_simp; refine hK _ wz zB (Fact.eq_mk ?_); with_reducible rfl
     refine F2.Steps.consO rfl ?_ ?_
     ·
      intro vz wz hBz hDz hTz K hK; have HW := ext_drew hBz.ext; simp only [zy, F2.Wp] at hK ⊢; go_simp; refine hK _ wz zB (Fact.eq_mk ?_); with_reducible rfl
     refine F2.Steps.consO rfl ?_ ?_
     ·
      intro vz wz hBz hDz hTz K hK; have HW := ext_drew hBz.ext; simp only [zy, F2.Wp] at hK ⊢; go_simp; refine hK _ wz zB (Fact.eq_mk ?_); with_reducible rfl
     refine F2.Steps.consO rfl ?_ ?_
     ·
      intro vz wz hBz hDz hTz K hK; have HW := ext_drew hBz.ext; have bx5z := hBz.blk bx5.drew (zM (Ne.symm hne11_5.out) zN); obtain ⟨zl0, zl1, zl2, zl3, -⟩ := bx5z.four; simp only [zy, F2.Wp] at hK ⊢; go_simp; refine hK _ wz zB (Fact.eq_mk ?_); with_reducible rfl
     refine F2.Steps.consO rfl ?_ ?_
     ·
      intro vz wz hBz hDz hTz K hK; have E24 : vz 24 = _ := hDz 2 (by kernel_rfl) rfl; have E25 : vz 25 = _ := hDz 3 (by kernel_rfl) rfl; have E26 : vz 26 = _ := hDz 4 (by kernel_rfl) rfl; have HW := ext_drew hBz.ext; simp only [zy, F2.Wp] at hK ⊢; simp only [E24, E25, E26] at hK ⊢; go_simp; refine Calls.mono (rwhole_calls (q5a.ext HW) (q5b.ext HW)) ?_; rintro e w2z ⟨hb2, uz, rfl, hf⟩
      go_wp2_with fail
      refine hK _ w2z hb2 (Fact.cast (hf) ?_); with_reducible rfl
     refine F2.Steps.consO rfl ?_ ?_
     ·
      intro vz wz hBz hDz hTz K hK; have E22 : vz 22 = _ := hDz 0 (by kernel_rfl) rfl; have E23 : vz 23 = _ := hDz 1 (by kernel_rfl) rfl; obtain ⟨n27a_, A27a_, l27a_, c27a_, n27b_, A27b_, l27b_, c27b_, E27, q27a, q27b⟩ : SV_zz _ _ _ _ wz (vz 27) := hDz 5 (by kernel_rfl) rfl; have HW := ext_drew hBz.ext; simp only [zy, F2.Wp] at hK ⊢; simp only [E22, E23, E27] at hK ⊢; go_simp; refine Calls.mono (rless_calls (q11a.ext HW) (q11b.ext HW) q27a q27b (by omega) (by omega) (by omega) (by omega)) ?_; rintro e w2z ⟨hb2, uz, rfl, hf⟩
      go_wp2_with fail
      refine hK _ w2z hb2 (Fact.cast (hf) ?_); with_reducible rfl
     refine F2.Steps.consT rfl ?_ ?_
     ·
      intro vz wz hBz hDz hbz K hK; obtain ⟨zc0, zc1, zc2, zc3, zc4, zc5, zc6, zc7⟩ := hbz.four; obtain ⟨n28a_, A28a_, l28a_, c28a_, n28b_, A28b_, l28b_, c28b_, E28, q28a, q28b⟩ : SV_yy _ _ _ _ wz (vz 28) := hDz 6 (by kernel_rfl) rfl; have HW := ext_drew hBz.ext; simp only [zy, F2.Wp] at hK ⊢; simp only [E28] at hK ⊢; go_simp; refine hK _ ((((Far.set _ _ 0 _).trans (Far.set _ _ 1 _)).trans (Far.set _ _ 2 _)).trans (Far.set _ _ 3 _)) ⟨_, blk_four hbz, NoU.four nB nS nB nS, Fact.cast (Fact.s_yy_mk q28a q28b) ?_⟩; with_reducible rfl
     exact F2.Steps.nil
    intro ve w5 hBz ⟨hOz, hAz, hNz, hSz⟩; have E22 : ve 22 = _ := hOz 0 (by decide) rfl; have E23 : ve 23 = _ := hOz 1 (by decide) rfl; have E24 : ve 24 = _ := hOz 2 (by decide) rfl; have E25 : ve 25 = _ := hOz 3 (by decide) rfl; have E26 : ve 26 = _ := hOz 4 (by decide) rfl; obtain ⟨n27a_, A27a_, l27a_, c27a_, n27b_, A27b_, l27b_, c27b_, E27, q27a, q27b⟩ : SV_zz _ _ _ _ w5 (ve 27) := hOz 5 (by decide) rfl; obtain ⟨n28a_, A28a_, l28a_, c28a_, n28b_, A28b_, l28b_, c28b_, E28, q28a, q28b⟩ : SV_yy _ _ _ _ w5 (ve 28) := hOz 6 (by decide) rfl; obtain ⟨cs11, bx11n, hs11⟩ := hSz 7 _ _ _ (by decide) rfl; obtain ⟨n11sea_, A11sea_, l11sea_, c11sea_, n11seb_, A11seb_, l11seb_, c11seb_, E11se, q11sea, q11seb⟩ : SV_yy _ _ _ _ w5 (.agg cs11) := hs11; injection E11se with E11se
    subst E11se; simp only [Act.put, actv, fill, fC, fN, tA, cS, cZ]; simp only [E22, E23, E24, E25, E26, E27, E28]; clear E22 E23 E24 E25 E26 E27 E28; replace ht := ht.ext hBz.ext; replace q5a := q5a.ext hBz.ext; replace q5b := q5b.ext hBz.ext; replace q11a := q11a.ext hBz.ext; replace q11b := q11b.ext hBz.ext; replace h0 := h0.ext hBz.ext; replace h1 := h1.ext hBz.ext; replace hb1 := hBz.blk hb1 (zM (Ne.symm hne11_g.out) zN); replace hb2 := hBz.blk hb2 (zM (Ne.symm hne11_p.out) zN); replace bx5 := hBz.blk bx5 (zM (Ne.symm hne11_5.out) zN); replace bx8 := hBz.blk bx8 (zM (Ne.symm hne11_8.out) zN); replace bx9 := hBz.blk bx9 (zM (Ne.symm hne11_9.out) zN); replace HL4 := HL4.step hBz (zA (Or.inl (by simp)) zE); replace HB := hide (HB.out.trans (hBz.below (B := w.heap.size) HB.out.size (zA hge11 zE))); clear bx11; have bx11 := bx11n; clear bx11n; clear hOz hAz hNz hSz hBz
    go_upto_region 9 with (fail)
    refine F2.regionS [.o, .o, .o, .o, .o, .so (g5) 39 #[.bool n5a, .slice A5a l5a c5a, .bool n5b, .slice A5b l5b c5b]] [Fact.eq ?cf29_, Fact.eq ?cf30_, Fact.eq ?cf31_, Fact.eq ?cf32_, Fact.s_yy ?kf33_a ?zf33_a ?kf33_b ?zf33_b, Fact.s_yy ?kfs5_a ?zfs5_a ?kfs5_b ?zfs5_b] [29, 30, 31, 32, 33] [29, 30, 31, 32, 33, 0] (by kernel_rfl) ?sof ?sopf (by kernel_rfl) ?stf ?finf
    case sof => exact List.forall_mem_cons.2 ⟨⟨bx5, NoU.four nB nS nB nS⟩, fun x hx => by cases hx⟩
    case sopf => exact List.Pairwise.cons (fun y hy => by cases hy) (List.Pairwise.nil)
    case stf =>
     refine F2.Steps.consO rfl ?_ ?_
     ·
      intro vz wz hBz hDz hTz K hK; have HW := hBz.ext; simp only [zy, F2.Wp] at hK ⊢; go_simp; refine hK _ wz zB (Fact.eq_mk ?_); with_reducible rfl
     refine F2.Steps.consO rfl ?_ ?_
     ·
      intro vz wz hBz hDz hTz K hK; have HW := hBz.ext; simp only [zy, F2.Wp] at hK ⊢; go_simp; refine hK _ wz zB (Fact.eq_mk ?_); with_reducible rfl
     refine F2.Steps.consO rfl ?_ ?_
     ·
      intro vz wz hBz hDz hTz K hK; have E30 : vz 30 = _ := hDz 1 (by kernel_rfl) rfl; have HW := hBz.ext; simp only [zy, F2.Wp] at hK ⊢; simp only [E30] at hK ⊢; go_simp
      try simp (disch := omega) only [IntWalk.i64_in]
      refine hK _ wz zB (Fact.eq_mk ?_); with_reducible rfl
     refine F2.Steps.consO rfl ?_ ?_
     ·
      intro vz wz hBz hDz hTz K hK; have HW := hBz.ext; have bx5z := hTz 5 _ _ _ _ rfl rfl (by kernel_rfl); obtain ⟨zl0, zl1, zl2, zl3, -⟩ := bx5z.four; simp only [zy, F2.Wp] at hK ⊢; go_simp; refine hK _ wz zB (Fact.eq_mk ?_); with_reducible rfl
     refine F2.Steps.consO rfl ?_ ?_
     ·
      intro vz wz hBz hDz hTz K hK; have E29 : vz 29 = _ := hDz 0 (by kernel_rfl) rfl; have E31 : vz 31 = _ := hDz 2 (by kernel_rfl) rfl; have E32 : vz 32 = _ := hDz 3 (by kernel_rfl) rfl; have HW := hBz.ext; simp only [zy, F2.Wp] at hK ⊢; simp only [E29, E31, E32] at hK ⊢; go_simp; refine Calls.mono (cos1_calls (q5a.ext HW) (q5b.ext HW)  (ht.ext HW) (hBz.blk hb1 (zM (Ne.symm hne5_g.out) zN)) (hBz.blk hb2 (zM (Ne.symm hne5_p.out) zN)) (by omega) (by omega) (by omega) (by omega) (by omega) (by omega) (by omega)) ?_; rintro e w2z ⟨hb2, uz, rfl, hf⟩
      go_wp2_with fail
      refine hK _ w2z hb2 (Fact.cast (hf) ?_); with_reducible rfl
     refine F2.Steps.consT rfl ?_ ?_
     ·
      intro vz wz hBz hDz hbz K hK; obtain ⟨zc0, zc1, zc2, zc3, zc4, zc5, zc6, zc7⟩ := hbz.four; obtain ⟨n33a_, A33a_, l33a_, c33a_, n33b_, A33b_, l33b_, c33b_, E33, q33a, q33b⟩ : SV_yy _ _ _ _ wz (vz 33) := hDz 4 (by kernel_rfl) rfl; have HW := hBz.ext; simp only [zy, F2.Wp] at hK ⊢; simp only [E33] at hK ⊢; go_simp; refine hK _ ((((Far.set _ _ 0 _).trans (Far.set _ _ 1 _)).trans (Far.set _ _ 2 _)).trans (Far.set _ _ 3 _)) ⟨_, blk_four hbz, NoU.four nB nS nB nS, Fact.cast (Fact.s_yy_mk q33a q33b) ?_⟩; with_reducible rfl
     exact F2.Steps.nil
    intro vf w6 hBz ⟨hOz, hAz, hNz, hSz⟩; have E29 : vf 29 = _ := hOz 0 (by decide) rfl; have E30 : vf 30 = _ := hOz 1 (by decide) rfl; have E31 : vf 31 = _ := hOz 2 (by decide) rfl; have E32 : vf 32 = _ := hOz 3 (by decide) rfl; obtain ⟨n33a_, A33a_, l33a_, c33a_, n33b_, A33b_, l33b_, c33b_, E33, q33a, q33b⟩ : SV_yy _ _ _ _ w6 (vf 33) := hOz 4 (by decide) rfl; obtain ⟨cs5, bx5n, hs5⟩ := hSz 5 _ _ _ (by decide) rfl; obtain ⟨n5sfa_, A5sfa_, l5sfa_, c5sfa_, n5sfb_, A5sfb_, l5sfb_, c5sfb_, E5sf, q5sfa, q5sfb⟩ : SV_yy _ _ _ _ w6 (.agg cs5) := hs5; injection E5sf with E5sf
    subst E5sf; simp only [Act.put, actv, fill, fC, fN, tA, cS, cZ]; simp only [E29, E30, E31, E32, E33]; clear E29 E30 E31 E32 E33; replace ht := ht.ext hBz.ext; replace q5a := q5a.ext hBz.ext; replace q5b := q5b.ext hBz.ext; replace q11sea := q11sea.ext hBz.ext; replace q11seb := q11seb.ext hBz.ext; replace h0 := h0.ext hBz.ext; replace h1 := h1.ext hBz.ext; replace hb1 := hBz.blk hb1 (zM (Ne.symm hne5_g.out) zN); replace hb2 := hBz.blk hb2 (zM (Ne.symm hne5_p.out) zN); replace bx8 := hBz.blk bx8 (zM (Ne.symm hne5_8.out) zN); replace bx9 := hBz.blk bx9 (zM (Ne.symm hne5_9.out) zN); replace bx11 := hBz.blk bx11 (zM hne11_5.out zN); replace HL4 := HL4.step hBz (zA (Or.inl (by simp)) zE); replace HB := hide (HB.out.trans (hBz.below (B := w.heap.size) HB.out.size (zA hge5 zE))); clear bx5; have bx5 := bx5n; clear bx5n; clear hOz hAz hNz hSz hBz
    go_wp2_with fail
    go_roundw
    case rel => exact ⟨i + 1, by omega, by go_num, HL4, trivial, ⟨_, _, _, _, _, _, _, _, bx5, (q5sfa.fit (HA.out (i + 1) (by omega))).q, (q5sfb.fit (HB_.out (i + 1) (by omega))).q⟩, ⟨_, _, _, _, _, _, _, _, bx11, (by rw [tu_pos hpar]; exact (q11sea.fit (by have h9 := HS.out (i + 1) (by omega); rw [tu_pos hpar] at h9; exact h9)).q), (by rw [tu_pos hpar]; exact (q11seb.fit (by have h9 := HT.out (i + 1) (by omega); rw [tu_pos hpar] at h9; exact h9)).q)⟩⟩
    case measure => simp [intOf]; omega
   ·
    have hpb : (bits .and .i64 (i : Int) 1 == 1) = false := by rw [and_one_i64 i (by omega)]; simp; omega
    go_upto_region 8 with (fail)
    refine F2.region [.o, .o, .o, .o, .o, .o, .o, .so (g11) 39 #[.bool n11a, .slice A11a l11a c11a, .bool n11b, .slice A11b l11b c11b]] [Fact.eq ?cg22_, Fact.eq ?cg23_, Fact.eq ?cg24_, Fact.eq ?cg25_, Fact.eq ?cg26_, Fact.s_zz ?kg27_a ?zg27_a ?kg27_b ?zg27_b, Fact.s_yy ?kg28_a ?zg28_a ?kg28_b ?zg28_b, Fact.s_yy ?kgs11_a ?zgs11_a ?kgs11_b ?zgs11_b] [22, 23, 24, 25, 26, 27, 28] [22, 23, 24, 25, 26, 27, 28, 0] (by kernel_rfl) ?sog ?sopg (by kernel_rfl) ?stg ?fing
    case sog => exact List.forall_mem_cons.2 ⟨⟨bx11, NoU.four nB nS nB nS⟩, fun x hx => by cases hx⟩
    case sopg => exact List.Pairwise.cons (fun y hy => by cases hy) (List.Pairwise.nil)
    case stg =>
     refine F2.Steps.consO rfl ?_ ?_
     ·
      intro vz wz hBz hDz hTz K hK; have HW := ext_drew hBz.ext; simp only [zy, F2.Wp] at hK ⊢; go_simp; refine hK _ wz zB (Fact.eq_mk ?_); with_reducible rfl
     refine F2.Steps.consO rfl ?_ ?_
     ·
      intro vz wz hBz hDz hTz K hK; have HW := ext_drew hBz.ext; have bx11z := hTz 7 _ _ _ _ rfl rfl (by kernel_rfl); obtain ⟨zl0, zl1, zl2, zl3, -⟩ := bx11z.four; simp only [zy, F2.Wp] at hK ⊢; go_simp; refine hK _ wz zB (Fact.eq_mk ?_); with_reducible rfl
     refine F2.Steps.consO rfl ?_ ?_
     ·
      intro vz wz hBz hDz hTz K hK; have HW := ext_drew hBz.ext; simp only [zy, F2.Wp] at hK ⊢; go_simp; refine hK _ wz zB (Fact.eq_mk ?_); with_reducible rfl
     refine F2.Steps.consO rfl ?_ ?_
     ·
      intro vz wz hBz hDz hTz K hK; have HW := ext_drew hBz.ext; simp only [zy, F2.Wp] at hK ⊢; go_simp; refine hK _ wz zB (Fact.eq_mk ?_); with_reducible rfl
     refine F2.Steps.consO rfl ?_ ?_
     ·
      intro vz wz hBz hDz hTz K hK; have HW := ext_drew hBz.ext; have bx5z := hBz.blk bx5.drew (zM (Ne.symm hne11_5.out) zN); obtain ⟨zl0, zl1, zl2, zl3, -⟩ := bx5z.four; simp only [zy, F2.Wp] at hK ⊢; go_simp; refine hK _ wz zB (Fact.eq_mk ?_); with_reducible rfl
     refine F2.Steps.consO rfl ?_ ?_
     ·
      intro vz wz hBz hDz hTz K hK; have E24 : vz 24 = _ := hDz 2 (by kernel_rfl) rfl; have E25 : vz 25 = _ := hDz 3 (by kernel_rfl) rfl; have E26 : vz 26 = _ := hDz 4 (by kernel_rfl) rfl; have HW := ext_drew hBz.ext; simp only [zy, F2.Wp] at hK ⊢; simp only [E24, E25, E26] at hK ⊢; go_simp; refine Calls.mono (rwhole_calls (q5a.ext HW) (q5b.ext HW)) ?_; rintro e w2z ⟨hb2, uz, rfl, hf⟩
      go_wp2_with fail
      refine hK _ w2z hb2 (Fact.cast (hf) ?_); with_reducible rfl
     refine F2.Steps.consO rfl ?_ ?_
     ·
      intro vz wz hBz hDz hTz K hK; have E22 : vz 22 = _ := hDz 0 (by kernel_rfl) rfl; have E23 : vz 23 = _ := hDz 1 (by kernel_rfl) rfl; obtain ⟨n27a_, A27a_, l27a_, c27a_, n27b_, A27b_, l27b_, c27b_, E27, q27a, q27b⟩ : SV_zz _ _ _ _ wz (vz 27) := hDz 5 (by kernel_rfl) rfl; have HW := ext_drew hBz.ext; simp only [zy, F2.Wp] at hK ⊢; simp only [E22, E23, E27] at hK ⊢; go_simp; refine Calls.mono (rplus_calls (q11a.ext HW) (q11b.ext HW) q27a q27b (by omega) (by omega) (by omega) (by omega)) ?_; rintro e w2z ⟨hb2, uz, rfl, hf⟩
      go_wp2_with fail
      refine hK _ w2z hb2 (Fact.cast (hf) ?_); with_reducible rfl
     refine F2.Steps.consT rfl ?_ ?_
     ·
      intro vz wz hBz hDz hbz K hK; obtain ⟨zc0, zc1, zc2, zc3, zc4, zc5, zc6, zc7⟩ := hbz.four; obtain ⟨n28a_, A28a_, l28a_, c28a_, n28b_, A28b_, l28b_, c28b_, E28, q28a, q28b⟩ : SV_yy _ _ _ _ wz (vz 28) := hDz 6 (by kernel_rfl) rfl; have HW := ext_drew hBz.ext; simp only [zy, F2.Wp] at hK ⊢; simp only [E28] at hK ⊢; go_simp; refine hK _ ((((Far.set _ _ 0 _).trans (Far.set _ _ 1 _)).trans (Far.set _ _ 2 _)).trans (Far.set _ _ 3 _)) ⟨_, blk_four hbz, NoU.four nB nS nB nS, Fact.cast (Fact.s_yy_mk q28a q28b) ?_⟩; with_reducible rfl
     exact F2.Steps.nil
    intro vg w7 hBz ⟨hOz, hAz, hNz, hSz⟩; have E22 : vg 22 = _ := hOz 0 (by decide) rfl; have E23 : vg 23 = _ := hOz 1 (by decide) rfl; have E24 : vg 24 = _ := hOz 2 (by decide) rfl; have E25 : vg 25 = _ := hOz 3 (by decide) rfl; have E26 : vg 26 = _ := hOz 4 (by decide) rfl; obtain ⟨n27a_, A27a_, l27a_, c27a_, n27b_, A27b_, l27b_, c27b_, E27, q27a, q27b⟩ : SV_zz _ _ _ _ w7 (vg 27) := hOz 5 (by decide) rfl; obtain ⟨n28a_, A28a_, l28a_, c28a_, n28b_, A28b_, l28b_, c28b_, E28, q28a, q28b⟩ : SV_yy _ _ _ _ w7 (vg 28) := hOz 6 (by decide) rfl; obtain ⟨cs11, bx11n, hs11⟩ := hSz 7 _ _ _ (by decide) rfl; obtain ⟨n11sga_, A11sga_, l11sga_, c11sga_, n11sgb_, A11sgb_, l11sgb_, c11sgb_, E11sg, q11sga, q11sgb⟩ : SV_yy _ _ _ _ w7 (.agg cs11) := hs11; injection E11sg with E11sg
    subst E11sg; simp only [Act.put, actv, fill, fC, fN, tA, cS, cZ]; simp only [E22, E23, E24, E25, E26, E27, E28]; clear E22 E23 E24 E25 E26 E27 E28; replace ht := ht.ext hBz.ext; replace q5a := q5a.ext hBz.ext; replace q5b := q5b.ext hBz.ext; replace q11a := q11a.ext hBz.ext; replace q11b := q11b.ext hBz.ext; replace h0 := h0.ext hBz.ext; replace h1 := h1.ext hBz.ext; replace hb1 := hBz.blk hb1 (zM (Ne.symm hne11_g.out) zN); replace hb2 := hBz.blk hb2 (zM (Ne.symm hne11_p.out) zN); replace bx5 := hBz.blk bx5 (zM (Ne.symm hne11_5.out) zN); replace bx8 := hBz.blk bx8 (zM (Ne.symm hne11_8.out) zN); replace bx9 := hBz.blk bx9 (zM (Ne.symm hne11_9.out) zN); replace HL4 := HL4.step hBz (zA (Or.inl (by simp)) zE); replace HB := hide (HB.out.trans (hBz.below (B := w.heap.size) HB.out.size (zA hge11 zE))); clear bx11; have bx11 := bx11n; clear bx11n; clear hOz hAz hNz hSz hBz
    go_upto_region 9 with (fail)
    refine F2.regionS [.o, .o, .o, .o, .o, .so (g5) 39 #[.bool n5a, .slice A5a l5a c5a, .bool n5b, .slice A5b l5b c5b]] [Fact.eq ?ch29_, Fact.eq ?ch30_, Fact.eq ?ch31_, Fact.eq ?ch32_, Fact.s_yy ?kh33_a ?zh33_a ?kh33_b ?zh33_b, Fact.s_yy ?khs5_a ?zhs5_a ?khs5_b ?zhs5_b] [29, 30, 31, 32, 33] [29, 30, 31, 32, 33, 0] (by kernel_rfl) ?soh ?soph (by kernel_rfl) ?sth ?finh
    case soh => exact List.forall_mem_cons.2 ⟨⟨bx5, NoU.four nB nS nB nS⟩, fun x hx => by cases hx⟩
    case soph => exact List.Pairwise.cons (fun y hy => by cases hy) (List.Pairwise.nil)
    case sth =>
     refine F2.Steps.consO rfl ?_ ?_
     ·
      intro vz wz hBz hDz hTz K hK; have HW := hBz.ext; simp only [zy, F2.Wp] at hK ⊢; go_simp; refine hK _ wz zB (Fact.eq_mk ?_); with_reducible rfl
     refine F2.Steps.consO rfl ?_ ?_
     ·
      intro vz wz hBz hDz hTz K hK; have HW := hBz.ext; simp only [zy, F2.Wp] at hK ⊢; go_simp; refine hK _ wz zB (Fact.eq_mk ?_); with_reducible rfl
     refine F2.Steps.consO rfl ?_ ?_
     ·
      intro vz wz hBz hDz hTz K hK; have E30 : vz 30 = _ := hDz 1 (by kernel_rfl) rfl; have HW := hBz.ext; simp only [zy, F2.Wp] at hK ⊢; simp only [E30] at hK ⊢; go_simp
      try simp (disch := omega) only [IntWalk.i64_in]
      refine hK _ wz zB (Fact.eq_mk ?_); with_reducible rfl
     refine F2.Steps.consO rfl ?_ ?_
     ·
      intro vz wz hBz hDz hTz K hK; have HW := hBz.ext; have bx5z := hTz 5 _ _ _ _ rfl rfl (by kernel_rfl); obtain ⟨zl0, zl1, zl2, zl3, -⟩ := bx5z.four; simp only [zy, F2.Wp] at hK ⊢; go_simp; refine hK _ wz zB (Fact.eq_mk ?_); with_reducible rfl
     refine F2.Steps.consO rfl ?_ ?_
     ·
      intro vz wz hBz hDz hTz K hK; have E29 : vz 29 = _ := hDz 0 (by kernel_rfl) rfl; have E31 : vz 31 = _ := hDz 2 (by kernel_rfl) rfl; have E32 : vz 32 = _ := hDz 3 (by kernel_rfl) rfl; have HW := hBz.ext; simp only [zy, F2.Wp] at hK ⊢; simp only [E29, E31, E32] at hK ⊢; go_simp; refine Calls.mono (cos1_calls (q5a.ext HW) (q5b.ext HW)  (ht.ext HW) (hBz.blk hb1 (zM (Ne.symm hne5_g.out) zN)) (hBz.blk hb2 (zM (Ne.symm hne5_p.out) zN)) (by omega) (by omega) (by omega) (by omega) (by omega) (by omega) (by omega)) ?_; rintro e w2z ⟨hb2, uz, rfl, hf⟩
      go_wp2_with fail
      refine hK _ w2z hb2 (Fact.cast (hf) ?_); with_reducible rfl
     refine F2.Steps.consT rfl ?_ ?_
     ·
      intro vz wz hBz hDz hbz K hK; obtain ⟨zc0, zc1, zc2, zc3, zc4, zc5, zc6, zc7⟩ := hbz.four; obtain ⟨n33a_, A33a_, l33a_, c33a_, n33b_, A33b_, l33b_, c33b_, E33, q33a, q33b⟩ : SV_yy _ _ _ _ wz (vz 33) := hDz 4 (by kernel_rfl) rfl; have HW := hBz.ext; simp only [zy, F2.Wp] at hK ⊢; simp only [E33] at hK ⊢; go_simp; refine hK _ ((((Far.set _ _ 0 _).trans (Far.set _ _ 1 _)).trans (Far.set _ _ 2 _)).trans (Far.set _ _ 3 _)) ⟨_, blk_four hbz, NoU.four nB nS nB nS, Fact.cast (Fact.s_yy_mk q33a q33b) ?_⟩; with_reducible rfl
     exact F2.Steps.nil
    intro vh w8 hBz ⟨hOz, hAz, hNz, hSz⟩; have E29 : vh 29 = _ := hOz 0 (by decide) rfl; have E30 : vh 30 = _ := hOz 1 (by decide) rfl; have E31 : vh 31 = _ := hOz 2 (by decide) rfl; have E32 : vh 32 = _ := hOz 3 (by decide) rfl; obtain ⟨n33a_, A33a_, l33a_, c33a_, n33b_, A33b_, l33b_, c33b_, E33, q33a, q33b⟩ : SV_yy _ _ _ _ w8 (vh 33) := hOz 4 (by decide) rfl; obtain ⟨cs5, bx5n, hs5⟩ := hSz 5 _ _ _ (by decide) rfl; obtain ⟨n5sha_, A5sha_, l5sha_, c5sha_, n5shb_, A5shb_, l5shb_, c5shb_, E5sh, q5sha, q5shb⟩ : SV_yy _ _ _ _ w8 (.agg cs5) := hs5; injection E5sh with E5sh
    subst E5sh; simp only [Act.put, actv, fill, fC, fN, tA, cS, cZ]; simp only [E29, E30, E31, E32, E33]; clear E29 E30 E31 E32 E33; replace ht := ht.ext hBz.ext; replace q5a := q5a.ext hBz.ext; replace q5b := q5b.ext hBz.ext; replace q11sga := q11sga.ext hBz.ext; replace q11sgb := q11sgb.ext hBz.ext; replace h0 := h0.ext hBz.ext; replace h1 := h1.ext hBz.ext; replace hb1 := hBz.blk hb1 (zM (Ne.symm hne5_g.out) zN); replace hb2 := hBz.blk hb2 (zM (Ne.symm hne5_p.out) zN); replace bx8 := hBz.blk bx8 (zM (Ne.symm hne5_8.out) zN); replace bx9 := hBz.blk bx9 (zM (Ne.symm hne5_9.out) zN); replace bx11 := hBz.blk bx11 (zM hne11_5.out zN); replace HL4 := HL4.step hBz (zA (Or.inl (by simp)) zE); replace HB := hide (HB.out.trans (hBz.below (B := w.heap.size) HB.out.size (zA hge5 zE))); clear bx5; have bx5 := bx5n; clear bx5n; clear hOz hAz hNz hSz hBz
    go_wp2_with fail
    go_roundw
    case rel => exact ⟨i + 1, by omega, by go_num, HL4, trivial, ⟨_, _, _, _, _, _, _, _, bx5, (q5sha.fit (HA.out (i + 1) (by omega))).q, (q5shb.fit (HB_.out (i + 1) (by omega))).q⟩, ⟨_, _, _, _, _, _, _, _, bx11, (by rw [tu_neg hpar]; exact (q11sga.fit (by have h9 := HS.out (i + 1) (by omega); rw [tu_neg hpar] at h9; exact h9)).q), (by rw [tu_neg hpar]; exact (q11sgb.fit (by have h9 := HT.out (i + 1) (by omega); rw [tu_neg hpar] at h9; exact h9)).q)⟩⟩
    case measure => simp [intOf]; omega
  ·
   have hgei : ¬ (i : Int) < 2 * (N : Int) := by omega
   have hie := hide (show i = 2 * N by omega); clear hlti
   go_upto_region 11 with (fail)
   clear hgei; refine F2.region [.o, .o, .o, .o, .o, .o, .o, .o, .o, .o, .o, .o, .so (g8) 24 #[.bool false, .slice none 0 0], .so (g9) 24 #[.bool false, .slice none 0 0], .o] [Fact.eq ?ci35_, Fact.eq ?ci36_, Fact.z ?ki37_ ?zi37_, Fact.eq ?ci38_, Fact.eq ?ci39_, Fact.eq ?ci40_, Fact.eq ?ci41_, Fact.eq ?ci42_, Fact.eq ?ci43_, Fact.s_zz ?ki44_a ?zi44_a ?ki44_b ?zi44_b, Fact.s_z ?ki45_a ?zi45_a, Fact.z ?ki46_ ?zi46_, Fact.z ?kis8_ ?zis8_, Fact.z ?kis9_ ?zis9_, Fact.eq ?ci10_] [35, 36, 37, 38, 39, 40, 41, 42, 43, 44, 45, 46, 10] [35, 36, 37, 38, 39, 40, 41, 42, 43, 44, 45, 46, 0, 0, 10] (by kernel_rfl) ?soi ?sopi (by kernel_rfl) ?sti ?fini
   case soi => exact List.forall_mem_cons.2 ⟨⟨bx8, NoU.two nB nS⟩, List.forall_mem_cons.2 ⟨⟨bx9, NoU.two nB nS⟩, fun x hx => by cases hx⟩⟩
   case sopi => exact List.Pairwise.cons (by intro y hy; simp [F2.sos] at hy; have hne8_9 := hne8_9.out; first | (subst hy; simp; done) | (subst hy; simp; omega) | (rcases hy with rfl | rfl <;> simp <;> omega)) (List.Pairwise.cons (fun y hy => by cases hy) (List.Pairwise.nil))
   case sti =>
    refine F2.Steps.consO rfl ?_ ?_
    ·
     intro vz wz hBz hDz hTz K hK; have HW := ext_drew hBz.ext; simp only [zy, F2.Wp] at hK ⊢; go_simp; refine hK _ wz zB (Fact.eq_mk ?_); with_reducible rfl
    refine F2.Steps.consO rfl ?_ ?_
    ·
     intro vz wz hBz hDz hTz K hK; have E35 : vz 35 = _ := hDz 0 (by kernel_rfl) rfl; have HW := ext_drew hBz.ext; have bx11z := hBz.blk bx11.drew (zM hne11_8.out (zM hne11_9.out zN)); obtain ⟨zl0, zl1, zl2, zl3, -⟩ := bx11z.four; simp only [zy, F2.Wp] at hK ⊢; simp only [E35] at hK ⊢; go_simp; refine hK _ wz zB (Fact.eq_mk ?_); with_reducible rfl
    refine F2.Steps.consO rfl ?_ ?_
    ·
     intro vz wz hBz hDz hTz K hK; have E36 : vz 36 = _ := hDz 1 (by kernel_rfl) rfl; have HW := ext_drew hBz.ext; simp only [zy, F2.Wp] at hK ⊢; simp only [E36] at hK ⊢; go_simp; refine Calls.mono (v_norm (q11a.ext HW) (by omega)) ?_; rintro e w2z ⟨hb2, uz, rfl, hf⟩
     go_wp2_with fail
     refine hK _ w2z hb2 (Fact.cast (hf) ?_); with_reducible rfl
    refine F2.Steps.consO rfl ?_ ?_
    ·
     intro vz wz hBz hDz hTz K hK; have HW := ext_drew hBz.ext; simp only [zy, F2.Wp] at hK ⊢; go_simp; refine hK _ wz zB (Fact.eq_mk ?_); with_reducible rfl
    refine F2.Steps.consO rfl ?_ ?_
    ·
     intro vz wz hBz hDz hTz K hK; have E38 : vz 38 = _ := hDz 3 (by kernel_rfl) rfl; have HW := ext_drew hBz.ext; have bx11z := hBz.blk bx11.drew (zM hne11_8.out (zM hne11_9.out zN)); obtain ⟨zl0, zl1, zl2, zl3, -⟩ := bx11z.four; simp only [zy, F2.Wp] at hK ⊢; simp only [E38] at hK ⊢; go_simp; refine hK _ wz zB (Fact.eq_mk ?_); with_reducible rfl
    refine F2.Steps.consO rfl ?_ ?_
    ·
     intro vz wz hBz hDz hTz K hK; have HW := ext_drew hBz.ext; simp only [zy, F2.Wp] at hK ⊢; go_simp; refine hK _ wz zB (Fact.eq_mk ?_); with_reducible rfl
    refine F2.Steps.consO rfl ?_ ?_
    ·
     intro vz wz hBz hDz hTz K hK; have HW := ext_drew hBz.ext; simp only [zy, F2.Wp] at hK ⊢; go_simp; refine hK _ wz zB (Fact.eq_mk ?_); with_reducible rfl
    refine F2.Steps.consO rfl ?_ ?_
    ·
     intro vz wz hBz hDz hTz K hK; have E41 : vz 41 = _ := hDz 6 (by kernel_rfl) rfl; have HW := ext_drew hBz.ext; simp only [zy, F2.Wp] at hK ⊢; simp only [E41] at hK ⊢; go_simp
     try simp (disch := omega) only [IntWalk.i64_in]
     refine hK _ wz zB (Fact.eq_mk ?_); with_reducible rfl
    refine F2.Steps.consO rfl ?_ ?_
    ·
     intro vz wz hBz hDz hTz K hK; have HW := ext_drew hBz.ext; have bx5z := hBz.blk bx5.drew (zM hne5_8.out (zM hne5_9.out zN)); obtain ⟨zl0, zl1, zl2, zl3, -⟩ := bx5z.four; simp only [zy, F2.Wp] at hK ⊢; go_simp; refine hK _ wz zB (Fact.eq_mk ?_); with_reducible rfl
    refine F2.Steps.consO rfl ?_ ?_
    ·
     intro vz wz hBz hDz hTz K hK; have E40 : vz 40 = _ := hDz 5 (by kernel_rfl) rfl; have E42 : vz 42 = _ := hDz 7 (by kernel_rfl) rfl; have E43 : vz 43 = _ := hDz 8 (by kernel_rfl) rfl; have HW := ext_drew hBz.ext; simp only [zy, F2.Wp] at hK ⊢; simp only [E40, E42, E43] at hK ⊢; go_simp; refine Calls.mono (rwhole_calls (q5a.ext HW) (q5b.ext HW)) ?_; rintro e w2z ⟨hb2, uz, rfl, hf⟩
     go_wp2_with fail
     refine hK _ w2z hb2 (Fact.cast (hf) ?_); with_reducible rfl
    refine F2.Steps.consO rfl ?_ ?_
    ·
     intro vz wz hBz hDz hTz K hK; obtain ⟨n44a_, A44a_, l44a_, c44a_, n44b_, A44b_, l44b_, c44b_, E44, q44a, q44b⟩ : SV_zz _ _ _ _ wz (vz 44) := hDz 9 (by kernel_rfl) rfl; have HW := ext_drew hBz.ext; simp only [zy, F2.Wp] at hK ⊢; simp only [E44] at hK ⊢; go_simp; refine hK _ wz zB (Fact.cast (Fact.s_z_mk q44b) ?_); with_reducible rfl
    refine F2.Steps.consO rfl ?_ ?_
    ·
     intro vz wz hBz hDz hTz K hK; have E39 : vz 39 = _ := hDz 4 (by kernel_rfl) rfl; obtain ⟨n45a_, A45a_, l45a_, c45a_, E45, q45a⟩ : SV_z _ _ wz (vz 45) := hDz 10 (by kernel_rfl) rfl; have HW := ext_drew hBz.ext; simp only [zy, F2.Wp] at hK ⊢; simp only [E39, E45] at hK ⊢; go_simp; refine Calls.mono (v_add (q11b.ext HW) q45a (by omega) (by omega)) ?_; rintro e w2z ⟨hb2, uz, rfl, hf⟩
     go_wp2_with fail
     refine hK _ w2z hb2 (Fact.cast (hf) ?_); with_reducible rfl
    refine F2.Steps.consT rfl ?_ ?_
    ·
     intro vz wz hBz hDz hbz K hK; obtain ⟨zc0, zc1, zc2, zc3⟩ := hbz.two; obtain ⟨n37_, A37_, l37_, c37_, E37, q37⟩ : IntV 0 _ _ wz (vz 37) := hDz 2 (by kernel_rfl) rfl; have HW := ext_drew hBz.ext; simp only [zy, F2.Wp] at hK ⊢; simp only [E37] at hK ⊢; go_simp; refine hK _ ((Far.set _ _ 0 _).trans (Far.set _ _ 1 _)) ⟨_, blk_two hbz, NoU.two nB nS, Fact.cast (Fact.z_mk q37) ?_⟩; with_reducible rfl
    refine F2.Steps.consT rfl ?_ ?_
    ·
     intro vz wz hBz hDz hbz K hK; obtain ⟨zc0, zc1, zc2, zc3⟩ := hbz.two; obtain ⟨n46_, A46_, l46_, c46_, E46, q46⟩ : IntV 0 _ _ wz (vz 46) := hDz 11 (by kernel_rfl) rfl; have HW := ext_drew hBz.ext; simp only [zy, F2.Wp] at hK ⊢; simp only [E46] at hK ⊢; go_simp; refine hK _ ((Far.set _ _ 0 _).trans (Far.set _ _ 1 _)) ⟨_, blk_two hbz, NoU.two nB nS, Fact.cast (Fact.z_mk q46) ?_⟩; with_reducible rfl
    refine F2.Steps.consO rfl ?_ ?_
    ·
     intro vz wz hBz hDz hTz K hK; have HW := ext_drew hBz.ext; simp only [zy, F2.Wp] at hK ⊢; go_simp; refine hK _ wz zB (Fact.eq_mk ?_); with_reducible rfl
    exact F2.Steps.nil
   intro vi w9 hBz ⟨hOz, hAz, hNz, hSz⟩; have E35 : vi 35 = _ := hOz 0 (by decide) rfl; have E36 : vi 36 = _ := hOz 1 (by decide) rfl; obtain ⟨n37_, A37_, l37_, c37_, E37, q37⟩ : IntV 0 _ _ w9 (vi 37) := hOz 2 (by decide) rfl; have E38 : vi 38 = _ := hOz 3 (by decide) rfl; have E39 : vi 39 = _ := hOz 4 (by decide) rfl; have E40 : vi 40 = _ := hOz 5 (by decide) rfl; have E41 : vi 41 = _ := hOz 6 (by decide) rfl; have E42 : vi 42 = _ := hOz 7 (by decide) rfl; have E43 : vi 43 = _ := hOz 8 (by decide) rfl; obtain ⟨n44a_, A44a_, l44a_, c44a_, n44b_, A44b_, l44b_, c44b_, E44, q44a, q44b⟩ : SV_zz _ _ _ _ w9 (vi 44) := hOz 9 (by decide) rfl; obtain ⟨n45a_, A45a_, l45a_, c45a_, E45, q45a⟩ : SV_z _ _ w9 (vi 45) := hOz 10 (by decide) rfl; obtain ⟨n46_, A46_, l46_, c46_, E46, q46⟩ : IntV 0 _ _ w9 (vi 46) := hOz 11 (by decide) rfl; obtain ⟨cs8, bx8n, hs8⟩ := hSz 12 _ _ _ (by decide) rfl; obtain ⟨n8si_, A8si_, l8si_, c8si_, E8si, q8si⟩ : IntV 0 _ _ w9 (.agg cs8) := hs8; injection E8si with E8si
   subst E8si; obtain ⟨cs9, bx9n, hs9⟩ := hSz 13 _ _ _ (by decide) rfl; obtain ⟨n9si_, A9si_, l9si_, c9si_, E9si, q9si⟩ : IntV 0 _ _ w9 (.agg cs9) := hs9; injection E9si with E9si
   subst E9si; have E10 : vi 10 = _ := hOz 14 (by decide) rfl; simp only [Act.put, actv, fill, fC, fN, tA, cS, cZ]; simp only [E35, E36, E37, E38, E39, E40, E41, E42, E43, E44, E45, E46, E10]; clear E35 E36 E37 E38 E39 E40 E41 E42 E43 E44 E45 E46 E10; replace ht := ht.ext hBz.ext; replace q5a := q5a.ext hBz.ext; replace q5b := q5b.ext hBz.ext; replace q11a := q11a.ext hBz.ext; replace q11b := q11b.ext hBz.ext; replace h0 := h0.ext hBz.ext; replace h1 := h1.ext hBz.ext; replace hb1 := hBz.blk hb1 (zM (Ne.symm hne8_g.out) (zM (Ne.symm hne9_g.out) zN)); replace hb2 := hBz.blk hb2 (zM (Ne.symm hne8_p.out) (zM (Ne.symm hne9_p.out) zN)); replace bx5 := hBz.blk bx5 (zM hne5_8.out (zM hne5_9.out zN)); replace bx11 := hBz.blk bx11 (zM hne11_8.out (zM hne11_9.out zN)); replace HB := hide (HB.out.trans (hBz.below (B := w.heap.size) HB.out.size (zA hge8 (zA hge9 zE)))); clear bx8; clear bx9; have bx8 := bx8n; clear bx8n; have bx9 := bx9n; clear bx9n; clear hOz hAz hNz hSz hBz; have hie := hie.out; subst hie
   go_wp2_with fail
   refine bodyPost_ret (results_int_int_tmp rfl _ _ _ _ _ _ _ _ _ _ rfl bx8 rfl bx9) rfl ⟨HB.out, ?_⟩; exact VF.mk (Fact.t3_mk (Fact.z_mk (q8si.up (by omega))) (Fact.z_mk (q9si.up (by omega))) (Fact.eq_self _ _))
end Go.Proofs.YtnephejalollfaaGreat

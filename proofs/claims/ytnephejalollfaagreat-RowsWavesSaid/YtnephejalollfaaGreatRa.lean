/- rows: a pair's steps. -/
import Derived.Test.YtnephejalollfaaGreatWk
set_option linter.unusedVariables false
set_option linter.unusedSimpArgs false
namespace Go.Proofs.YtnephejalollfaaGreat
open Go.RowKit
open L (val dig nth)
theorem results_pair {fn : Func} {p0 : Tmp} (h : fn.results = #[.cell p0 39]) (tmps : Array Value) (w : World) (r0 : Nat) (t0 : TypeId) (a0_0 a0_1 a0_2 a0_3 : Value) (hp0 : tmps.getD p0 undef = .pointer (some ⟨r0, 0, none⟩)) (hb0 : Blk w r0 t0 #[a0_0, a0_1, a0_2, a0_3]) :
    (results fn tmps).run Tryz.prog w = .ok (.agg #[a0_0, a0_1, a0_2, a0_3]) w := by
  have hl0 : (loadVar 39 ⟨r0, 0, none⟩).run Tryz.prog w = .ok (.agg #[a0_0, a0_1, a0_2, a0_3]) w := by
    obtain ⟨c0, c1, c2, c3, -⟩ := hb0.four; simp [go_sem, c0, c1, c2, c3]
  simp only [results, h]; simp only [Array.getD_eq_getD_getElem?] at hp0; simp [Sem.run_bind, Result.andThen, asAddr, hp0, hl0]
set_option maxHeartbeats 4000000 in
set_option maxRecDepth 100000 in
theorem rtimes_calls {w : World}  {k0 k1 k2 : Nat} {n0 n1 n2 : Bool} {A0 A1 A2 : Option Addr} {l0 l1 l2 c0 c1 c2 : Nat} {x0 x1 x2 : Int} {y q : Int} (h0 : Q w k0 n0 A0 l0 c0 x0) (h1 : Q w k1 n1 A1 l1 c1 x1) (h2 : Q w k2 n2 A2 l2 c2 x2) (hk0 : k0 ≤ 10000) (hk1 : k1 ≤ 10000) (hk2 : k2 ≤ 10000) (hy0 : 1 ≤ y) (hy1 : y ≤ 1000000000) (hq0 : 0 ≤ q) (hq1 : q ≤ 8000) :
    Calls Tryz.prog 24 #[.agg #[.bool n0, .slice A0 l0 c0, .bool n1, .slice A1 l1 c1], .agg #[.bool n2, .slice A2 l2 c2], .int .i64 y, .int .i64 q] w fun e w' => Below w.heap.size w w' ∧ VF (Fact.s_yy (k0 + k2) (x0 * x2 / (y * 2 ^ q.toNat)) (k1 + k2) (vUp (x1 * x2) (y * 2 ^ q.toNat))) e w' := by
 have hy : y * 2 ^ q.toNat ≠ 0 := Int.ne_of_gt (Int.mul_pos (by omega) (Int.pow_pos (by omega)))
 go_enter Tryz.func24, Tryz.ntmps24
 have HB : Hid (Below w.heap.size w w) := hide (Below.refl _ _)
 go_upto_region 0 with (fail)
 refine F2.regionS [.al 39 #[.bool n0, .slice A0 l0 c0, .bool n1, .slice A1 l1 c1], .al 24 #[.bool n2, .slice A2 l2 c2], .al 39 #[.bool false, .slice none 0 0, .bool false, .slice none 0 0]] [Fact.any, Fact.any, Fact.any] [4, 5, 8] [4, 5, 8] (by kernel_rfl) ?soa ?sopa (by kernel_rfl) ?sta ?fina
 case soa => exact fun x hx => by cases hx
 case sopa => exact List.Pairwise.nil
 case sta =>
  refine F2.Steps.consA rfl ⟨NoU.four nB nS nB nS, ?_⟩ ?_
  ·
   intro vz wz hBz K hK; simp only [zy, F2.Wp] at hK ⊢; go_simp; exact hK
  refine F2.Steps.consA rfl ⟨NoU.two nB nS, ?_⟩ ?_
  ·
   intro vz wz hBz K hK; simp only [zy, F2.Wp] at hK ⊢; go_simp; exact hK
  refine F2.Steps.consA rfl ⟨NoU.four nB nS nB nS, ?_⟩ ?_
  ·
   intro vz wz hBz K hK; simp only [zy, F2.Wp] at hK ⊢; go_simp; exact hK
  exact F2.Steps.nil
 intro va w1 hBz ⟨hOz, hAz, hNz, hSz⟩; obtain ⟨g4, cs4, E4, hg4, bx4, hs4, hz4⟩ := hAz 0 _ _ (by decide) rfl; have hzz := hz4 (F2.nost (by kernel_rfl)); subst hzz; obtain ⟨g5, cs5, E5, hg5, bx5, hs5, hz5⟩ := hAz 1 _ _ (by decide) rfl; have hzz := hz5 (F2.nost (by kernel_rfl)); subst hzz; obtain ⟨g8, cs8, E8, hg8, bx8, hs8, hz8⟩ := hAz 2 _ _ (by decide) rfl; have hzz := hz8 (F2.nost (by kernel_rfl)); subst hzz; have hne4_5 : Hid (¬ g4 = g5) := hide (fun h => hNz 0 1 _ _ _ _ (by decide) (by decide) (by decide) rfl rfl (by rw [E4, E5, h])); have hne4_8 : Hid (¬ g4 = g8) := hide (fun h => hNz 0 2 _ _ _ _ (by decide) (by decide) (by decide) rfl rfl (by rw [E4, E8, h])); have hne5_8 : Hid (¬ g5 = g8) := hide (fun h => hNz 1 2 _ _ _ _ (by decide) (by decide) (by decide) rfl rfl (by rw [E5, E8, h])); simp only [Act.put, actv, fill, fC, fN, tA, cS, cZ]; simp only [(show va 4 = _ from E4), (show va 5 = _ from E5), (show va 8 = _ from E8)]; clear E4 E5 E8; have hge4 : w.heap.size ≤ g4 := Nat.le_trans HB.out.size hg4; have hge5 : w.heap.size ≤ g5 := Nat.le_trans HB.out.size hg5; have hge8 : w.heap.size ≤ g8 := Nat.le_trans HB.out.size hg8; replace h0 := h0.ext hBz.ext; replace h1 := h1.ext hBz.ext; replace h2 := h2.ext hBz.ext; replace HB := hide (HB.out.trans (hBz.below (B := w.heap.size) HB.out.size zE)); clear hOz hAz hNz hSz hs4 hz4 hs5 hz5 hs8 hz8 hBz
 go_upto_region 1 with (fail)
 refine F2.regionS [.o, .o, .o, .o, .al 24 #[.bool false, .slice none 0 0], .st 4] [Fact.eq ?cb15_, Fact.z ?kb16_ ?zb16_, Fact.eq ?cb17_, Fact.z ?kb18_ ?zb18_, Fact.any, Fact.z ?kbs9_ ?zbs9_] [15, 16, 17, 18, 9] [15, 16, 17, 18, 9, 0] (by kernel_rfl) ?sob ?sopb (by kernel_rfl) ?stb ?finb
 case sob => exact fun x hx => by cases hx
 case sopb => exact List.Pairwise.nil
 case stb =>
  refine F2.Steps.consO rfl ?_ ?_
  ·
   intro vz wz hBz hDz hTz K hK; have HW := hBz.ext; simp only [zy, F2.Wp] at hK ⊢; go_simp; refine hK _ wz zB (Fact.eq_mk ?_); with_reducible rfl
  refine F2.Steps.consO rfl ?_ ?_
  ·
   intro vz wz hBz hDz hTz K hK; have E15 : vz 15 = _ := hDz 0 (by kernel_rfl) rfl; have HW := hBz.ext; simp only [zy, F2.Wp] at hK ⊢; simp only [E15] at hK ⊢; go_simp; refine Calls.mono (v_of  (by omega) (by omega)) ?_; rintro e w2z ⟨hb2, uz, rfl, hf⟩
   go_wp2_with fail
   refine hK _ w2z hb2 (Fact.cast (hf) ?_); with_reducible rfl
  refine F2.Steps.consO rfl ?_ ?_
  ·
   intro vz wz hBz hDz hTz K hK; have HW := hBz.ext; simp only [zy, F2.Wp] at hK ⊢; go_simp; refine hK _ wz zB (Fact.eq_mk ?_); with_reducible rfl
  refine F2.Steps.consO rfl ?_ ?_
  ·
   intro vz wz hBz hDz hTz K hK; obtain ⟨n16_, A16_, l16_, c16_, E16, q16⟩ : IntV 0 _ _ wz (vz 16) := hDz 1 (by kernel_rfl) rfl; have E17 : vz 17 = _ := hDz 2 (by kernel_rfl) rfl; have HW := hBz.ext; simp only [zy, F2.Wp] at hK ⊢; simp only [E16, E17] at hK ⊢; go_simp; refine Calls.mono (v_shl q16.q (by omega) (by omega) (by omega)) ?_; rintro e w2z ⟨hb2, uz, rfl, hf⟩
   go_wp2_with fail
   refine hK _ w2z hb2 (Fact.cast (hf) ?_); with_reducible rfl
  refine F2.Steps.consA rfl ⟨NoU.two nB nS, ?_⟩ ?_
  ·
   intro vz wz hBz K hK; simp only [zy, F2.Wp] at hK ⊢; go_simp; exact hK
  refine F2.Steps.consS rfl rfl ?_ ?_
  ·
   intro vz wz gz hBz hDz E9' hgz hbz K hK; obtain ⟨zc0, zc1, zc2, zc3⟩ := hbz.two; obtain ⟨n18_, A18_, l18_, c18_, E18, q18⟩ : IntV 0 _ _ wz (vz 18) := hDz 3 (by kernel_rfl) rfl; have E9 : vz 9 = .pointer (some ⟨gz, 0, none⟩) := E9'; have HW := hBz.ext; simp only [zy, F2.Wp] at hK ⊢; simp only [E9, E18] at hK ⊢; go_simp; refine hK _ ((Far.set _ gz 0 _).trans (Far.set _ gz 1 _)) ⟨_, blk_two hbz, NoU.two nB nS, Fact.cast (Fact.z_mk q18) ?_⟩; with_reducible rfl
  exact F2.Steps.nil
 intro vb w2 hBz ⟨hOz, hAz, hNz, hSz⟩; have E15 : vb 15 = _ := hOz 0 (by decide) rfl; obtain ⟨n16_, A16_, l16_, c16_, E16, q16⟩ : IntV 0 _ _ w2 (vb 16) := hOz 1 (by decide) rfl; have E17 : vb 17 = _ := hOz 2 (by decide) rfl; obtain ⟨n18_, A18_, l18_, c18_, E18, q18⟩ : IntV 0 _ _ w2 (vb 18) := hOz 3 (by decide) rfl; obtain ⟨g9, cs9, E9, hg9, bx9, hs9, hz9⟩ := hAz 4 _ _ (by decide) rfl; obtain ⟨n9sb_, A9sb_, l9sb_, c9sb_, E9sb, q9sb⟩ : IntV 0 _ _ w2 (.agg cs9) := hs9 5 (by decide) rfl; injection E9sb with E9sb
 subst E9sb; simp only [Act.put, actv, fill, fC, fN, tA, cS, cZ]; simp only [E15, E16, E17, E18, (show vb 9 = _ from E9)]; clear E15 E16 E17 E18 E9; have hge9 : w.heap.size ≤ g9 := Nat.le_trans HB.out.size hg9; have hne9_4 := hide (Nat.ne_of_gt (Nat.lt_of_lt_of_le bx4.lt (show w1.heap.size ≤ g9 from hg9))); have hne9_5 := hide (Nat.ne_of_gt (Nat.lt_of_lt_of_le bx5.lt (show w1.heap.size ≤ g9 from hg9))); have hne9_8 := hide (Nat.ne_of_gt (Nat.lt_of_lt_of_le bx8.lt (show w1.heap.size ≤ g9 from hg9))); replace h0 := h0.ext hBz.ext; replace h1 := h1.ext hBz.ext; replace h2 := h2.ext hBz.ext; replace bx4 := hBz.blk bx4 zN; replace bx5 := hBz.blk bx5 zN; replace bx8 := hBz.blk bx8 zN; replace HB := hide (HB.out.trans (hBz.below (B := w.heap.size) HB.out.size zE)); clear hOz hAz hNz hSz hs9 hz9 hBz
 go_upto_region 2 with (fail)
 refine F2.region [.o, .o, .o, .o, .o, .o, .o, .o, .o, .o, .al 24 #[.bool false, .slice none 0 0], .al 24 #[.bool false, .slice none 0 0], .st 10, .st 11, .o] [Fact.eq ?cc20_, Fact.eq ?cc21_, Fact.eq ?cc22_, Fact.z ?kc23_ ?zc23_, Fact.eq ?cc24_, Fact.t3 (Fact.z ?kc25_p ?zc25_p) (Fact.z ?kc25_q ?zc25_q) (Fact.eq ?cc25_r), Fact.t3 (Fact.z ?kc19_p ?zc19_p) (Fact.z ?kc19_q ?zc19_q) (Fact.eq ?cc19_r), Fact.z ?kc26_ ?zc26_, Fact.z ?kc27_ ?zc27_, Fact.eq ?cc28_, Fact.any, Fact.any, Fact.z ?kcs10_ ?zcs10_, Fact.z ?kcs11_ ?zcs11_, Fact.eq ?cc12_] [20, 21, 22, 23, 24, 25, 19, 26, 27, 28, 10, 11, 12] [20, 21, 22, 23, 24, 25, 19, 26, 27, 28, 10, 11, 0, 0, 12] (by kernel_rfl) ?soc ?sopc (by kernel_rfl) ?stc ?finc
 case soc => exact fun x hx => by cases hx
 case sopc => exact List.Pairwise.nil
 case stc =>
  refine F2.Steps.consO rfl ?_ ?_
  ·
   intro vz wz hBz hDz hTz K hK; have HW := ext_drew hBz.ext; simp only [zy, F2.Wp] at hK ⊢; go_simp; refine hK _ wz zB (Fact.eq_mk ?_); with_reducible rfl
  refine F2.Steps.consO rfl ?_ ?_
  ·
   intro vz wz hBz hDz hTz K hK; have E20 : vz 20 = _ := hDz 0 (by kernel_rfl) rfl; have HW := ext_drew hBz.ext; have bx4z := hBz.blk bx4.drew zN; obtain ⟨zl0, zl1, zl2, zl3, -⟩ := bx4z.four; simp only [zy, F2.Wp] at hK ⊢; simp only [E20] at hK ⊢; go_simp; refine hK _ wz zB (Fact.eq_mk ?_); with_reducible rfl
  refine F2.Steps.consO rfl ?_ ?_
  ·
   intro vz wz hBz hDz hTz K hK; have HW := ext_drew hBz.ext; have bx5z := hBz.blk bx5.drew zN; obtain ⟨zl0, zl1, -⟩ := bx5z.two; simp only [zy, F2.Wp] at hK ⊢; go_simp; refine hK _ wz zB (Fact.eq_mk ?_); with_reducible rfl
  refine F2.Steps.consO rfl ?_ ?_
  ·
   intro vz wz hBz hDz hTz K hK; have E21 : vz 21 = _ := hDz 1 (by kernel_rfl) rfl; have E22 : vz 22 = _ := hDz 2 (by kernel_rfl) rfl; have HW := ext_drew hBz.ext; simp only [zy, F2.Wp] at hK ⊢; simp only [E21, E22] at hK ⊢; go_simp; refine Calls.mono (v_mul (h0.ext HW) (h2.ext HW) (by omega) (by omega)) ?_; rintro e w2z ⟨hb2, uz, rfl, hf⟩
   go_wp2_with fail
   refine hK _ w2z hb2 (Fact.cast (hf) ?_); with_reducible rfl
  refine F2.Steps.consO rfl ?_ ?_
  ·
   intro vz wz hBz hDz hTz K hK; have HW := ext_drew hBz.ext; have bx9z := hBz.blk bx9.drew zN; obtain ⟨zl0, zl1, -⟩ := bx9z.two; simp only [zy, F2.Wp] at hK ⊢; go_simp; refine hK _ wz zB (Fact.eq_mk ?_); with_reducible rfl
  refine F2.Steps.consO rfl ?_ ?_
  ·
   intro vz wz hBz hDz hTz K hK; obtain ⟨n23_, A23_, l23_, c23_, E23, q23⟩ : IntV 0 _ _ wz (vz 23) := hDz 3 (by kernel_rfl) rfl; have E24 : vz 24 = _ := hDz 4 (by kernel_rfl) rfl; have HW := ext_drew hBz.ext; simp only [zy, F2.Wp] at hK ⊢; simp only [E23, E24] at hK ⊢; go_simp; refine Calls.mono (v_divmod q23.q (q9sb.ext HW).q (by omega) (by omega) hy) ?_; rintro e w2z ⟨hb2, uz, rfl, hf⟩
   go_wp2_with fail
   refine hK _ w2z hb2 (Fact.cast (hf) ?_); with_reducible rfl
  refine F2.Steps.consO rfl ?_ ?_
  ·
   intro vz wz hBz hDz hTz K hK; obtain ⟨x25p_, x25q_, x25r_, E25, h25p, h25q, h25r⟩ : TV3 _ _ _ wz (vz 25) := hDz 5 (by kernel_rfl) rfl; obtain rfl := Fact.eq_of h25r; have HW := ext_drew hBz.ext; simp only [zy, F2.Wp] at hK ⊢; simp only [E25] at hK ⊢; go_simp; refine hK _ wz zB (Fact.cast (Fact.t3_mk h25p h25q (Fact.eq_self _ _)) ?_); with_reducible rfl
  refine F2.Steps.consO rfl ?_ ?_
  ·
   intro vz wz hBz hDz hTz K hK; obtain ⟨x19p_, x19q_, x19r_, E19, h19p, h19q, h19r⟩ : TV3 _ _ _ wz (vz 19) := hDz 6 (by kernel_rfl) rfl; obtain rfl := Fact.eq_of h19r; have HW := ext_drew hBz.ext; simp only [zy, F2.Wp] at hK ⊢; simp only [E19] at hK ⊢; go_simp; refine hK _ wz zB (Fact.cast (h19p) ?_); with_reducible rfl
  refine F2.Steps.consO rfl ?_ ?_
  ·
   intro vz wz hBz hDz hTz K hK; obtain ⟨x19p_, x19q_, x19r_, E19, h19p, h19q, h19r⟩ : TV3 _ _ _ wz (vz 19) := hDz 6 (by kernel_rfl) rfl; obtain rfl := Fact.eq_of h19r; have HW := ext_drew hBz.ext; simp only [zy, F2.Wp] at hK ⊢; simp only [E19] at hK ⊢; go_simp; refine hK _ wz zB (Fact.cast (h19q) ?_); with_reducible rfl
  refine F2.Steps.consO rfl ?_ ?_
  ·
   intro vz wz hBz hDz hTz K hK; obtain ⟨x19p_, x19q_, x19r_, E19, h19p, h19q, h19r⟩ : TV3 _ _ _ wz (vz 19) := hDz 6 (by kernel_rfl) rfl; obtain rfl := Fact.eq_of h19r; have HW := ext_drew hBz.ext; simp only [zy, F2.Wp] at hK ⊢; simp only [E19] at hK ⊢; go_simp; refine hK _ wz zB (Fact.eq_mk ?_); with_reducible rfl
  refine F2.Steps.consA rfl ⟨NoU.two nB nS, ?_⟩ ?_
  ·
   intro vz wz hBz K hK; simp only [zy, F2.Wp] at hK ⊢; go_simp; exact hK
  refine F2.Steps.consA rfl ⟨NoU.two nB nS, ?_⟩ ?_
  ·
   intro vz wz hBz K hK; simp only [zy, F2.Wp] at hK ⊢; go_simp; exact hK
  refine F2.Steps.consS rfl rfl ?_ ?_
  ·
   intro vz wz gz hBz hDz E10' hgz hbz K hK; obtain ⟨zc0, zc1, zc2, zc3⟩ := hbz.two; obtain ⟨n26_, A26_, l26_, c26_, E26, q26⟩ : IntV 0 _ _ wz (vz 26) := hDz 7 (by kernel_rfl) rfl; have E10 : vz 10 = .pointer (some ⟨gz, 0, none⟩) := E10'; have HW := ext_drew hBz.ext; simp only [zy, F2.Wp] at hK ⊢; simp only [E10, E26] at hK ⊢; go_simp; refine hK _ ((Far.set _ gz 0 _).trans (Far.set _ gz 1 _)) ⟨_, blk_two hbz, NoU.two nB nS, Fact.cast (Fact.z_mk q26) ?_⟩; with_reducible rfl
  refine F2.Steps.consS rfl rfl ?_ ?_
  ·
   intro vz wz gz hBz hDz E11' hgz hbz K hK; obtain ⟨zc0, zc1, zc2, zc3⟩ := hbz.two; obtain ⟨n27_, A27_, l27_, c27_, E27, q27⟩ : IntV 0 _ _ wz (vz 27) := hDz 8 (by kernel_rfl) rfl; have E11 : vz 11 = .pointer (some ⟨gz, 0, none⟩) := E11'; have HW := ext_drew hBz.ext; simp only [zy, F2.Wp] at hK ⊢; simp only [E11, E27] at hK ⊢; go_simp; refine hK _ ((Far.set _ gz 0 _).trans (Far.set _ gz 1 _)) ⟨_, blk_two hbz, NoU.two nB nS, Fact.cast (Fact.z_mk q27) ?_⟩; with_reducible rfl
  refine F2.Steps.consO rfl ?_ ?_
  ·
   intro vz wz hBz hDz hTz K hK; have E28 : vz 28 = _ := hDz 9 (by kernel_rfl) rfl; have HW := ext_drew hBz.ext; simp only [zy, F2.Wp] at hK ⊢; simp only [E28] at hK ⊢; go_simp; refine hK _ wz zB (Fact.eq_mk ?_); with_reducible rfl
  exact F2.Steps.nil
 intro vc w3 hBz ⟨hOz, hAz, hNz, hSz⟩; have E20 : vc 20 = _ := hOz 0 (by decide) rfl; have E21 : vc 21 = _ := hOz 1 (by decide) rfl; have E22 : vc 22 = _ := hOz 2 (by decide) rfl; obtain ⟨n23_, A23_, l23_, c23_, E23, q23⟩ : IntV 0 _ _ w3 (vc 23) := hOz 3 (by decide) rfl; have E24 : vc 24 = _ := hOz 4 (by decide) rfl; obtain ⟨x25p_, x25q_, x25r_, E25, h25p, h25q, h25r⟩ : TV3 _ _ _ w3 (vc 25) := hOz 5 (by decide) rfl; obtain rfl := Fact.eq_of h25r; obtain ⟨x19p_, x19q_, x19r_, E19, h19p, h19q, h19r⟩ : TV3 _ _ _ w3 (vc 19) := hOz 6 (by decide) rfl; obtain rfl := Fact.eq_of h19r; obtain ⟨n26_, A26_, l26_, c26_, E26, q26⟩ : IntV 0 _ _ w3 (vc 26) := hOz 7 (by decide) rfl; obtain ⟨n27_, A27_, l27_, c27_, E27, q27⟩ : IntV 0 _ _ w3 (vc 27) := hOz 8 (by decide) rfl; have E28 : vc 28 = _ := hOz 9 (by decide) rfl; obtain ⟨g10, cs10, E10, hg10, bx10, hs10, hz10⟩ := hAz 10 _ _ (by decide) rfl; obtain ⟨g11, cs11, E11, hg11, bx11, hs11, hz11⟩ := hAz 11 _ _ (by decide) rfl; obtain ⟨n10sc_, A10sc_, l10sc_, c10sc_, E10sc, q10sc⟩ : IntV 0 _ _ w3 (.agg cs10) := hs10 12 (by decide) rfl; injection E10sc with E10sc
 subst E10sc; obtain ⟨n11sc_, A11sc_, l11sc_, c11sc_, E11sc, q11sc⟩ : IntV 0 _ _ w3 (.agg cs11) := hs11 13 (by decide) rfl; injection E11sc with E11sc
 subst E11sc; have E12 : vc 12 = _ := hOz 14 (by decide) rfl; have hne10_11 : Hid (¬ g10 = g11) := hide (fun h => hNz 10 11 _ _ _ _ (by decide) (by decide) (by decide) rfl rfl (by rw [E10, E11, h])); simp only [Act.put, actv, fill, fC, fN, tA, cS, cZ]; simp only [E20, E21, E22, E23, E24, E25, E19, E26, E27, E28, (show vc 10 = _ from E10), (show vc 11 = _ from E11), E12]; clear E20 E21 E22 E23 E24 E25 E19 E26 E27 E28 E10 E11 E12; have hge10 : w.heap.size ≤ g10 := Nat.le_trans HB.out.size hg10; have hne10_4 := hide (Nat.ne_of_gt (Nat.lt_of_lt_of_le bx4.lt (show w2.heap.size ≤ g10 from hg10))); have hne10_5 := hide (Nat.ne_of_gt (Nat.lt_of_lt_of_le bx5.lt (show w2.heap.size ≤ g10 from hg10))); have hne10_8 := hide (Nat.ne_of_gt (Nat.lt_of_lt_of_le bx8.lt (show w2.heap.size ≤ g10 from hg10))); have hne10_9 := hide (Nat.ne_of_gt (Nat.lt_of_lt_of_le bx9.lt (show w2.heap.size ≤ g10 from hg10))); have hge11 : w.heap.size ≤ g11 := Nat.le_trans HB.out.size hg11; have hne11_4 := hide (Nat.ne_of_gt (Nat.lt_of_lt_of_le bx4.lt (show w2.heap.size ≤ g11 from hg11))); have hne11_5 := hide (Nat.ne_of_gt (Nat.lt_of_lt_of_le bx5.lt (show w2.heap.size ≤ g11 from hg11))); have hne11_8 := hide (Nat.ne_of_gt (Nat.lt_of_lt_of_le bx8.lt (show w2.heap.size ≤ g11 from hg11))); have hne11_9 := hide (Nat.ne_of_gt (Nat.lt_of_lt_of_le bx9.lt (show w2.heap.size ≤ g11 from hg11))); replace h0 := h0.ext hBz.ext; replace h1 := h1.ext hBz.ext; replace h2 := h2.ext hBz.ext; replace q9sb := q9sb.ext hBz.ext; replace bx4 := hBz.blk bx4 zN; replace bx5 := hBz.blk bx5 zN; replace bx8 := hBz.blk bx8 zN; replace bx9 := hBz.blk bx9 zN; replace HB := hide (HB.out.trans (hBz.below (B := w.heap.size) HB.out.size zE)); clear hOz hAz hNz hSz hs10 hz10 hs11 hz11 hBz
 go_upto_region 3 with (fail)
 refine F2.region [.o, .o, .o, .o, .o, .o, .o, .o, .o, .al 24 #[.bool false, .slice none 0 0], .st 9, .o] [Fact.eq ?cd30_, Fact.eq ?cd31_, Fact.eq ?cd32_, Fact.z ?kd33_ ?zd33_, Fact.eq ?cd34_, Fact.t2 (Fact.z ?kd35_p ?zd35_p) (Fact.eq ?cd35_q), Fact.t2 (Fact.z ?kd29_p ?zd29_p) (Fact.eq ?cd29_q), Fact.z ?kd36_ ?zd36_, Fact.eq ?cd37_, Fact.any, Fact.z ?kds13_ ?zds13_, Fact.eq ?cd14_] [30, 31, 32, 33, 34, 35, 29, 36, 37, 13, 14] [30, 31, 32, 33, 34, 35, 29, 36, 37, 13, 0, 14] (by kernel_rfl) ?sod ?sopd (by kernel_rfl) ?std ?find
 case sod => exact fun x hx => by cases hx
 case sopd => exact List.Pairwise.nil
 case std =>
  refine F2.Steps.consO rfl ?_ ?_
  ·
   intro vz wz hBz hDz hTz K hK; have HW := ext_drew hBz.ext; simp only [zy, F2.Wp] at hK ⊢; go_simp; refine hK _ wz zB (Fact.eq_mk ?_); with_reducible rfl
  refine F2.Steps.consO rfl ?_ ?_
  ·
   intro vz wz hBz hDz hTz K hK; have E30 : vz 30 = _ := hDz 0 (by kernel_rfl) rfl; have HW := ext_drew hBz.ext; have bx4z := hBz.blk bx4.drew zN; obtain ⟨zl0, zl1, zl2, zl3, -⟩ := bx4z.four; simp only [zy, F2.Wp] at hK ⊢; simp only [E30] at hK ⊢; go_simp; refine hK _ wz zB (Fact.eq_mk ?_); with_reducible rfl
  refine F2.Steps.consO rfl ?_ ?_
  ·
   intro vz wz hBz hDz hTz K hK; have HW := ext_drew hBz.ext; have bx5z := hBz.blk bx5.drew zN; obtain ⟨zl0, zl1, -⟩ := bx5z.two; simp only [zy, F2.Wp] at hK ⊢; go_simp; refine hK _ wz zB (Fact.eq_mk ?_); with_reducible rfl
  refine F2.Steps.consO rfl ?_ ?_
  ·
   intro vz wz hBz hDz hTz K hK; have E31 : vz 31 = _ := hDz 1 (by kernel_rfl) rfl; have E32 : vz 32 = _ := hDz 2 (by kernel_rfl) rfl; have HW := ext_drew hBz.ext; simp only [zy, F2.Wp] at hK ⊢; simp only [E31, E32] at hK ⊢; go_simp; refine Calls.mono (v_mul (h1.ext HW) (h2.ext HW) (by omega) (by omega)) ?_; rintro e w2z ⟨hb2, uz, rfl, hf⟩
   go_wp2_with fail
   refine hK _ w2z hb2 (Fact.cast (hf) ?_); with_reducible rfl
  refine F2.Steps.consO rfl ?_ ?_
  ·
   intro vz wz hBz hDz hTz K hK; have HW := ext_drew hBz.ext; have bx9z := hBz.blk bx9.drew zN; obtain ⟨zl0, zl1, -⟩ := bx9z.two; simp only [zy, F2.Wp] at hK ⊢; go_simp; refine hK _ wz zB (Fact.eq_mk ?_); with_reducible rfl
  refine F2.Steps.consO rfl ?_ ?_
  ·
   intro vz wz hBz hDz hTz K hK; obtain ⟨n33_, A33_, l33_, c33_, E33, q33⟩ : IntV 0 _ _ wz (vz 33) := hDz 3 (by kernel_rfl) rfl; have E34 : vz 34 = _ := hDz 4 (by kernel_rfl) rfl; have HW := ext_drew hBz.ext; simp only [zy, F2.Wp] at hK ⊢; simp only [E33, E34] at hK ⊢; go_simp; refine Calls.mono (v_up q33.q (q9sb.ext HW).q (by omega) (by omega) hy) ?_; rintro e w2z ⟨hb2, uz, rfl, hf⟩
   go_wp2_with fail
   refine hK _ w2z hb2 (Fact.cast (hf) ?_); with_reducible rfl
  refine F2.Steps.consO rfl ?_ ?_
  ·
   intro vz wz hBz hDz hTz K hK; obtain ⟨x35p_, x35q_, E35, h35p, h35q⟩ : TV2 _ _ wz (vz 35) := hDz 5 (by kernel_rfl) rfl; obtain rfl := Fact.eq_of h35q; have HW := ext_drew hBz.ext; simp only [zy, F2.Wp] at hK ⊢; simp only [E35] at hK ⊢; go_simp; refine hK _ wz zB (Fact.cast (Fact.t2_mk h35p (Fact.eq_self _ _)) ?_); with_reducible rfl
  refine F2.Steps.consO rfl ?_ ?_
  ·
   intro vz wz hBz hDz hTz K hK; obtain ⟨x29p_, x29q_, E29, h29p, h29q⟩ : TV2 _ _ wz (vz 29) := hDz 6 (by kernel_rfl) rfl; obtain rfl := Fact.eq_of h29q; have HW := ext_drew hBz.ext; simp only [zy, F2.Wp] at hK ⊢; simp only [E29] at hK ⊢; go_simp; refine hK _ wz zB (Fact.cast (h29p) ?_); with_reducible rfl
  refine F2.Steps.consO rfl ?_ ?_
  ·
   intro vz wz hBz hDz hTz K hK; obtain ⟨x29p_, x29q_, E29, h29p, h29q⟩ : TV2 _ _ wz (vz 29) := hDz 6 (by kernel_rfl) rfl; obtain rfl := Fact.eq_of h29q; have HW := ext_drew hBz.ext; simp only [zy, F2.Wp] at hK ⊢; simp only [E29] at hK ⊢; go_simp; refine hK _ wz zB (Fact.eq_mk ?_); with_reducible rfl
  refine F2.Steps.consA rfl ⟨NoU.two nB nS, ?_⟩ ?_
  ·
   intro vz wz hBz K hK; simp only [zy, F2.Wp] at hK ⊢; go_simp; exact hK
  refine F2.Steps.consS rfl rfl ?_ ?_
  ·
   intro vz wz gz hBz hDz E13' hgz hbz K hK; obtain ⟨zc0, zc1, zc2, zc3⟩ := hbz.two; obtain ⟨n36_, A36_, l36_, c36_, E36, q36⟩ : IntV 0 _ _ wz (vz 36) := hDz 7 (by kernel_rfl) rfl; have E13 : vz 13 = .pointer (some ⟨gz, 0, none⟩) := E13'; have HW := ext_drew hBz.ext; simp only [zy, F2.Wp] at hK ⊢; simp only [E13, E36] at hK ⊢; go_simp; refine hK _ ((Far.set _ gz 0 _).trans (Far.set _ gz 1 _)) ⟨_, blk_two hbz, NoU.two nB nS, Fact.cast (Fact.z_mk q36) ?_⟩; with_reducible rfl
  refine F2.Steps.consO rfl ?_ ?_
  ·
   intro vz wz hBz hDz hTz K hK; have E37 : vz 37 = _ := hDz 8 (by kernel_rfl) rfl; have HW := ext_drew hBz.ext; simp only [zy, F2.Wp] at hK ⊢; simp only [E37] at hK ⊢; go_simp; refine hK _ wz zB (Fact.eq_mk ?_); with_reducible rfl
  exact F2.Steps.nil
 intro vd w4 hBz ⟨hOz, hAz, hNz, hSz⟩; have E30 : vd 30 = _ := hOz 0 (by decide) rfl; have E31 : vd 31 = _ := hOz 1 (by decide) rfl; have E32 : vd 32 = _ := hOz 2 (by decide) rfl; obtain ⟨n33_, A33_, l33_, c33_, E33, q33⟩ : IntV 0 _ _ w4 (vd 33) := hOz 3 (by decide) rfl; have E34 : vd 34 = _ := hOz 4 (by decide) rfl; obtain ⟨x35p_, x35q_, E35, h35p, h35q⟩ : TV2 _ _ w4 (vd 35) := hOz 5 (by decide) rfl; obtain rfl := Fact.eq_of h35q; obtain ⟨x29p_, x29q_, E29, h29p, h29q⟩ : TV2 _ _ w4 (vd 29) := hOz 6 (by decide) rfl; obtain rfl := Fact.eq_of h29q; obtain ⟨n36_, A36_, l36_, c36_, E36, q36⟩ : IntV 0 _ _ w4 (vd 36) := hOz 7 (by decide) rfl; have E37 : vd 37 = _ := hOz 8 (by decide) rfl; obtain ⟨g13, cs13, E13, hg13, bx13, hs13, hz13⟩ := hAz 9 _ _ (by decide) rfl; obtain ⟨n13sd_, A13sd_, l13sd_, c13sd_, E13sd, q13sd⟩ : IntV 0 _ _ w4 (.agg cs13) := hs13 10 (by decide) rfl; injection E13sd with E13sd
 subst E13sd; have E14 : vd 14 = _ := hOz 11 (by decide) rfl; simp only [Act.put, actv, fill, fC, fN, tA, cS, cZ]; simp only [E30, E31, E32, E33, E34, E35, E29, E36, E37, (show vd 13 = _ from E13), E14]; clear E30 E31 E32 E33 E34 E35 E29 E36 E37 E13 E14; have hge13 : w.heap.size ≤ g13 := Nat.le_trans HB.out.size hg13; have hne13_4 := hide (Nat.ne_of_gt (Nat.lt_of_lt_of_le bx4.lt (show w3.heap.size ≤ g13 from hg13))); have hne13_5 := hide (Nat.ne_of_gt (Nat.lt_of_lt_of_le bx5.lt (show w3.heap.size ≤ g13 from hg13))); have hne13_8 := hide (Nat.ne_of_gt (Nat.lt_of_lt_of_le bx8.lt (show w3.heap.size ≤ g13 from hg13))); have hne13_9 := hide (Nat.ne_of_gt (Nat.lt_of_lt_of_le bx9.lt (show w3.heap.size ≤ g13 from hg13))); have hne13_10 := hide (Nat.ne_of_gt (Nat.lt_of_lt_of_le bx10.lt (show w3.heap.size ≤ g13 from hg13))); have hne13_11 := hide (Nat.ne_of_gt (Nat.lt_of_lt_of_le bx11.lt (show w3.heap.size ≤ g13 from hg13))); replace h0 := h0.ext hBz.ext; replace h1 := h1.ext hBz.ext; replace h2 := h2.ext hBz.ext; replace q9sb := q9sb.ext hBz.ext; replace q10sc := q10sc.ext hBz.ext; replace q11sc := q11sc.ext hBz.ext; replace bx4 := hBz.blk bx4 zN; replace bx5 := hBz.blk bx5 zN; replace bx8 := hBz.blk bx8 zN; replace bx9 := hBz.blk bx9 zN; replace bx10 := hBz.blk bx10 zN; replace bx11 := hBz.blk bx11 zN; replace HB := hide (HB.out.trans (hBz.below (B := w.heap.size) HB.out.size zE)); clear hOz hAz hNz hSz hs13 hz13 hBz
 go_upto_region 4 with (fail)
 refine F2.regionS [.o, .o, .o, .so (g8) 39 #[.bool false, .slice none 0 0, .bool false, .slice none 0 0]] [Fact.eq ?ce38_, Fact.eq ?ce39_, Fact.s_yy ?ke40_a ?ze40_a ?ke40_b ?ze40_b, Fact.s_yy ?kes8_a ?zes8_a ?kes8_b ?zes8_b] [38, 39, 40] [38, 39, 40, 0] (by kernel_rfl) ?soe ?sope (by kernel_rfl) ?ste ?fine
 case soe => exact List.forall_mem_cons.2 ⟨⟨bx8, NoU.four nB nS nB nS⟩, fun x hx => by cases hx⟩
 case sope => exact List.Pairwise.cons (fun y hy => by cases hy) (List.Pairwise.nil)
 case ste =>
  refine F2.Steps.consO rfl ?_ ?_
  ·
   intro vz wz hBz hDz hTz K hK; have HW := hBz.ext; have bx10z := hBz.blk bx10 (zM hne10_8.out zN); obtain ⟨zl0, zl1, -⟩ := bx10z.two; simp only [zy, F2.Wp] at hK ⊢; go_simp; refine hK _ wz zB (Fact.eq_mk ?_); with_reducible rfl
  refine F2.Steps.consO rfl ?_ ?_
  ·
   intro vz wz hBz hDz hTz K hK; have HW := hBz.ext; have bx13z := hBz.blk bx13 (zM hne13_8.out zN); obtain ⟨zl0, zl1, -⟩ := bx13z.two; simp only [zy, F2.Wp] at hK ⊢; go_simp; refine hK _ wz zB (Fact.eq_mk ?_); with_reducible rfl
  refine F2.Steps.consO rfl ?_ ?_
  ·
   intro vz wz hBz hDz hTz K hK; have E38 : vz 38 = _ := hDz 0 (by kernel_rfl) rfl; have E39 : vz 39 = _ := hDz 1 (by kernel_rfl) rfl; have HW := hBz.ext; simp only [zy, F2.Wp] at hK ⊢; simp only [E38, E39] at hK ⊢; go_simp; refine hK _ wz zB (Fact.cast (Fact.s_yy_mk (q10sc.ext HW) (q13sd.ext HW)) ?_); with_reducible rfl
  refine F2.Steps.consT rfl ?_ ?_
  ·
   intro vz wz hBz hDz hbz K hK; obtain ⟨zc0, zc1, zc2, zc3, zc4, zc5, zc6, zc7⟩ := hbz.four; obtain ⟨n40a_, A40a_, l40a_, c40a_, n40b_, A40b_, l40b_, c40b_, E40, q40a, q40b⟩ : SV_yy _ _ _ _ wz (vz 40) := hDz 2 (by kernel_rfl) rfl; have HW := hBz.ext; simp only [zy, F2.Wp] at hK ⊢; simp only [E40] at hK ⊢; go_simp; refine hK _ ((((Far.set _ _ 0 _).trans (Far.set _ _ 1 _)).trans (Far.set _ _ 2 _)).trans (Far.set _ _ 3 _)) ⟨_, blk_four hbz, NoU.four nB nS nB nS, Fact.cast (Fact.s_yy_mk q40a q40b) ?_⟩; with_reducible rfl
  exact F2.Steps.nil
 intro ve w5 hBz ⟨hOz, hAz, hNz, hSz⟩; have E38 : ve 38 = _ := hOz 0 (by decide) rfl; have E39 : ve 39 = _ := hOz 1 (by decide) rfl; obtain ⟨n40a_, A40a_, l40a_, c40a_, n40b_, A40b_, l40b_, c40b_, E40, q40a, q40b⟩ : SV_yy _ _ _ _ w5 (ve 40) := hOz 2 (by decide) rfl; obtain ⟨cs8, bx8n, hs8⟩ := hSz 3 _ _ _ (by decide) rfl; obtain ⟨n8sea_, A8sea_, l8sea_, c8sea_, n8seb_, A8seb_, l8seb_, c8seb_, E8se, q8sea, q8seb⟩ : SV_yy _ _ _ _ w5 (.agg cs8) := hs8; injection E8se with E8se
 subst E8se; simp only [Act.put, actv, fill, fC, fN, tA, cS, cZ]; simp only [E38, E39, E40]; clear E38 E39 E40; replace h0 := h0.ext hBz.ext; replace h1 := h1.ext hBz.ext; replace h2 := h2.ext hBz.ext; replace q9sb := q9sb.ext hBz.ext; replace q10sc := q10sc.ext hBz.ext; replace q11sc := q11sc.ext hBz.ext; replace q13sd := q13sd.ext hBz.ext; replace bx4 := hBz.blk bx4 (zM hne4_8.out zN); replace bx5 := hBz.blk bx5 (zM hne5_8.out zN); replace bx9 := hBz.blk bx9 (zM hne9_8.out zN); replace bx10 := hBz.blk bx10 (zM hne10_8.out zN); replace bx11 := hBz.blk bx11 (zM hne11_8.out zN); replace bx13 := hBz.blk bx13 (zM hne13_8.out zN); replace HB := hide (HB.out.trans (hBz.below (B := w.heap.size) HB.out.size (zA hge8 zE))); clear bx8; have bx8 := bx8n; clear bx8n; clear hOz hAz hNz hSz hBz
 go_wp2_with fail
 refine bodyPost_ret (results_pair rfl _ _ _ _ _ _ _ _ rfl bx8) rfl ⟨HB.out, ?_⟩; exact VF.mk (Fact.s_yy_mk q8sea q8seb)
set_option maxHeartbeats 4000000 in
set_option maxRecDepth 100000 in
theorem rover_calls {w : World}  {k0 k1 : Nat} {n0 n1 : Bool} {A0 A1 : Option Addr} {l0 l1 c0 c1 : Nat} {x0 x1 : Int} {y : Int} (h0 : Q w k0 n0 A0 l0 c0 x0) (h1 : Q w k1 n1 A1 l1 c1 x1) (hk0 : k0 ≤ 9000) (hk1 : k1 ≤ 9000) (hy0 : 1 ≤ y) (hy1 : y ≤ 1000000000) :
    Calls Tryz.prog 63 #[.agg #[.bool n0, .slice A0 l0 c0, .bool n1, .slice A1 l1 c1], .int .i64 y] w fun e w' => Below w.heap.size w w' ∧ VF (Fact.s_yy (k0 + 1) (x0 * 1 / (y * 2 ^ (0 : Int).toNat)) (k1 + 1) (vUp (x1 * 1) (y * 2 ^ (0 : Int).toNat))) e w' := by
 go_enter Tryz.func63, Tryz.ntmps63
 have HB : Hid (Below w.heap.size w w) := hide (Below.refl _ _)
 go_upto_region 0 with (fail)
 refine F2.regionS [.al 39 #[.bool n0, .slice A0 l0 c0, .bool n1, .slice A1 l1 c1], .al 39 #[.bool false, .slice none 0 0, .bool false, .slice none 0 0]] [Fact.any, Fact.any] [2, 4] [2, 4] (by kernel_rfl) ?soa ?sopa (by kernel_rfl) ?sta ?fina
 case soa => exact fun x hx => by cases hx
 case sopa => exact List.Pairwise.nil
 case sta =>
  refine F2.Steps.consA rfl ⟨NoU.four nB nS nB nS, ?_⟩ ?_
  ·
   intro vz wz hBz K hK; simp only [zy, F2.Wp] at hK ⊢; go_simp; exact hK
  refine F2.Steps.consA rfl ⟨NoU.four nB nS nB nS, ?_⟩ ?_
  ·
   intro vz wz hBz K hK; simp only [zy, F2.Wp] at hK ⊢; go_simp; exact hK
  exact F2.Steps.nil
 intro va w1 hBz ⟨hOz, hAz, hNz, hSz⟩; obtain ⟨g2, cs2, E2, hg2, bx2, hs2, hz2⟩ := hAz 0 _ _ (by decide) rfl; have hzz := hz2 (F2.nost (by kernel_rfl)); subst hzz; obtain ⟨g4, cs4, E4, hg4, bx4, hs4, hz4⟩ := hAz 1 _ _ (by decide) rfl; have hzz := hz4 (F2.nost (by kernel_rfl)); subst hzz; have hne2_4 : Hid (¬ g2 = g4) := hide (fun h => hNz 0 1 _ _ _ _ (by decide) (by decide) (by decide) rfl rfl (by rw [E2, E4, h])); simp only [Act.put, actv, fill, fC, fN, tA, cS, cZ]; simp only [(show va 2 = _ from E2), (show va 4 = _ from E4)]; clear E2 E4; have hge2 : w.heap.size ≤ g2 := Nat.le_trans HB.out.size hg2; have hge4 : w.heap.size ≤ g4 := Nat.le_trans HB.out.size hg4; replace h0 := h0.ext hBz.ext; replace h1 := h1.ext hBz.ext; replace HB := hide (HB.out.trans (hBz.below (B := w.heap.size) HB.out.size zE)); clear hOz hAz hNz hSz hs2 hz2 hs4 hz4 hBz
 go_upto_region 1 with (fail)
 refine F2.region [.o, .o, .o, .o, .so (g4) 39 #[.bool false, .slice none 0 0, .bool false, .slice none 0 0]] [Fact.eq ?cb5_, Fact.z ?kb6_ ?zb6_, Fact.eq ?cb7_, Fact.s_yy ?kb8_a ?zb8_a ?kb8_b ?zb8_b, Fact.s_yy ?kbs4_a ?zbs4_a ?kbs4_b ?zbs4_b] [5, 6, 7, 8] [5, 6, 7, 8, 0] (by kernel_rfl) ?sob ?sopb (by kernel_rfl) ?stb ?finb
 case sob => exact List.forall_mem_cons.2 ⟨⟨bx4, NoU.four nB nS nB nS⟩, fun x hx => by cases hx⟩
 case sopb => exact List.Pairwise.cons (fun y hy => by cases hy) (List.Pairwise.nil)
 case stb =>
  refine F2.Steps.consO rfl ?_ ?_
  ·
   intro vz wz hBz hDz hTz K hK; have HW := ext_drew hBz.ext; have bx2z := hBz.blk bx2.drew (zM hne2_4.out zN); obtain ⟨zl0, zl1, zl2, zl3, -⟩ := bx2z.four; simp only [zy, F2.Wp] at hK ⊢; go_simp; refine hK _ wz zB (Fact.eq_mk ?_); with_reducible rfl
  refine F2.Steps.consO rfl ?_ ?_
  ·
   intro vz wz hBz hDz hTz K hK; have HW := ext_drew hBz.ext; simp only [zy, F2.Wp] at hK ⊢; go_simp; refine Calls.mono (v_of  (by omega) (by omega)) ?_; rintro e w2z ⟨hb2, uz, rfl, hf⟩
   go_wp2_with fail
   refine hK _ w2z hb2 (Fact.cast (hf) ?_); with_reducible rfl
  refine F2.Steps.consO rfl ?_ ?_
  ·
   intro vz wz hBz hDz hTz K hK; have HW := ext_drew hBz.ext; simp only [zy, F2.Wp] at hK ⊢; go_simp; refine hK _ wz zB (Fact.eq_mk ?_); with_reducible rfl
  refine F2.Steps.consO rfl ?_ ?_
  ·
   intro vz wz hBz hDz hTz K hK; have E5 : vz 5 = _ := hDz 0 (by kernel_rfl) rfl; obtain ⟨n6_, A6_, l6_, c6_, E6, q6⟩ : IntV 0 _ _ wz (vz 6) := hDz 1 (by kernel_rfl) rfl; have E7 : vz 7 = _ := hDz 2 (by kernel_rfl) rfl; have HW := ext_drew hBz.ext; simp only [zy, F2.Wp] at hK ⊢; simp only [E5, E6, E7] at hK ⊢; go_simp; refine Calls.mono (rtimes_calls (h0.ext HW) (h1.ext HW) q6.q (by omega) (by omega) (by omega) (by omega) (by omega) (by omega) (by omega)) ?_; rintro e w2z ⟨hb2, uz, rfl, hf⟩
   go_wp2_with fail
   refine hK _ w2z hb2 (Fact.cast (hf) ?_); with_reducible rfl
  refine F2.Steps.consT rfl ?_ ?_
  ·
   intro vz wz hBz hDz hbz K hK; obtain ⟨zc0, zc1, zc2, zc3, zc4, zc5, zc6, zc7⟩ := hbz.four; obtain ⟨n8a_, A8a_, l8a_, c8a_, n8b_, A8b_, l8b_, c8b_, E8, q8a, q8b⟩ : SV_yy _ _ _ _ wz (vz 8) := hDz 3 (by kernel_rfl) rfl; have HW := ext_drew hBz.ext; simp only [zy, F2.Wp] at hK ⊢; simp only [E8] at hK ⊢; go_simp; refine hK _ ((((Far.set _ _ 0 _).trans (Far.set _ _ 1 _)).trans (Far.set _ _ 2 _)).trans (Far.set _ _ 3 _)) ⟨_, blk_four hbz, NoU.four nB nS nB nS, Fact.cast (Fact.s_yy_mk q8a q8b) ?_⟩; with_reducible rfl
  exact F2.Steps.nil
 intro vb w2 hBz ⟨hOz, hAz, hNz, hSz⟩; have E5 : vb 5 = _ := hOz 0 (by decide) rfl; obtain ⟨n6_, A6_, l6_, c6_, E6, q6⟩ : IntV 0 _ _ w2 (vb 6) := hOz 1 (by decide) rfl; have E7 : vb 7 = _ := hOz 2 (by decide) rfl; obtain ⟨n8a_, A8a_, l8a_, c8a_, n8b_, A8b_, l8b_, c8b_, E8, q8a, q8b⟩ : SV_yy _ _ _ _ w2 (vb 8) := hOz 3 (by decide) rfl; obtain ⟨cs4, bx4n, hs4⟩ := hSz 4 _ _ _ (by decide) rfl; obtain ⟨n4sba_, A4sba_, l4sba_, c4sba_, n4sbb_, A4sbb_, l4sbb_, c4sbb_, E4sb, q4sba, q4sbb⟩ : SV_yy _ _ _ _ w2 (.agg cs4) := hs4; injection E4sb with E4sb
 subst E4sb; simp only [Act.put, actv, fill, fC, fN, tA, cS, cZ]; simp only [E5, E6, E7, E8]; clear E5 E6 E7 E8; replace h0 := h0.ext hBz.ext; replace h1 := h1.ext hBz.ext; replace bx2 := hBz.blk bx2 (zM hne2_4.out zN); replace HB := hide (HB.out.trans (hBz.below (B := w.heap.size) HB.out.size (zA hge4 zE))); clear bx4; have bx4 := bx4n; clear bx4n; clear hOz hAz hNz hSz hBz
 go_wp2_with fail
 refine bodyPost_ret (results_pair rfl _ _ _ _ _ _ _ _ rfl bx4) rfl ⟨HB.out, ?_⟩; exact VF.mk (Fact.s_yy_mk q4sba q4sbb)
set_option maxHeartbeats 4000000 in
set_option maxRecDepth 100000 in
theorem rplus_calls {w : World}  {k0 k1 k2 k3 : Nat} {n0 n1 n2 n3 : Bool} {A0 A1 A2 A3 : Option Addr} {l0 l1 l2 l3 c0 c1 c2 c3 : Nat} {x0 x1 x2 x3 : Int} (h0 : Q w k0 n0 A0 l0 c0 x0) (h1 : Q w k1 n1 A1 l1 c1 x1) (h2 : Q w k2 n2 A2 l2 c2 x2) (h3 : Q w k3 n3 A3 l3 c3 x3) (hk0 : k0 ≤ 9000) (hk1 : k1 ≤ 9000) (hk2 : k2 ≤ 9000) (hk3 : k3 ≤ 9000) :
    Calls Tryz.prog 51 #[.agg #[.bool n0, .slice A0 l0 c0, .bool n1, .slice A1 l1 c1], .agg #[.bool n2, .slice A2 l2 c2, .bool n3, .slice A3 l3 c3]] w fun e w' => Below w.heap.size w w' ∧ VF (Fact.s_yy (max k0 k2 + 1) (x0 + x2) (max k1 k3 + 1) (x1 + x3)) e w' := by
 go_enter Tryz.func51, Tryz.ntmps51
 have HB : Hid (Below w.heap.size w w) := hide (Below.refl _ _)
 go_upto_region 0 with (fail)
 refine F2.regionS [.al 39 #[.bool n0, .slice A0 l0 c0, .bool n1, .slice A1 l1 c1], .al 39 #[.bool n2, .slice A2 l2 c2, .bool n3, .slice A3 l3 c3], .al 39 #[.bool false, .slice none 0 0, .bool false, .slice none 0 0]] [Fact.any, Fact.any, Fact.any] [2, 3, 4] [2, 3, 4] (by kernel_rfl) ?soa ?sopa (by kernel_rfl) ?sta ?fina
 case soa => exact fun x hx => by cases hx
 case sopa => exact List.Pairwise.nil
 case sta =>
  refine F2.Steps.consA rfl ⟨NoU.four nB nS nB nS, ?_⟩ ?_
  ·
   intro vz wz hBz K hK; simp only [zy, F2.Wp] at hK ⊢; go_simp; exact hK
  refine F2.Steps.consA rfl ⟨NoU.four nB nS nB nS, ?_⟩ ?_
  ·
   intro vz wz hBz K hK; simp only [zy, F2.Wp] at hK ⊢; go_simp; exact hK
  refine F2.Steps.consA rfl ⟨NoU.four nB nS nB nS, ?_⟩ ?_
  ·
   intro vz wz hBz K hK; simp only [zy, F2.Wp] at hK ⊢; go_simp; exact hK
  exact F2.Steps.nil
 intro va w1 hBz ⟨hOz, hAz, hNz, hSz⟩; obtain ⟨g2, cs2, E2, hg2, bx2, hs2, hz2⟩ := hAz 0 _ _ (by decide) rfl; have hzz := hz2 (F2.nost (by kernel_rfl)); subst hzz; obtain ⟨g3, cs3, E3, hg3, bx3, hs3, hz3⟩ := hAz 1 _ _ (by decide) rfl; have hzz := hz3 (F2.nost (by kernel_rfl)); subst hzz; obtain ⟨g4, cs4, E4, hg4, bx4, hs4, hz4⟩ := hAz 2 _ _ (by decide) rfl; have hzz := hz4 (F2.nost (by kernel_rfl)); subst hzz; have hne2_3 : Hid (¬ g2 = g3) := hide (fun h => hNz 0 1 _ _ _ _ (by decide) (by decide) (by decide) rfl rfl (by rw [E2, E3, h])); have hne2_4 : Hid (¬ g2 = g4) := hide (fun h => hNz 0 2 _ _ _ _ (by decide) (by decide) (by decide) rfl rfl (by rw [E2, E4, h])); have hne3_4 : Hid (¬ g3 = g4) := hide (fun h => hNz 1 2 _ _ _ _ (by decide) (by decide) (by decide) rfl rfl (by rw [E3, E4, h])); simp only [Act.put, actv, fill, fC, fN, tA, cS, cZ]; simp only [(show va 2 = _ from E2), (show va 3 = _ from E3), (show va 4 = _ from E4)]; clear E2 E3 E4; have hge2 : w.heap.size ≤ g2 := Nat.le_trans HB.out.size hg2; have hge3 : w.heap.size ≤ g3 := Nat.le_trans HB.out.size hg3; have hge4 : w.heap.size ≤ g4 := Nat.le_trans HB.out.size hg4; replace h0 := h0.ext hBz.ext; replace h1 := h1.ext hBz.ext; replace h2 := h2.ext hBz.ext; replace h3 := h3.ext hBz.ext; replace HB := hide (HB.out.trans (hBz.below (B := w.heap.size) HB.out.size zE)); clear hOz hAz hNz hSz hs2 hz2 hs3 hz3 hs4 hz4 hBz
 go_upto_region 1 with (fail)
 refine F2.region [.o, .o, .o, .o, .o, .o, .o, .o, .o, .o, .o, .so (g4) 39 #[.bool false, .slice none 0 0, .bool false, .slice none 0 0]] [Fact.eq ?cb5_, Fact.eq ?cb6_, Fact.eq ?cb7_, Fact.eq ?cb8_, Fact.z ?kb9_ ?zb9_, Fact.eq ?cb10_, Fact.eq ?cb11_, Fact.eq ?cb12_, Fact.eq ?cb13_, Fact.z ?kb14_ ?zb14_, Fact.s_yy ?kb15_a ?zb15_a ?kb15_b ?zb15_b, Fact.s_yy ?kbs4_a ?zbs4_a ?kbs4_b ?zbs4_b] [5, 6, 7, 8, 9, 10, 11, 12, 13, 14, 15] [5, 6, 7, 8, 9, 10, 11, 12, 13, 14, 15, 0] (by kernel_rfl) ?sob ?sopb (by kernel_rfl) ?stb ?finb
 case sob => exact List.forall_mem_cons.2 ⟨⟨bx4, NoU.four nB nS nB nS⟩, fun x hx => by cases hx⟩
 case sopb => exact List.Pairwise.cons (fun y hy => by cases hy) (List.Pairwise.nil)
 case stb =>
  refine F2.Steps.consO rfl ?_ ?_
  ·
   intro vz wz hBz hDz hTz K hK; have HW := ext_drew hBz.ext; simp only [zy, F2.Wp] at hK ⊢; go_simp; refine hK _ wz zB (Fact.eq_mk ?_); with_reducible rfl
  refine F2.Steps.consO rfl ?_ ?_
  ·
   intro vz wz hBz hDz hTz K hK; have E5 : vz 5 = _ := hDz 0 (by kernel_rfl) rfl; have HW := ext_drew hBz.ext; have bx2z := hBz.blk bx2.drew (zM hne2_4.out zN); obtain ⟨zl0, zl1, zl2, zl3, -⟩ := bx2z.four; simp only [zy, F2.Wp] at hK ⊢; simp only [E5] at hK ⊢; go_simp; refine hK _ wz zB (Fact.eq_mk ?_); with_reducible rfl
  refine F2.Steps.consO rfl ?_ ?_
  ·
   intro vz wz hBz hDz hTz K hK; have HW := ext_drew hBz.ext; simp only [zy, F2.Wp] at hK ⊢; go_simp; refine hK _ wz zB (Fact.eq_mk ?_); with_reducible rfl
  refine F2.Steps.consO rfl ?_ ?_
  ·
   intro vz wz hBz hDz hTz K hK; have E7 : vz 7 = _ := hDz 2 (by kernel_rfl) rfl; have HW := ext_drew hBz.ext; have bx3z := hBz.blk bx3.drew (zM hne3_4.out zN); obtain ⟨zl0, zl1, zl2, zl3, -⟩ := bx3z.four; simp only [zy, F2.Wp] at hK ⊢; simp only [E7] at hK ⊢; go_simp; refine hK _ wz zB (Fact.eq_mk ?_); with_reducible rfl
  refine F2.Steps.consO rfl ?_ ?_
  ·
   intro vz wz hBz hDz hTz K hK; have E6 : vz 6 = _ := hDz 1 (by kernel_rfl) rfl; have E8 : vz 8 = _ := hDz 3 (by kernel_rfl) rfl; have HW := ext_drew hBz.ext; simp only [zy, F2.Wp] at hK ⊢; simp only [E6, E8] at hK ⊢; go_simp; refine Calls.mono (v_add (h0.ext HW) (h2.ext HW) (by omega) (by omega)) ?_; rintro e w2z ⟨hb2, uz, rfl, hf⟩
   go_wp2_with fail
   refine hK _ w2z hb2 (Fact.cast (hf) ?_); with_reducible rfl
  refine F2.Steps.consO rfl ?_ ?_
  ·
   intro vz wz hBz hDz hTz K hK; have HW := ext_drew hBz.ext; simp only [zy, F2.Wp] at hK ⊢; go_simp; refine hK _ wz zB (Fact.eq_mk ?_); with_reducible rfl
  refine F2.Steps.consO rfl ?_ ?_
  ·
   intro vz wz hBz hDz hTz K hK; have E10 : vz 10 = _ := hDz 5 (by kernel_rfl) rfl; have HW := ext_drew hBz.ext; have bx2z := hBz.blk bx2.drew (zM hne2_4.out zN); obtain ⟨zl0, zl1, zl2, zl3, -⟩ := bx2z.four; simp only [zy, F2.Wp] at hK ⊢; simp only [E10] at hK ⊢; go_simp; refine hK _ wz zB (Fact.eq_mk ?_); with_reducible rfl
  refine F2.Steps.consO rfl ?_ ?_
  ·
   intro vz wz hBz hDz hTz K hK; have HW := ext_drew hBz.ext; simp only [zy, F2.Wp] at hK ⊢; go_simp; refine hK _ wz zB (Fact.eq_mk ?_); with_reducible rfl
  refine F2.Steps.consO rfl ?_ ?_
  ·
   intro vz wz hBz hDz hTz K hK; have E12 : vz 12 = _ := hDz 7 (by kernel_rfl) rfl; have HW := ext_drew hBz.ext; have bx3z := hBz.blk bx3.drew (zM hne3_4.out zN); obtain ⟨zl0, zl1, zl2, zl3, -⟩ := bx3z.four; simp only [zy, F2.Wp] at hK ⊢; simp only [E12] at hK ⊢; go_simp; refine hK _ wz zB (Fact.eq_mk ?_); with_reducible rfl
  refine F2.Steps.consO rfl ?_ ?_
  ·
   intro vz wz hBz hDz hTz K hK; have E11 : vz 11 = _ := hDz 6 (by kernel_rfl) rfl; have E13 : vz 13 = _ := hDz 8 (by kernel_rfl) rfl; have HW := ext_drew hBz.ext; simp only [zy, F2.Wp] at hK ⊢; simp only [E11, E13] at hK ⊢; go_simp; refine Calls.mono (v_add (h1.ext HW) (h3.ext HW) (by omega) (by omega)) ?_; rintro e w2z ⟨hb2, uz, rfl, hf⟩
   go_wp2_with fail
   refine hK _ w2z hb2 (Fact.cast (hf) ?_); with_reducible rfl
  refine F2.Steps.consO rfl ?_ ?_
  ·
   intro vz wz hBz hDz hTz K hK; obtain ⟨n9_, A9_, l9_, c9_, E9, q9⟩ : IntV 0 _ _ wz (vz 9) := hDz 4 (by kernel_rfl) rfl; obtain ⟨n14_, A14_, l14_, c14_, E14, q14⟩ : IntV 0 _ _ wz (vz 14) := hDz 9 (by kernel_rfl) rfl; have HW := ext_drew hBz.ext; simp only [zy, F2.Wp] at hK ⊢; simp only [E9, E14] at hK ⊢; go_simp; refine hK _ wz zB (Fact.cast (Fact.s_yy_mk q9 q14) ?_); with_reducible rfl
  refine F2.Steps.consT rfl ?_ ?_
  ·
   intro vz wz hBz hDz hbz K hK; obtain ⟨zc0, zc1, zc2, zc3, zc4, zc5, zc6, zc7⟩ := hbz.four; obtain ⟨n15a_, A15a_, l15a_, c15a_, n15b_, A15b_, l15b_, c15b_, E15, q15a, q15b⟩ : SV_yy _ _ _ _ wz (vz 15) := hDz 10 (by kernel_rfl) rfl; have HW := ext_drew hBz.ext; simp only [zy, F2.Wp] at hK ⊢; simp only [E15] at hK ⊢; go_simp; refine hK _ ((((Far.set _ _ 0 _).trans (Far.set _ _ 1 _)).trans (Far.set _ _ 2 _)).trans (Far.set _ _ 3 _)) ⟨_, blk_four hbz, NoU.four nB nS nB nS, Fact.cast (Fact.s_yy_mk q15a q15b) ?_⟩; with_reducible rfl
  exact F2.Steps.nil
 intro vb w2 hBz ⟨hOz, hAz, hNz, hSz⟩; have E5 : vb 5 = _ := hOz 0 (by decide) rfl; have E6 : vb 6 = _ := hOz 1 (by decide) rfl; have E7 : vb 7 = _ := hOz 2 (by decide) rfl; have E8 : vb 8 = _ := hOz 3 (by decide) rfl; obtain ⟨n9_, A9_, l9_, c9_, E9, q9⟩ : IntV 0 _ _ w2 (vb 9) := hOz 4 (by decide) rfl; have E10 : vb 10 = _ := hOz 5 (by decide) rfl; have E11 : vb 11 = _ := hOz 6 (by decide) rfl; have E12 : vb 12 = _ := hOz 7 (by decide) rfl; have E13 : vb 13 = _ := hOz 8 (by decide) rfl; obtain ⟨n14_, A14_, l14_, c14_, E14, q14⟩ : IntV 0 _ _ w2 (vb 14) := hOz 9 (by decide) rfl; obtain ⟨n15a_, A15a_, l15a_, c15a_, n15b_, A15b_, l15b_, c15b_, E15, q15a, q15b⟩ : SV_yy _ _ _ _ w2 (vb 15) := hOz 10 (by decide) rfl; obtain ⟨cs4, bx4n, hs4⟩ := hSz 11 _ _ _ (by decide) rfl; obtain ⟨n4sba_, A4sba_, l4sba_, c4sba_, n4sbb_, A4sbb_, l4sbb_, c4sbb_, E4sb, q4sba, q4sbb⟩ : SV_yy _ _ _ _ w2 (.agg cs4) := hs4; injection E4sb with E4sb
 subst E4sb; simp only [Act.put, actv, fill, fC, fN, tA, cS, cZ]; simp only [E5, E6, E7, E8, E9, E10, E11, E12, E13, E14, E15]; clear E5 E6 E7 E8 E9 E10 E11 E12 E13 E14 E15; replace h0 := h0.ext hBz.ext; replace h1 := h1.ext hBz.ext; replace h2 := h2.ext hBz.ext; replace h3 := h3.ext hBz.ext; replace bx2 := hBz.blk bx2 (zM hne2_4.out zN); replace bx3 := hBz.blk bx3 (zM hne3_4.out zN); replace HB := hide (HB.out.trans (hBz.below (B := w.heap.size) HB.out.size (zA hge4 zE))); clear bx4; have bx4 := bx4n; clear bx4n; clear hOz hAz hNz hSz hBz
 go_wp2_with fail
 refine bodyPost_ret (results_pair rfl _ _ _ _ _ _ _ _ rfl bx4) rfl ⟨HB.out, ?_⟩; exact VF.mk (Fact.s_yy_mk q4sba q4sbb)
set_option maxHeartbeats 4000000 in
set_option maxRecDepth 100000 in
theorem rless_calls {w : World}  {k0 k1 k2 k3 : Nat} {n0 n1 n2 n3 : Bool} {A0 A1 A2 A3 : Option Addr} {l0 l1 l2 l3 c0 c1 c2 c3 : Nat} {x0 x1 x2 x3 : Int} (h0 : Q w k0 n0 A0 l0 c0 x0) (h1 : Q w k1 n1 A1 l1 c1 x1) (h2 : Q w k2 n2 A2 l2 c2 x2) (h3 : Q w k3 n3 A3 l3 c3 x3) (hk0 : k0 ≤ 9000) (hk1 : k1 ≤ 9000) (hk2 : k2 ≤ 9000) (hk3 : k3 ≤ 9000) :
    Calls Tryz.prog 52 #[.agg #[.bool n0, .slice A0 l0 c0, .bool n1, .slice A1 l1 c1], .agg #[.bool n2, .slice A2 l2 c2, .bool n3, .slice A3 l3 c3]] w fun e w' => Below w.heap.size w w' ∧ VF (Fact.s_yy (max k0 k3 + 1) (x0 - x3) (max k1 k2 + 1) (x1 - x2)) e w' := by
 go_enter Tryz.func52, Tryz.ntmps52
 have HB : Hid (Below w.heap.size w w) := hide (Below.refl _ _)
 go_upto_region 0 with (fail)
 refine F2.regionS [.al 39 #[.bool n0, .slice A0 l0 c0, .bool n1, .slice A1 l1 c1], .al 39 #[.bool n2, .slice A2 l2 c2, .bool n3, .slice A3 l3 c3], .al 39 #[.bool false, .slice none 0 0, .bool false, .slice none 0 0]] [Fact.any, Fact.any, Fact.any] [2, 3, 4] [2, 3, 4] (by kernel_rfl) ?soa ?sopa (by kernel_rfl) ?sta ?fina
 case soa => exact fun x hx => by cases hx
 case sopa => exact List.Pairwise.nil
 case sta =>
  refine F2.Steps.consA rfl ⟨NoU.four nB nS nB nS, ?_⟩ ?_
  ·
   intro vz wz hBz K hK; simp only [zy, F2.Wp] at hK ⊢; go_simp; exact hK
  refine F2.Steps.consA rfl ⟨NoU.four nB nS nB nS, ?_⟩ ?_
  ·
   intro vz wz hBz K hK; simp only [zy, F2.Wp] at hK ⊢; go_simp; exact hK
  refine F2.Steps.consA rfl ⟨NoU.four nB nS nB nS, ?_⟩ ?_
  ·
   intro vz wz hBz K hK; simp only [zy, F2.Wp] at hK ⊢; go_simp; exact hK
  exact F2.Steps.nil
 intro va w1 hBz ⟨hOz, hAz, hNz, hSz⟩; obtain ⟨g2, cs2, E2, hg2, bx2, hs2, hz2⟩ := hAz 0 _ _ (by decide) rfl; have hzz := hz2 (F2.nost (by kernel_rfl)); subst hzz; obtain ⟨g3, cs3, E3, hg3, bx3, hs3, hz3⟩ := hAz 1 _ _ (by decide) rfl; have hzz := hz3 (F2.nost (by kernel_rfl)); subst hzz; obtain ⟨g4, cs4, E4, hg4, bx4, hs4, hz4⟩ := hAz 2 _ _ (by decide) rfl; have hzz := hz4 (F2.nost (by kernel_rfl)); subst hzz; have hne2_3 : Hid (¬ g2 = g3) := hide (fun h => hNz 0 1 _ _ _ _ (by decide) (by decide) (by decide) rfl rfl (by rw [E2, E3, h])); have hne2_4 : Hid (¬ g2 = g4) := hide (fun h => hNz 0 2 _ _ _ _ (by decide) (by decide) (by decide) rfl rfl (by rw [E2, E4, h])); have hne3_4 : Hid (¬ g3 = g4) := hide (fun h => hNz 1 2 _ _ _ _ (by decide) (by decide) (by decide) rfl rfl (by rw [E3, E4, h])); simp only [Act.put, actv, fill, fC, fN, tA, cS, cZ]; simp only [(show va 2 = _ from E2), (show va 3 = _ from E3), (show va 4 = _ from E4)]; clear E2 E3 E4; have hge2 : w.heap.size ≤ g2 := Nat.le_trans HB.out.size hg2; have hge3 : w.heap.size ≤ g3 := Nat.le_trans HB.out.size hg3; have hge4 : w.heap.size ≤ g4 := Nat.le_trans HB.out.size hg4; replace h0 := h0.ext hBz.ext; replace h1 := h1.ext hBz.ext; replace h2 := h2.ext hBz.ext; replace h3 := h3.ext hBz.ext; replace HB := hide (HB.out.trans (hBz.below (B := w.heap.size) HB.out.size zE)); clear hOz hAz hNz hSz hs2 hz2 hs3 hz3 hs4 hz4 hBz
 go_upto_region 1 with (fail)
 refine F2.region [.o, .o, .o, .o, .o, .o, .o, .o, .o, .o, .o, .so (g4) 39 #[.bool false, .slice none 0 0, .bool false, .slice none 0 0]] [Fact.eq ?cb5_, Fact.eq ?cb6_, Fact.eq ?cb7_, Fact.eq ?cb8_, Fact.z ?kb9_ ?zb9_, Fact.eq ?cb10_, Fact.eq ?cb11_, Fact.eq ?cb12_, Fact.eq ?cb13_, Fact.z ?kb14_ ?zb14_, Fact.s_yy ?kb15_a ?zb15_a ?kb15_b ?zb15_b, Fact.s_yy ?kbs4_a ?zbs4_a ?kbs4_b ?zbs4_b] [5, 6, 7, 8, 9, 10, 11, 12, 13, 14, 15] [5, 6, 7, 8, 9, 10, 11, 12, 13, 14, 15, 0] (by kernel_rfl) ?sob ?sopb (by kernel_rfl) ?stb ?finb
 case sob => exact List.forall_mem_cons.2 ⟨⟨bx4, NoU.four nB nS nB nS⟩, fun x hx => by cases hx⟩
 case sopb => exact List.Pairwise.cons (fun y hy => by cases hy) (List.Pairwise.nil)
 case stb =>
  refine F2.Steps.consO rfl ?_ ?_
  ·
   intro vz wz hBz hDz hTz K hK; have HW := ext_drew hBz.ext; simp only [zy, F2.Wp] at hK ⊢; go_simp; refine hK _ wz zB (Fact.eq_mk ?_); with_reducible rfl
  refine F2.Steps.consO rfl ?_ ?_
  ·
   intro vz wz hBz hDz hTz K hK; have E5 : vz 5 = _ := hDz 0 (by kernel_rfl) rfl; have HW := ext_drew hBz.ext; have bx2z := hBz.blk bx2.drew (zM hne2_4.out zN); obtain ⟨zl0, zl1, zl2, zl3, -⟩ := bx2z.four; simp only [zy, F2.Wp] at hK ⊢; simp only [E5] at hK ⊢; go_simp; refine hK _ wz zB (Fact.eq_mk ?_); with_reducible rfl
  refine F2.Steps.consO rfl ?_ ?_
  ·
   intro vz wz hBz hDz hTz K hK; have HW := ext_drew hBz.ext; simp only [zy, F2.Wp] at hK ⊢; go_simp; refine hK _ wz zB (Fact.eq_mk ?_); with_reducible rfl
  refine F2.Steps.consO rfl ?_ ?_
  ·
   intro vz wz hBz hDz hTz K hK; have E7 : vz 7 = _ := hDz 2 (by kernel_rfl) rfl; have HW := ext_drew hBz.ext; have bx3z := hBz.blk bx3.drew (zM hne3_4.out zN); obtain ⟨zl0, zl1, zl2, zl3, -⟩ := bx3z.four; simp only [zy, F2.Wp] at hK ⊢; simp only [E7] at hK ⊢; go_simp; refine hK _ wz zB (Fact.eq_mk ?_); with_reducible rfl
  refine F2.Steps.consO rfl ?_ ?_
  ·
   intro vz wz hBz hDz hTz K hK; have E6 : vz 6 = _ := hDz 1 (by kernel_rfl) rfl; have E8 : vz 8 = _ := hDz 3 (by kernel_rfl) rfl; have HW := ext_drew hBz.ext; simp only [zy, F2.Wp] at hK ⊢; simp only [E6, E8] at hK ⊢; go_simp; refine Calls.mono (v_sub (h0.ext HW) (h3.ext HW) (by omega) (by omega)) ?_; rintro e w2z ⟨hb2, uz, rfl, hf⟩
   go_wp2_with fail
   refine hK _ w2z hb2 (Fact.cast (hf) ?_); with_reducible rfl
  refine F2.Steps.consO rfl ?_ ?_
  ·
   intro vz wz hBz hDz hTz K hK; have HW := ext_drew hBz.ext; simp only [zy, F2.Wp] at hK ⊢; go_simp; refine hK _ wz zB (Fact.eq_mk ?_); with_reducible rfl
  refine F2.Steps.consO rfl ?_ ?_
  ·
   intro vz wz hBz hDz hTz K hK; have E10 : vz 10 = _ := hDz 5 (by kernel_rfl) rfl; have HW := ext_drew hBz.ext; have bx2z := hBz.blk bx2.drew (zM hne2_4.out zN); obtain ⟨zl0, zl1, zl2, zl3, -⟩ := bx2z.four; simp only [zy, F2.Wp] at hK ⊢; simp only [E10] at hK ⊢; go_simp; refine hK _ wz zB (Fact.eq_mk ?_); with_reducible rfl
  refine F2.Steps.consO rfl ?_ ?_
  ·
   intro vz wz hBz hDz hTz K hK; have HW := ext_drew hBz.ext; simp only [zy, F2.Wp] at hK ⊢; go_simp; refine hK _ wz zB (Fact.eq_mk ?_); with_reducible rfl
  refine F2.Steps.consO rfl ?_ ?_
  ·
   intro vz wz hBz hDz hTz K hK; have E12 : vz 12 = _ := hDz 7 (by kernel_rfl) rfl; have HW := ext_drew hBz.ext; have bx3z := hBz.blk bx3.drew (zM hne3_4.out zN); obtain ⟨zl0, zl1, zl2, zl3, -⟩ := bx3z.four; simp only [zy, F2.Wp] at hK ⊢; simp only [E12] at hK ⊢; go_simp; refine hK _ wz zB (Fact.eq_mk ?_); with_reducible rfl
  refine F2.Steps.consO rfl ?_ ?_
  ·
   intro vz wz hBz hDz hTz K hK; have E11 : vz 11 = _ := hDz 6 (by kernel_rfl) rfl; have E13 : vz 13 = _ := hDz 8 (by kernel_rfl) rfl; have HW := ext_drew hBz.ext; simp only [zy, F2.Wp] at hK ⊢; simp only [E11, E13] at hK ⊢; go_simp; refine Calls.mono (v_sub (h1.ext HW) (h2.ext HW) (by omega) (by omega)) ?_; rintro e w2z ⟨hb2, uz, rfl, hf⟩
   go_wp2_with fail
   refine hK _ w2z hb2 (Fact.cast (hf) ?_); with_reducible rfl
  refine F2.Steps.consO rfl ?_ ?_
  ·
   intro vz wz hBz hDz hTz K hK; obtain ⟨n9_, A9_, l9_, c9_, E9, q9⟩ : IntV 0 _ _ wz (vz 9) := hDz 4 (by kernel_rfl) rfl; obtain ⟨n14_, A14_, l14_, c14_, E14, q14⟩ : IntV 0 _ _ wz (vz 14) := hDz 9 (by kernel_rfl) rfl; have HW := ext_drew hBz.ext; simp only [zy, F2.Wp] at hK ⊢; simp only [E9, E14] at hK ⊢; go_simp; refine hK _ wz zB (Fact.cast (Fact.s_yy_mk q9 q14) ?_); with_reducible rfl
  refine F2.Steps.consT rfl ?_ ?_
  ·
   intro vz wz hBz hDz hbz K hK; obtain ⟨zc0, zc1, zc2, zc3, zc4, zc5, zc6, zc7⟩ := hbz.four; obtain ⟨n15a_, A15a_, l15a_, c15a_, n15b_, A15b_, l15b_, c15b_, E15, q15a, q15b⟩ : SV_yy _ _ _ _ wz (vz 15) := hDz 10 (by kernel_rfl) rfl; have HW := ext_drew hBz.ext; simp only [zy, F2.Wp] at hK ⊢; simp only [E15] at hK ⊢; go_simp; refine hK _ ((((Far.set _ _ 0 _).trans (Far.set _ _ 1 _)).trans (Far.set _ _ 2 _)).trans (Far.set _ _ 3 _)) ⟨_, blk_four hbz, NoU.four nB nS nB nS, Fact.cast (Fact.s_yy_mk q15a q15b) ?_⟩; with_reducible rfl
  exact F2.Steps.nil
 intro vb w2 hBz ⟨hOz, hAz, hNz, hSz⟩; have E5 : vb 5 = _ := hOz 0 (by decide) rfl; have E6 : vb 6 = _ := hOz 1 (by decide) rfl; have E7 : vb 7 = _ := hOz 2 (by decide) rfl; have E8 : vb 8 = _ := hOz 3 (by decide) rfl; obtain ⟨n9_, A9_, l9_, c9_, E9, q9⟩ : IntV 0 _ _ w2 (vb 9) := hOz 4 (by decide) rfl; have E10 : vb 10 = _ := hOz 5 (by decide) rfl; have E11 : vb 11 = _ := hOz 6 (by decide) rfl; have E12 : vb 12 = _ := hOz 7 (by decide) rfl; have E13 : vb 13 = _ := hOz 8 (by decide) rfl; obtain ⟨n14_, A14_, l14_, c14_, E14, q14⟩ : IntV 0 _ _ w2 (vb 14) := hOz 9 (by decide) rfl; obtain ⟨n15a_, A15a_, l15a_, c15a_, n15b_, A15b_, l15b_, c15b_, E15, q15a, q15b⟩ : SV_yy _ _ _ _ w2 (vb 15) := hOz 10 (by decide) rfl; obtain ⟨cs4, bx4n, hs4⟩ := hSz 11 _ _ _ (by decide) rfl; obtain ⟨n4sba_, A4sba_, l4sba_, c4sba_, n4sbb_, A4sbb_, l4sbb_, c4sbb_, E4sb, q4sba, q4sbb⟩ : SV_yy _ _ _ _ w2 (.agg cs4) := hs4; injection E4sb with E4sb
 subst E4sb; simp only [Act.put, actv, fill, fC, fN, tA, cS, cZ]; simp only [E5, E6, E7, E8, E9, E10, E11, E12, E13, E14, E15]; clear E5 E6 E7 E8 E9 E10 E11 E12 E13 E14 E15; replace h0 := h0.ext hBz.ext; replace h1 := h1.ext hBz.ext; replace h2 := h2.ext hBz.ext; replace h3 := h3.ext hBz.ext; replace bx2 := hBz.blk bx2 (zM hne2_4.out zN); replace bx3 := hBz.blk bx3 (zM hne3_4.out zN); replace HB := hide (HB.out.trans (hBz.below (B := w.heap.size) HB.out.size (zA hge4 zE))); clear bx4; have bx4 := bx4n; clear bx4n; clear hOz hAz hNz hSz hBz
 go_wp2_with fail
 refine bodyPost_ret (results_pair rfl _ _ _ _ _ _ _ _ rfl bx4) rfl ⟨HB.out, ?_⟩; exact VF.mk (Fact.s_yy_mk q4sba q4sbb)
/-- May a sum be reckoned? -/
def mayR (x q n y : Int) : Bool := decide (0 ≤ q) && (decide (q ≤ 1200) && (decide (1 ≤ n) && (decide (n ≤ 400) && (decide (0 ≤ x) && decide (x * 2 ≤ y * 2 ^ q.toNat)))))
theorem sign_nn (x : Int) : 0 ≤ x.sign ↔ 0 ≤ x := Int.sign_nonneg_iff
set_option maxHeartbeats 4000000 in
set_option maxRecDepth 100000 in
theorem rmay_calls {w : World}  {k0 : Nat} {n0 : Bool} {A0 : Option Addr} {l0 c0 : Nat} {x0 : Int} {q n y : Int} (h0 : Q w k0 n0 A0 l0 c0 x0) (hk0 : k0 ≤ 9000) (hy0 : 1 ≤ y) (hy1 : y ≤ 4) :
    Calls Tryz.prog 20 #[.agg #[.bool n0, .slice A0 l0 c0], .int .i64 q, .int .i64 n, .int .i64 y] w fun e w' => Below w.heap.size w w' ∧ VF (Fact.eq (.bool (mayR x0 q n y))) e w' := by
 obtain ⟨s, HS⟩ : ∃ s, Hid (x0.sign = s) := ⟨_, hide rfl⟩; obtain ⟨c, HC⟩ : ∃ c, Hid (cmpZ (x0 * 2 ^ (1 : Int).toNat) (y * 2 ^ q.toNat) = c) := ⟨_, hide rfl⟩
 have HM : Hid (mayR x0 q n y = (decide (0 ≤ q) && (decide (q ≤ 1200) && (decide (1 ≤ n) && (decide (n ≤ 400) && (decide (0 ≤ s) && decide (c ≤ 0))))))) := hide (by
  unfold mayR; rw [← HS.out, ← HC.out, decide_eq_decide.2 (sign_nn x0), decide_eq_decide.2 (cmpZ_le _ _)]
  rfl)
 obtain ⟨r, HR⟩ : ∃ r, Hid (mayR x0 q n y = r) := ⟨_, hide rfl⟩; rw [HR.out]; rw [HR.out] at HM
 go_enter Tryz.func20, Tryz.ntmps20
 have HB : Hid (Below w.heap.size w w) := hide (Below.refl _ _)
 go_upto_region 0 with (fail)
 refine F2.regionS [.al 24 #[.bool n0, .slice A0 l0 c0], .o] [Fact.any, Fact.eq ?ca8_] [4, 8] [4, 8] (by kernel_rfl) ?soa ?sopa (by kernel_rfl) ?sta ?fina
 case soa => exact fun x hx => by cases hx
 case sopa => exact List.Pairwise.nil
 case sta =>
  refine F2.Steps.consA rfl ⟨NoU.two nB nS, ?_⟩ ?_
  ·
   intro vz wz hBz K hK; simp only [zy, F2.Wp] at hK ⊢; go_simp; exact hK
  refine F2.Steps.consO rfl ?_ ?_
  ·
   intro vz wz hBz hDz hTz K hK; have HW := hBz.ext; simp only [zy, F2.Wp] at hK ⊢; go_simp; refine hK _ wz zB (Fact.eq_mk ?_); with_reducible rfl
  exact F2.Steps.nil
 intro va w1 hBz ⟨hOz, hAz, hNz, hSz⟩; obtain ⟨g4, cs4, E4, hg4, bx4, hs4, hz4⟩ := hAz 0 _ _ (by decide) rfl; have hzz := hz4 (F2.nost (by kernel_rfl)); subst hzz; have E8 : va 8 = _ := hOz 1 (by decide) rfl; simp only [Act.put, actv, fill, fC, fN, tA, cS, cZ]; simp only [(show va 4 = _ from E4), E8]; clear E4 E8; have hge4 : w.heap.size ≤ g4 := Nat.le_trans HB.out.size hg4; replace h0 := h0.ext hBz.ext; replace HB := hide (HB.out.trans (hBz.below (B := w.heap.size) HB.out.size zE)); clear hOz hAz hNz hSz hs4 hz4 hBz
 by_cases g0 : 0 ≤ q
 ·
  by_cases g1 : q ≤ 1200
  ·
   by_cases g2 : 1 ≤ n
   ·
    by_cases g3 : n ≤ 400
    ·
     by_cases g4 : 0 ≤ s
     ·
      obtain ⟨bx4c0, bx4c1, -⟩ := bx4.two
      go_wp2_with fail
      refine Calls.mono (HS.out ▸ v_sign h0 (by omega)) ?_; rintro e w2 ⟨hb2, uz2, rfl, hf⟩; clear bx4c0 bx4c1; obtain rfl := Fact.eq_of hf; have HW := ext_of hb2; replace h0 := h0.ext HW; replace bx4 := bx4.below hb2 bx4.lt; replace HB := hide (HB.out.trans (hb2.mono HB.out.size)); clear HW hb2; obtain ⟨bx4c0, bx4c1, -⟩ := bx4.two
      go_wp2_with fail
      refine Calls.mono (v_shl h0 (by omega) (by omega) (by omega)) ?_; rintro e w3 ⟨hb2, uz3, rfl, hf⟩; clear bx4c0 bx4c1; obtain ⟨n30_, A30_, l30_, c30_, rfl, q30⟩ : IntV 0 _ _ w3 uz3 := hf; have HW := ext_of hb2; replace h0 := h0.ext HW; replace bx4 := bx4.below hb2 bx4.lt; replace HB := hide (HB.out.trans (hb2.mono HB.out.size)); clear HW hb2; obtain ⟨bx4c0, bx4c1, -⟩ := bx4.two
      go_wp2_with fail
      refine Calls.mono (v_of  (by omega) (by omega)) ?_; rintro e w4 ⟨hb2, uz4, rfl, hf⟩; clear bx4c0 bx4c1; obtain ⟨n32_, A32_, l32_, c32_, rfl, q32⟩ : IntV 0 _ _ w4 uz4 := hf; have HW := ext_of hb2; replace h0 := h0.ext HW; replace q30 := q30.ext HW; replace bx4 := bx4.below hb2 bx4.lt; replace HB := hide (HB.out.trans (hb2.mono HB.out.size)); clear HW hb2; obtain ⟨bx4c0, bx4c1, -⟩ := bx4.two
      go_wp2_with fail
      refine Calls.mono (v_shl q32.q (by omega) (by omega) (by omega)) ?_; rintro e w5 ⟨hb2, uz5, rfl, hf⟩; clear bx4c0 bx4c1; obtain ⟨n34_, A34_, l34_, c34_, rfl, q34⟩ : IntV 0 _ _ w5 uz5 := hf; have HW := ext_of hb2; replace h0 := h0.ext HW; replace q30 := q30.ext HW; replace q32 := q32.ext HW; replace bx4 := bx4.below hb2 bx4.lt; replace HB := hide (HB.out.trans (hb2.mono HB.out.size)); clear HW hb2; obtain ⟨bx4c0, bx4c1, -⟩ := bx4.two
      go_wp2_with fail
      refine Calls.mono (HC.out ▸ v_cmp q30.q q34.q (by omega) (by omega)) ?_; rintro e w6 ⟨hb2, uz6, rfl, hf⟩; clear bx4c0 bx4c1; obtain rfl := Fact.eq_of hf; have HW := ext_of hb2; replace h0 := h0.ext HW; replace q30 := q30.ext HW; replace q32 := q32.ext HW; replace q34 := q34.ext HW; replace bx4 := bx4.below hb2 bx4.lt; replace HB := hide (HB.out.trans (hb2.mono HB.out.size)); clear HW hb2
      go_wp2_with fail
      go_ret
      exact ⟨HB.out, VF.mk (Fact.cast (Fact.eq_self _ _) (by rw [HM.out]; simp only [decide_eq_true (show 0 ≤ q by omega), decide_eq_true (show q ≤ 1200 by omega), decide_eq_true (show 1 ≤ n by omega), decide_eq_true (show n ≤ 400 by omega), decide_eq_true (show 0 ≤ s by omega), Bool.true_and, Bool.false_and] <;> rfl))⟩
     ·
      obtain ⟨bx4c0, bx4c1, -⟩ := bx4.two
      go_wp2_with fail
      refine Calls.mono (HS.out ▸ v_sign h0 (by omega)) ?_; rintro e w7 ⟨hb2, uz7, rfl, hf⟩; clear bx4c0 bx4c1; obtain rfl := Fact.eq_of hf; have HW := ext_of hb2; replace h0 := h0.ext HW; replace bx4 := bx4.below hb2 bx4.lt; replace HB := hide (HB.out.trans (hb2.mono HB.out.size)); clear HW hb2
      go_wp2_with fail
      go_ret
      exact ⟨HB.out, VF.mk (Fact.cast (Fact.eq_self _ _) (by rw [HM.out]; simp only [decide_eq_true (show 0 ≤ q by omega), decide_eq_true (show q ≤ 1200 by omega), decide_eq_true (show 1 ≤ n by omega), decide_eq_true (show n ≤ 400 by omega), decide_eq_false (show ¬ (0 ≤ s) by omega), Bool.true_and, Bool.false_and] <;> rfl))⟩
    ·
     go_wp2_with fail
     go_ret
     exact ⟨HB.out, VF.mk (Fact.cast (Fact.eq_self _ _) (by rw [HM.out]; simp only [decide_eq_true (show 0 ≤ q by omega), decide_eq_true (show q ≤ 1200 by omega), decide_eq_true (show 1 ≤ n by omega), decide_eq_false (show ¬ (n ≤ 400) by omega), Bool.true_and, Bool.false_and] <;> rfl))⟩
   ·
    go_wp2_with fail
    go_ret
    exact ⟨HB.out, VF.mk (Fact.cast (Fact.eq_self _ _) (by rw [HM.out]; simp only [decide_eq_true (show 0 ≤ q by omega), decide_eq_true (show q ≤ 1200 by omega), decide_eq_false (show ¬ (1 ≤ n) by omega), Bool.true_and, Bool.false_and] <;> rfl))⟩
  ·
   go_wp2_with fail
   go_ret
   exact ⟨HB.out, VF.mk (Fact.cast (Fact.eq_self _ _) (by rw [HM.out]; simp only [decide_eq_true (show 0 ≤ q by omega), decide_eq_false (show ¬ (q ≤ 1200) by omega), Bool.true_and, Bool.false_and] <;> rfl))⟩
 ·
  go_wp2_with fail
  go_ret
  exact ⟨HB.out, VF.mk (Fact.cast (Fact.eq_self _ _) (by rw [HM.out]; simp only [decide_eq_false (show ¬ (0 ≤ q) by omega), Bool.true_and, Bool.false_and] <;> rfl))⟩
end Go.Proofs.YtnephejalollfaaGreat

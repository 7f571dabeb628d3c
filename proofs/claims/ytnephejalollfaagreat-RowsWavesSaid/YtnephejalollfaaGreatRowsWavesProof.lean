/-
  hairlinelaw06.RowsWaves returns true for any integer, any places and any terms. Conditions: none.
-/
import Derived.Test.YtnephejalollfaaGreatRows
import Derived.Test.YtnephejalollfaaGreatRs
import Derived.Test.YtnephejalollfaaGreatRo
import Derived.Test.YtnephejalollfaaGreatOp5
namespace Go.Proofs.YtnephejalollfaaGreat.rowsWaves
open Go.ChangeShapes Go.WideShapes Go.ChangeAt Go.RowKit
open L (val)
set_option linter.unusedVariables false
set_option linter.unusedSimpArgs false

theorem own : ownKnob Tryz.prog.godebug = none := by kernel_rfl
theorem laidOut : laidOutB Tryz.prog = true := by kernel_rfl
theorem dsin_named {w : World} {k0 : Nat} {n0 : Bool} {A0 : Option Addr} {l0 c0 : Nat} {x0 q n ra rb rc : Int} (h0 : Q w k0 n0 A0 l0 c0 x0) (hk0 : k0 ≤ 40) (ha : Hid ((if mayR x0 q n 4 = true then sinLo x0 q n.toNat else 0) = ra)) (hb : Hid ((if mayR x0 q n 4 = true then sinHi x0 q n.toNat else 0) = rb)) (hc : Hid ((if mayR x0 q n 4 = true then (0 : Int) else 1) = rc)) :
    Calls Tryz.prog 9 #[.agg #[.bool n0, .slice A0 l0 c0], .int .i64 q, .int .i64 n] w fun e w' => Below w.heap.size w w' ∧ VF (Fact.t3 (Fact.z 340 ra) (Fact.z 340 rb) (Fact.eq (.int .i64 rc))) e w' := by
  have h := dsin_calls (q := q) (n := n) h0 hk0; rw [ha.out, hb.out, hc.out] at h; exact h
theorem dcos_named {w : World} {k0 : Nat} {n0 : Bool} {A0 : Option Addr} {l0 c0 : Nat} {x0 q n ra rb rc : Int} (h0 : Q w k0 n0 A0 l0 c0 x0) (hk0 : k0 ≤ 40) (ha : Hid ((if mayR x0 q n 4 = true then cosLo x0 q n.toNat else 0) = ra)) (hb : Hid ((if mayR x0 q n 4 = true then cosHi x0 q n.toNat else 0) = rb)) (hc : Hid ((if mayR x0 q n 4 = true then (0 : Int) else 1) = rc)) :
    Calls Tryz.prog 12 #[.agg #[.bool n0, .slice A0 l0 c0], .int .i64 q, .int .i64 n] w fun e w' => Below w.heap.size w w' ∧ VF (Fact.t3 (Fact.z 340 ra) (Fact.z 340 rb) (Fact.eq (.int .i64 rc))) e w' := by
  have h := dcos_calls (q := q) (n := n) h0 hk0; rw [ha.out, hb.out, hc.out] at h; exact h
set_option maxHeartbeats 4000000 in
set_option maxRecDepth 100000 in
theorem walkN {w : World} {L0 : List Nat} {k0 : Nat} {n0 : Bool} {A0 : Option Addr} {l0 c0 : Nat} {x0 : Int} {q n : Int} (h0 : Q w k0 n0 A0 l0 c0 x0) (hL0 : Nums w 0 (.slice A0 l0 c0) L0) :
    Calls Tryz.prog 3 #[.agg #[.bool n0, .slice A0 l0 c0], .int .i64 q, .int .i64 n] w fun e w' => Below w.heap.size w w' ∧ VF (Fact.eq (.bool true)) e w' := by
 have HL0 := hide hL0; clear hL0; obtain ⟨t, Ht⟩ : ∃ t, Hid (ival n0 (val W (L0.take 20)) = t) := ⟨_, hide rfl⟩; obtain ⟨nn, Hn⟩ : ∃ m, Hid (fewZ q n = m) := ⟨_, hide rfl⟩; obtain ⟨ra0, HRA0⟩ : ∃ r, Hid ((if mayR t q nn 4 = true then sinLo t q nn.toNat else 0) = r) := ⟨_, hide rfl⟩; obtain ⟨rb0, HRB0⟩ : ∃ r, Hid ((if mayR t q nn 4 = true then sinHi t q nn.toNat else 0) = r) := ⟨_, hide rfl⟩; obtain ⟨rc0, HRC0⟩ : ∃ r, Hid ((if mayR t q nn 4 = true then (0 : Int) else 1) = r) := ⟨_, hide rfl⟩; obtain ⟨ra1, HRA1⟩ : ∃ r, Hid ((if mayR t q nn 4 = true then cosLo t q nn.toNat else 0) = r) := ⟨_, hide rfl⟩; obtain ⟨rb1, HRB1⟩ : ∃ r, Hid ((if mayR t q nn 4 = true then cosHi t q nn.toNat else 0) = r) := ⟨_, hide rfl⟩; obtain ⟨rc1, HRC1⟩ : ∃ r, Hid ((if mayR t q nn 4 = true then (0 : Int) else 1) = r) := ⟨_, hide rfl⟩
 go_enter Tryz.func3, Tryz.ntmps3
 have HB : Hid (Below w.heap.size w w) := hide (Below.refl _ _)
 go_upto_region 0 with (fail)
 refine F2.regionS [.al 24 #[.bool n0, .slice A0 l0 c0], .o] [Fact.any, Fact.eq ?ca6_] [3, 6] [3, 6] (by kernel_rfl) ?soa ?sopa (by kernel_rfl) ?sta ?fina
 case soa => exact fun x hx => by cases hx
 case sopa => exact List.Pairwise.nil
 case sta =>
  refine F2.Steps.consA rfl ⟨NoU.two nB nS, ?_⟩ ?_
  ·
   intro vz wz hBz K hK; simp only [zy, F2.Wp] at hK ⊢; go_simp; exact hK
  refine F2.Steps.consO rfl ?_ ?_
  ·
   intro vz wz hBz hDz hTz K hK; have HW := hBz.ext; simp only [zy, F2.Wp] at hK ⊢; go_simp; refine hK _ wz zB (Fact.eq_mk ?_); with_reducible rfl
  exact F2.Steps.nil
 intro va w1 hBz ⟨hOz, hAz, hNz, hSz⟩; obtain ⟨g3, cs3, E3, hg3, bx3, hs3, hz3⟩ := hAz 0 _ _ (by decide) rfl; have hzz := hz3 (F2.nost (by kernel_rfl)); subst hzz; have E6 : va 6 = _ := hOz 1 (by decide) rfl; simp only [Act.put, actv, fill, fC, fN, tA, cS, cZ]; simp only [(show va 3 = _ from E3), E6]; clear E3 E6; have hge3 : w.heap.size ≤ g3 := Nat.le_trans HB.out.size hg3; replace h0 := h0.ext hBz.ext; replace HL0 := hide (HL0.out.ext (hBz).ext); replace HB := hide (HB.out.trans (hBz.below (B := w.heap.size) HB.out.size zE)); clear hOz hAz hNz hSz hs3 hz3 hBz
 go_upto_region 1 with (fail)
 refine F2.regionS [.o, .o] [Fact.eq ?cb15_, Fact.eq ?cb7_] [15, 7] [15, 7] (by kernel_rfl) ?sob ?sopb (by kernel_rfl) ?stb ?finb
 case sob => exact fun x hx => by cases hx
 case sopb => exact List.Pairwise.nil
 case stb =>
  refine F2.Steps.consO rfl ?_ ?_
  ·
   intro vz wz hBz hDz hTz K hK; have HW := hBz.ext; simp only [zy, F2.Wp] at hK ⊢; go_simp; refine Calls.mono (shown6_calls) ?_; rintro e w2z ⟨hb2, uz, rfl, hf⟩; refine hK _ w2z hb2 (Fact.cast (hf) ?_); with_reducible rfl
  refine F2.Steps.consO rfl ?_ ?_
  ·
   intro vz wz hBz hDz hTz K hK; have E15 : vz 15 = _ := hDz 0 (by kernel_rfl) rfl; have HW := hBz.ext; simp only [zy, F2.Wp] at hK ⊢; simp only [E15] at hK ⊢; go_simp; refine hK _ wz zB (Fact.eq_mk ?_); with_reducible rfl
  exact F2.Steps.nil
 intro vb w2 hBz ⟨hOz, hAz, hNz, hSz⟩; have E15 : vb 15 = _ := hOz 0 (by decide) rfl; have E7 : vb 7 = _ := hOz 1 (by decide) rfl; simp only [Act.put, actv, fill, fC, fN, tA, cS, cZ]; simp only [E15, E7]; clear E15 E7; replace h0 := h0.ext hBz.ext; replace bx3 := hBz.blk bx3 zN; replace HL0 := hide (HL0.out.ext (hBz).ext); replace HB := hide (HB.out.trans (hBz.below (B := w.heap.size) HB.out.size zE)); clear hOz hAz hNz hSz hBz
 go_upto_region 2 with (fail)
 refine F2.regionS [.o, .o, .so (g3) 24 #[.bool n0, .slice A0 l0 c0]] [Fact.eq ?cc16_, Fact.s_z ?kc17_a ?zc17_a, Fact.s_z ?kcs3_a ?zcs3_a] [16, 17] [16, 17, 0] (by kernel_rfl) ?soc ?sopc (by kernel_rfl) ?stc ?finc
 case soc => exact List.forall_mem_cons.2 ⟨⟨bx3, NoU.two nB nS⟩, fun x hx => by cases hx⟩
 case sopc => exact List.Pairwise.cons (fun y hy => by cases hy) (List.Pairwise.nil)
 case stc =>
  refine F2.Steps.consO rfl ?_ ?_
  ·
   intro vz wz hBz hDz hTz K hK; have HW := hBz.ext; have bx3z := hTz 2 _ _ _ _ rfl rfl (by kernel_rfl); obtain ⟨zl0, zl1, -⟩ := bx3z.two; simp only [zy, F2.Wp] at hK ⊢; go_simp; refine hK _ wz zB (Fact.eq_mk ?_); with_reducible rfl
  refine F2.Steps.consO rfl ?_ ?_
  ·
   intro vz wz hBz hDz hTz K hK; have E16 : vz 16 = _ := hDz 0 (by kernel_rfl) rfl; have HW := hBz.ext; simp only [zy, F2.Wp] at hK ⊢; simp only [E16] at hK ⊢; go_simp; refine Calls.mono (Ht.out ▸ cut6_calls   20 (HL0.out.ext HW) (by omega)) ?_; rintro e w2z ⟨hb2, uz, rfl, hf⟩; refine hK _ w2z hb2 (Fact.cast (hf) ?_); with_reducible rfl
  refine F2.Steps.consT rfl ?_ ?_
  ·
   intro vz wz hBz hDz hbz K hK; obtain ⟨zc0, zc1, zc2, zc3⟩ := hbz.two; obtain ⟨n17a_, A17a_, l17a_, c17a_, E17, q17a⟩ : SV_z _ _ wz (vz 17) := hDz 1 (by kernel_rfl) rfl; have HW := hBz.ext; simp only [zy, F2.Wp] at hK ⊢; simp only [E17] at hK ⊢; go_simp; refine hK _ ((Far.set _ _ 0 _).trans (Far.set _ _ 1 _)) ⟨_, blk_two hbz, NoU.two nB nS, Fact.cast (Fact.s_z_mk q17a) ?_⟩; with_reducible rfl
  exact F2.Steps.nil
 intro vc w3 hBz ⟨hOz, hAz, hNz, hSz⟩; have E16 : vc 16 = _ := hOz 0 (by decide) rfl; obtain ⟨n17a_, A17a_, l17a_, c17a_, E17, q17a⟩ : SV_z _ _ w3 (vc 17) := hOz 1 (by decide) rfl; obtain ⟨cs3, bx3n, hs3⟩ := hSz 2 _ _ _ (by decide) rfl; obtain ⟨n3sca_, A3sca_, l3sca_, c3sca_, E3sc, q3sca⟩ : SV_z _ _ w3 (.agg cs3) := hs3; injection E3sc with E3sc
 subst E3sc; simp only [Act.put, actv, fill, fC, fN, tA, cS, cZ]; simp only [E16, E17]; clear E16 E17; replace h0 := h0.ext hBz.ext; replace HL0 := hide (HL0.out.ext (hBz).ext); replace HB := hide (HB.out.trans (hBz.below (B := w.heap.size) HB.out.size (zA hge3 zE))); clear bx3; have bx3 := bx3n; clear bx3n; clear hOz hAz hNz hSz hBz
 go_upto_region 3 with (fail)
 obtain ⟨bx3c0, bx3c1, -⟩ := bx3.two
 go_wp2_with fail
 refine Calls.mono (Hn.out ▸ few_calls) ?_; rintro e w4 ⟨hb2, uz4, rfl, hf⟩; clear bx3c0 bx3c1; obtain rfl := Fact.eq_of hf; have HW := ext_of hb2; replace h0 := h0.ext HW; replace q3sca := q3sca.ext HW; replace bx3 := bx3.below hb2 bx3.lt; replace HL0 := hide (HL0.out.ext ((low_of hb2)).ext); replace HB := hide (HB.out.trans (hb2.mono HB.out.size)); clear HW hb2
 go_upto_region 4 with (fail)
 refine F2.regionS [.o, .o, .o, .o, .o, .o, .o, .o, .al 24 #[.bool false, .slice none 0 0], .al 24 #[.bool false, .slice none 0 0], .st 8, .st 9, .o] [Fact.eq ?ce22_, Fact.eq ?ce23_, Fact.eq ?ce24_, Fact.t3 (Fact.z ?ke25_p ?ze25_p) (Fact.z ?ke25_q ?ze25_q) (Fact.eq ?ce25_r), Fact.t3 (Fact.z ?ke21_p ?ze21_p) (Fact.z ?ke21_q ?ze21_q) (Fact.eq ?ce21_r), Fact.z ?ke26_ ?ze26_, Fact.z ?ke27_ ?ze27_, Fact.eq ?ce28_, Fact.any, Fact.any, Fact.z ?kes8_ ?zes8_, Fact.z ?kes9_ ?zes9_, Fact.eq ?ce10_] [22, 23, 24, 25, 21, 26, 27, 28, 8, 9, 10] [22, 23, 24, 25, 21, 26, 27, 28, 8, 9, 0, 0, 10] (by kernel_rfl) ?soe ?sope (by kernel_rfl) ?ste ?fine
 case soe => exact fun x hx => by cases hx
 case sope => exact List.Pairwise.nil
 case ste =>
  refine F2.Steps.consO rfl ?_ ?_
  ·
   intro vz wz hBz hDz hTz K hK; have HW := hBz.ext; have bx3z := hBz.blk bx3 zN; obtain ⟨zl0, zl1, -⟩ := bx3z.two; simp only [zy, F2.Wp] at hK ⊢; go_simp; refine hK _ wz zB (Fact.eq_mk ?_); with_reducible rfl
  refine F2.Steps.consO rfl ?_ ?_
  ·
   intro vz wz hBz hDz hTz K hK; have HW := hBz.ext; simp only [zy, F2.Wp] at hK ⊢; go_simp; refine hK _ wz zB (Fact.eq_mk ?_); with_reducible rfl
  refine F2.Steps.consO rfl ?_ ?_
  ·
   intro vz wz hBz hDz hTz K hK; have HW := hBz.ext; simp only [zy, F2.Wp] at hK ⊢; go_simp; refine hK _ wz zB (Fact.eq_mk ?_); with_reducible rfl
  refine F2.Steps.consO rfl ?_ ?_
  ·
   intro vz wz hBz hDz hTz K hK; have E22 : vz 22 = _ := hDz 0 (by kernel_rfl) rfl; have E23 : vz 23 = _ := hDz 1 (by kernel_rfl) rfl; have E24 : vz 24 = _ := hDz 2 (by kernel_rfl) rfl; have HW := hBz.ext; simp only [zy, F2.Wp] at hK ⊢; simp only [E22, E23, E24] at hK ⊢; go_simp; refine Calls.mono (rsin_named (q3sca.ext HW) (by omega) HRA0 HRB0 HRC0) ?_; rintro e w2z ⟨hb2, uz, rfl, hf⟩; refine hK _ w2z hb2 (Fact.cast (hf) ?_); with_reducible rfl
  refine F2.Steps.consO rfl ?_ ?_
  ·
   intro vz wz hBz hDz hTz K hK; obtain ⟨x25p_, x25q_, x25r_, E25, h25p, h25q, h25r⟩ : TV3 _ _ _ wz (vz 25) := hDz 3 (by kernel_rfl) rfl; obtain rfl := Fact.eq_of h25r; have HW := hBz.ext; simp only [zy, F2.Wp] at hK ⊢; simp only [E25] at hK ⊢; go_simp; refine hK _ wz zB (Fact.cast (Fact.t3_mk h25p h25q (Fact.eq_self _ _)) ?_); with_reducible rfl
  refine F2.Steps.consO rfl ?_ ?_
  ·
   intro vz wz hBz hDz hTz K hK; obtain ⟨x21p_, x21q_, x21r_, E21, h21p, h21q, h21r⟩ : TV3 _ _ _ wz (vz 21) := hDz 4 (by kernel_rfl) rfl; obtain rfl := Fact.eq_of h21r; have HW := hBz.ext; simp only [zy, F2.Wp] at hK ⊢; simp only [E21] at hK ⊢; go_simp; refine hK _ wz zB (Fact.cast (h21p) ?_); with_reducible rfl
  refine F2.Steps.consO rfl ?_ ?_
  ·
   intro vz wz hBz hDz hTz K hK; obtain ⟨x21p_, x21q_, x21r_, E21, h21p, h21q, h21r⟩ : TV3 _ _ _ wz (vz 21) := hDz 4 (by kernel_rfl) rfl; obtain rfl := Fact.eq_of h21r; have HW := hBz.ext; simp only [zy, F2.Wp] at hK ⊢; simp only [E21] at hK ⊢; go_simp; refine hK _ wz zB (Fact.cast (h21q) ?_); with_reducible rfl
  refine F2.Steps.consO rfl ?_ ?_
  ·
   intro vz wz hBz hDz hTz K hK; obtain ⟨x21p_, x21q_, x21r_, E21, h21p, h21q, h21r⟩ : TV3 _ _ _ wz (vz 21) := hDz 4 (by kernel_rfl) rfl; obtain rfl := Fact.eq_of h21r; have HW := hBz.ext; simp only [zy, F2.Wp] at hK ⊢; simp only [E21] at hK ⊢; go_simp; refine hK _ wz zB (Fact.eq_mk ?_); with_reducible rfl
  refine F2.Steps.consA rfl ⟨NoU.two nB nS, ?_⟩ ?_
  ·
   intro vz wz hBz K hK; simp only [zy, F2.Wp] at hK ⊢; go_simp; exact hK
  refine F2.Steps.consA rfl ⟨NoU.two nB nS, ?_⟩ ?_
  ·
   intro vz wz hBz K hK; simp only [zy, F2.Wp] at hK ⊢; go_simp; exact hK
  refine F2.Steps.consS rfl rfl ?_ ?_
  ·
   intro vz wz gz hBz hDz E8' hgz hbz K hK; obtain ⟨zc0, zc1, zc2, zc3⟩ := hbz.two; obtain ⟨n26_, A26_, l26_, c26_, E26, q26⟩ : IntV 0 _ _ wz (vz 26) := hDz 5 (by kernel_rfl) rfl; have E8 : vz 8 = .pointer (some ⟨gz, 0, none⟩) := E8'; have HW := hBz.ext; simp only [zy, F2.Wp] at hK ⊢; simp only [E8, E26] at hK ⊢; go_simp; refine hK _ ((Far.set _ gz 0 _).trans (Far.set _ gz 1 _)) ⟨_, blk_two hbz, NoU.two nB nS, Fact.cast (Fact.z_mk q26) ?_⟩; with_reducible rfl
  refine F2.Steps.consS rfl rfl ?_ ?_
  ·
   intro vz wz gz hBz hDz E9' hgz hbz K hK; obtain ⟨zc0, zc1, zc2, zc3⟩ := hbz.two; obtain ⟨n27_, A27_, l27_, c27_, E27, q27⟩ : IntV 0 _ _ wz (vz 27) := hDz 6 (by kernel_rfl) rfl; have E9 : vz 9 = .pointer (some ⟨gz, 0, none⟩) := E9'; have HW := hBz.ext; simp only [zy, F2.Wp] at hK ⊢; simp only [E9, E27] at hK ⊢; go_simp; refine hK _ ((Far.set _ gz 0 _).trans (Far.set _ gz 1 _)) ⟨_, blk_two hbz, NoU.two nB nS, Fact.cast (Fact.z_mk q27) ?_⟩; with_reducible rfl
  refine F2.Steps.consO rfl ?_ ?_
  ·
   intro vz wz hBz hDz hTz K hK; have E28 : vz 28 = _ := hDz 7 (by kernel_rfl) rfl; have HW := hBz.ext; simp only [zy, F2.Wp] at hK ⊢; simp only [E28] at hK ⊢; go_simp; refine hK _ wz zB (Fact.eq_mk ?_); with_reducible rfl
  exact F2.Steps.nil
 intro ve w5 hBz ⟨hOz, hAz, hNz, hSz⟩; have E22 : ve 22 = _ := hOz 0 (by decide) rfl; have E23 : ve 23 = _ := hOz 1 (by decide) rfl; have E24 : ve 24 = _ := hOz 2 (by decide) rfl; obtain ⟨x25p_, x25q_, x25r_, E25, h25p, h25q, h25r⟩ : TV3 _ _ _ w5 (ve 25) := hOz 3 (by decide) rfl; obtain rfl := Fact.eq_of h25r; obtain ⟨x21p_, x21q_, x21r_, E21, h21p, h21q, h21r⟩ : TV3 _ _ _ w5 (ve 21) := hOz 4 (by decide) rfl; obtain rfl := Fact.eq_of h21r; obtain ⟨n26_, A26_, l26_, c26_, E26, q26⟩ : IntV 0 _ _ w5 (ve 26) := hOz 5 (by decide) rfl; obtain ⟨n27_, A27_, l27_, c27_, E27, q27⟩ : IntV 0 _ _ w5 (ve 27) := hOz 6 (by decide) rfl; have E28 : ve 28 = _ := hOz 7 (by decide) rfl; obtain ⟨g8, cs8, E8, hg8, bx8, hs8, hz8⟩ := hAz 8 _ _ (by decide) rfl; obtain ⟨g9, cs9, E9, hg9, bx9, hs9, hz9⟩ := hAz 9 _ _ (by decide) rfl; obtain ⟨n8se_, A8se_, l8se_, c8se_, E8se, q8se⟩ : IntV 0 _ _ w5 (.agg cs8) := hs8 10 (by decide) rfl; injection E8se with E8se
 subst E8se; obtain ⟨n9se_, A9se_, l9se_, c9se_, E9se, q9se⟩ : IntV 0 _ _ w5 (.agg cs9) := hs9 11 (by decide) rfl; injection E9se with E9se
 subst E9se; have E10 : ve 10 = _ := hOz 12 (by decide) rfl; have hne8_9 : Hid (¬ g8 = g9) := hide (fun h => hNz 8 9 _ _ _ _ (by decide) (by decide) (by decide) rfl rfl (by rw [E8, E9, h])); simp only [Act.put, actv, fill, fC, fN, tA, cS, cZ]; simp only [E22, E23, E24, E25, E21, E26, E27, E28, (show ve 8 = _ from E8), (show ve 9 = _ from E9), E10]; clear E22 E23 E24 E25 E21 E26 E27 E28 E8 E9 E10; have hge8 : w.heap.size ≤ g8 := Nat.le_trans HB.out.size hg8; have hne8_3 := hide (Nat.ne_of_gt (Nat.lt_of_lt_of_le bx3.lt (show w4.heap.size ≤ g8 from hg8))); have hge9 : w.heap.size ≤ g9 := Nat.le_trans HB.out.size hg9; have hne9_3 := hide (Nat.ne_of_gt (Nat.lt_of_lt_of_le bx3.lt (show w4.heap.size ≤ g9 from hg9))); replace q3sca := q3sca.ext hBz.ext; replace h0 := h0.ext hBz.ext; replace bx3 := hBz.blk bx3 zN; replace HL0 := hide (HL0.out.ext (hBz).ext); replace HB := hide (HB.out.trans (hBz.below (B := w.heap.size) HB.out.size zE)); clear hOz hAz hNz hSz hs8 hz8 hs9 hz9 hBz
 go_upto_region 5 with (fail)
 refine F2.regionS [.o, .o, .o, .o, .o, .o, .o, .o, .al 24 #[.bool false, .slice none 0 0], .al 24 #[.bool false, .slice none 0 0], .st 8, .st 9, .o] [Fact.eq ?cf30_, Fact.eq ?cf31_, Fact.eq ?cf32_, Fact.t3 (Fact.z ?kf33_p ?zf33_p) (Fact.z ?kf33_q ?zf33_q) (Fact.eq ?cf33_r), Fact.t3 (Fact.z ?kf29_p ?zf29_p) (Fact.z ?kf29_q ?zf29_q) (Fact.eq ?cf29_r), Fact.z ?kf34_ ?zf34_, Fact.z ?kf35_ ?zf35_, Fact.eq ?cf36_, Fact.any, Fact.any, Fact.z ?kfs11_ ?zfs11_, Fact.z ?kfs12_ ?zfs12_, Fact.eq ?cf13_] [30, 31, 32, 33, 29, 34, 35, 36, 11, 12, 13] [30, 31, 32, 33, 29, 34, 35, 36, 11, 12, 0, 0, 13] (by kernel_rfl) ?sof ?sopf (by kernel_rfl) ?stf ?finf
 case sof => exact fun x hx => by cases hx
 case sopf => exact List.Pairwise.nil
 case stf =>
  refine F2.Steps.consO rfl ?_ ?_
  ·
   intro vz wz hBz hDz hTz K hK; have HW := hBz.ext; have bx3z := hBz.blk bx3 zN; obtain ⟨zl0, zl1, -⟩ := bx3z.two; simp only [zy, F2.Wp] at hK ⊢; go_simp; refine hK _ wz zB (Fact.eq_mk ?_); with_reducible rfl
  refine F2.Steps.consO rfl ?_ ?_
  ·
   intro vz wz hBz hDz hTz K hK; have HW := hBz.ext; simp only [zy, F2.Wp] at hK ⊢; go_simp; refine hK _ wz zB (Fact.eq_mk ?_); with_reducible rfl
  refine F2.Steps.consO rfl ?_ ?_
  ·
   intro vz wz hBz hDz hTz K hK; have HW := hBz.ext; simp only [zy, F2.Wp] at hK ⊢; go_simp; refine hK _ wz zB (Fact.eq_mk ?_); with_reducible rfl
  refine F2.Steps.consO rfl ?_ ?_
  ·
   intro vz wz hBz hDz hTz K hK; have E30 : vz 30 = _ := hDz 0 (by kernel_rfl) rfl; have E31 : vz 31 = _ := hDz 1 (by kernel_rfl) rfl; have E32 : vz 32 = _ := hDz 2 (by kernel_rfl) rfl; have HW := hBz.ext; simp only [zy, F2.Wp] at hK ⊢; simp only [E30, E31, E32] at hK ⊢; go_simp; refine Calls.mono (dsin_named (q3sca.ext HW) (by omega) HRA0 HRB0 HRC0) ?_; rintro e w2z ⟨hb2, uz, rfl, hf⟩; refine hK _ w2z hb2 (Fact.cast (hf) ?_); with_reducible rfl
  refine F2.Steps.consO rfl ?_ ?_
  ·
   intro vz wz hBz hDz hTz K hK; obtain ⟨x33p_, x33q_, x33r_, E33, h33p, h33q, h33r⟩ : TV3 _ _ _ wz (vz 33) := hDz 3 (by kernel_rfl) rfl; obtain rfl := Fact.eq_of h33r; have HW := hBz.ext; simp only [zy, F2.Wp] at hK ⊢; simp only [E33] at hK ⊢; go_simp; refine hK _ wz zB (Fact.cast (Fact.t3_mk h33p h33q (Fact.eq_self _ _)) ?_); with_reducible rfl
  refine F2.Steps.consO rfl ?_ ?_
  ·
   intro vz wz hBz hDz hTz K hK; obtain ⟨x29p_, x29q_, x29r_, E29, h29p, h29q, h29r⟩ : TV3 _ _ _ wz (vz 29) := hDz 4 (by kernel_rfl) rfl; obtain rfl := Fact.eq_of h29r; have HW := hBz.ext; simp only [zy, F2.Wp] at hK ⊢; simp only [E29] at hK ⊢; go_simp; refine hK _ wz zB (Fact.cast (h29p) ?_); with_reducible rfl
  refine F2.Steps.consO rfl ?_ ?_
  ·
   intro vz wz hBz hDz hTz K hK; obtain ⟨x29p_, x29q_, x29r_, E29, h29p, h29q, h29r⟩ : TV3 _ _ _ wz (vz 29) := hDz 4 (by kernel_rfl) rfl; obtain rfl := Fact.eq_of h29r; have HW := hBz.ext; simp only [zy, F2.Wp] at hK ⊢; simp only [E29] at hK ⊢; go_simp; refine hK _ wz zB (Fact.cast (h29q) ?_); with_reducible rfl
  refine F2.Steps.consO rfl ?_ ?_
  ·
   intro vz wz hBz hDz hTz K hK; obtain ⟨x29p_, x29q_, x29r_, E29, h29p, h29q, h29r⟩ : TV3 _ _ _ wz (vz 29) := hDz 4 (by kernel_rfl) rfl; obtain rfl := Fact.eq_of h29r; have HW := hBz.ext; simp only [zy, F2.Wp] at hK ⊢; simp only [E29] at hK ⊢; go_simp; refine hK _ wz zB (Fact.eq_mk ?_); with_reducible rfl
  refine F2.Steps.consA rfl ⟨NoU.two nB nS, ?_⟩ ?_
  ·
   intro vz wz hBz K hK; simp only [zy, F2.Wp] at hK ⊢; go_simp; exact hK
  refine F2.Steps.consA rfl ⟨NoU.two nB nS, ?_⟩ ?_
  ·
   intro vz wz hBz K hK; simp only [zy, F2.Wp] at hK ⊢; go_simp; exact hK
  refine F2.Steps.consS rfl rfl ?_ ?_
  ·
   intro vz wz gz hBz hDz E11' hgz hbz K hK; obtain ⟨zc0, zc1, zc2, zc3⟩ := hbz.two; obtain ⟨n34_, A34_, l34_, c34_, E34, q34⟩ : IntV 0 _ _ wz (vz 34) := hDz 5 (by kernel_rfl) rfl; have E11 : vz 11 = .pointer (some ⟨gz, 0, none⟩) := E11'; have HW := hBz.ext; simp only [zy, F2.Wp] at hK ⊢; simp only [E11, E34] at hK ⊢; go_simp; refine hK _ ((Far.set _ gz 0 _).trans (Far.set _ gz 1 _)) ⟨_, blk_two hbz, NoU.two nB nS, Fact.cast (Fact.z_mk q34) ?_⟩; with_reducible rfl
  refine F2.Steps.consS rfl rfl ?_ ?_
  ·
   intro vz wz gz hBz hDz E12' hgz hbz K hK; obtain ⟨zc0, zc1, zc2, zc3⟩ := hbz.two; obtain ⟨n35_, A35_, l35_, c35_, E35, q35⟩ : IntV 0 _ _ wz (vz 35) := hDz 6 (by kernel_rfl) rfl; have E12 : vz 12 = .pointer (some ⟨gz, 0, none⟩) := E12'; have HW := hBz.ext; simp only [zy, F2.Wp] at hK ⊢; simp only [E12, E35] at hK ⊢; go_simp; refine hK _ ((Far.set _ gz 0 _).trans (Far.set _ gz 1 _)) ⟨_, blk_two hbz, NoU.two nB nS, Fact.cast (Fact.z_mk q35) ?_⟩; with_reducible rfl
  refine F2.Steps.consO rfl ?_ ?_
  ·
   intro vz wz hBz hDz hTz K hK; have E36 : vz 36 = _ := hDz 7 (by kernel_rfl) rfl; have HW := hBz.ext; simp only [zy, F2.Wp] at hK ⊢; simp only [E36] at hK ⊢; go_simp; refine hK _ wz zB (Fact.eq_mk ?_); with_reducible rfl
  exact F2.Steps.nil
 intro vf w6 hBz ⟨hOz, hAz, hNz, hSz⟩; have E30 : vf 30 = _ := hOz 0 (by decide) rfl; have E31 : vf 31 = _ := hOz 1 (by decide) rfl; have E32 : vf 32 = _ := hOz 2 (by decide) rfl; obtain ⟨x33p_, x33q_, x33r_, E33, h33p, h33q, h33r⟩ : TV3 _ _ _ w6 (vf 33) := hOz 3 (by decide) rfl; obtain rfl := Fact.eq_of h33r; obtain ⟨x29p_, x29q_, x29r_, E29, h29p, h29q, h29r⟩ : TV3 _ _ _ w6 (vf 29) := hOz 4 (by decide) rfl; obtain rfl := Fact.eq_of h29r; obtain ⟨n34_, A34_, l34_, c34_, E34, q34⟩ : IntV 0 _ _ w6 (vf 34) := hOz 5 (by decide) rfl; obtain ⟨n35_, A35_, l35_, c35_, E35, q35⟩ : IntV 0 _ _ w6 (vf 35) := hOz 6 (by decide) rfl; have E36 : vf 36 = _ := hOz 7 (by decide) rfl; obtain ⟨g11, cs11, E11, hg11, bx11, hs11, hz11⟩ := hAz 8 _ _ (by decide) rfl; obtain ⟨g12, cs12, E12, hg12, bx12, hs12, hz12⟩ := hAz 9 _ _ (by decide) rfl; obtain ⟨n11sf_, A11sf_, l11sf_, c11sf_, E11sf, q11sf⟩ : IntV 0 _ _ w6 (.agg cs11) := hs11 10 (by decide) rfl; injection E11sf with E11sf
 subst E11sf; obtain ⟨n12sf_, A12sf_, l12sf_, c12sf_, E12sf, q12sf⟩ : IntV 0 _ _ w6 (.agg cs12) := hs12 11 (by decide) rfl; injection E12sf with E12sf
 subst E12sf; have E13 : vf 13 = _ := hOz 12 (by decide) rfl; have hne11_12 : Hid (¬ g11 = g12) := hide (fun h => hNz 8 9 _ _ _ _ (by decide) (by decide) (by decide) rfl rfl (by rw [E11, E12, h])); simp only [Act.put, actv, fill, fC, fN, tA, cS, cZ]; simp only [E30, E31, E32, E33, E29, E34, E35, E36, (show vf 11 = _ from E11), (show vf 12 = _ from E12), E13]; clear E30 E31 E32 E33 E29 E34 E35 E36 E11 E12 E13; have hge11 : w.heap.size ≤ g11 := Nat.le_trans HB.out.size hg11; have hne11_3 := hide (Nat.ne_of_gt (Nat.lt_of_lt_of_le bx3.lt (show w5.heap.size ≤ g11 from hg11))); have hne11_8 := hide (Nat.ne_of_gt (Nat.lt_of_lt_of_le bx8.lt (show w5.heap.size ≤ g11 from hg11))); have hne11_9 := hide (Nat.ne_of_gt (Nat.lt_of_lt_of_le bx9.lt (show w5.heap.size ≤ g11 from hg11))); have hge12 : w.heap.size ≤ g12 := Nat.le_trans HB.out.size hg12; have hne12_3 := hide (Nat.ne_of_gt (Nat.lt_of_lt_of_le bx3.lt (show w5.heap.size ≤ g12 from hg12))); have hne12_8 := hide (Nat.ne_of_gt (Nat.lt_of_lt_of_le bx8.lt (show w5.heap.size ≤ g12 from hg12))); have hne12_9 := hide (Nat.ne_of_gt (Nat.lt_of_lt_of_le bx9.lt (show w5.heap.size ≤ g12 from hg12))); replace q3sca := q3sca.ext hBz.ext; replace q8se := q8se.ext hBz.ext; replace q9se := q9se.ext hBz.ext; replace h0 := h0.ext hBz.ext; replace bx3 := hBz.blk bx3 zN; replace bx8 := hBz.blk bx8 zN; replace bx9 := hBz.blk bx9 zN; replace HL0 := hide (HL0.out.ext (hBz).ext); replace HB := hide (HB.out.trans (hBz.below (B := w.heap.size) HB.out.size zE)); clear hOz hAz hNz hSz hs11 hz11 hs12 hz12 hBz
 go_upto_region 6 with (fail)
 refine F2.regionS [.o, .o, .o, .o, .o, .o, .o, .o] [Fact.eq ?cg37_, Fact.eq ?cg38_, Fact.eq ?cg39_, Fact.eq ?cg40_, Fact.eq ?cg41_, Fact.eq ?cg42_, Fact.eq ?cg43_, Fact.eq ?cg14_] [37, 38, 39, 40, 41, 42, 43, 14] [37, 38, 39, 40, 41, 42, 43, 14] (by kernel_rfl) ?sog ?sopg (by kernel_rfl) ?stg ?fing
 case sog => exact fun x hx => by cases hx
 case sopg => exact List.Pairwise.nil
 case stg =>
  refine F2.Steps.consO rfl ?_ ?_
  ·
   intro vz wz hBz hDz hTz K hK; have HW := hBz.ext; have bx8z := hBz.blk bx8 zN; obtain ⟨zl0, zl1, -⟩ := bx8z.two; simp only [zy, F2.Wp] at hK ⊢; go_simp; refine hK _ wz zB (Fact.eq_mk ?_); with_reducible rfl
  refine F2.Steps.consO rfl ?_ ?_
  ·
   intro vz wz hBz hDz hTz K hK; have HW := hBz.ext; have bx9z := hBz.blk bx9 zN; obtain ⟨zl0, zl1, -⟩ := bx9z.two; simp only [zy, F2.Wp] at hK ⊢; go_simp; refine hK _ wz zB (Fact.eq_mk ?_); with_reducible rfl
  refine F2.Steps.consO rfl ?_ ?_
  ·
   intro vz wz hBz hDz hTz K hK; have HW := hBz.ext; simp only [zy, F2.Wp] at hK ⊢; go_simp; refine hK _ wz zB (Fact.eq_mk ?_); with_reducible rfl
  refine F2.Steps.consO rfl ?_ ?_
  ·
   intro vz wz hBz hDz hTz K hK; have HW := hBz.ext; have bx11z := hBz.blk bx11 zN; obtain ⟨zl0, zl1, -⟩ := bx11z.two; simp only [zy, F2.Wp] at hK ⊢; go_simp; refine hK _ wz zB (Fact.eq_mk ?_); with_reducible rfl
  refine F2.Steps.consO rfl ?_ ?_
  ·
   intro vz wz hBz hDz hTz K hK; have HW := hBz.ext; have bx12z := hBz.blk bx12 zN; obtain ⟨zl0, zl1, -⟩ := bx12z.two; simp only [zy, F2.Wp] at hK ⊢; go_simp; refine hK _ wz zB (Fact.eq_mk ?_); with_reducible rfl
  refine F2.Steps.consO rfl ?_ ?_
  ·
   intro vz wz hBz hDz hTz K hK; have HW := hBz.ext; simp only [zy, F2.Wp] at hK ⊢; go_simp; refine hK _ wz zB (Fact.eq_mk ?_); with_reducible rfl
  refine F2.Steps.consO rfl ?_ ?_
  ·
   intro vz wz hBz hDz hTz K hK; have E37 : vz 37 = _ := hDz 0 (by kernel_rfl) rfl; have E38 : vz 38 = _ := hDz 1 (by kernel_rfl) rfl; have E39 : vz 39 = _ := hDz 2 (by kernel_rfl) rfl; have E40 : vz 40 = _ := hDz 3 (by kernel_rfl) rfl; have E41 : vz 41 = _ := hDz 4 (by kernel_rfl) rfl; have E42 : vz 42 = _ := hDz 5 (by kernel_rfl) rfl; have HW := hBz.ext; simp only [zy, F2.Wp] at hK ⊢; simp only [E37, E38, E39, E40, E41, E42] at hK ⊢; go_simp; refine Calls.mono (equal6_calls (q8se.ext HW) (q9se.ext HW) (q11sf.ext HW) (q12sf.ext HW)  rfl rfl) ?_; rintro e w2z ⟨hb2, uz, rfl, hf⟩; refine hK _ w2z hb2 (Fact.cast (hf) ?_); with_reducible rfl
  refine F2.Steps.consO rfl ?_ ?_
  ·
   intro vz wz hBz hDz hTz K hK; have E43 : vz 43 = _ := hDz 6 (by kernel_rfl) rfl; have HW := hBz.ext; simp only [zy, F2.Wp] at hK ⊢; simp only [E43] at hK ⊢; go_simp; refine hK _ wz zB (Fact.eq_mk ?_); with_reducible rfl
  exact F2.Steps.nil
 intro vg w7 hBz ⟨hOz, hAz, hNz, hSz⟩; have E37 : vg 37 = _ := hOz 0 (by decide) rfl; have E38 : vg 38 = _ := hOz 1 (by decide) rfl; have E39 : vg 39 = _ := hOz 2 (by decide) rfl; have E40 : vg 40 = _ := hOz 3 (by decide) rfl; have E41 : vg 41 = _ := hOz 4 (by decide) rfl; have E42 : vg 42 = _ := hOz 5 (by decide) rfl; have E43 : vg 43 = _ := hOz 6 (by decide) rfl; have E14 : vg 14 = _ := hOz 7 (by decide) rfl; simp only [Act.put, actv, fill, fC, fN, tA, cS, cZ]; simp only [E37, E38, E39, E40, E41, E42, E43, E14]; clear E37 E38 E39 E40 E41 E42 E43 E14; replace q3sca := q3sca.ext hBz.ext; replace q8se := q8se.ext hBz.ext; replace q9se := q9se.ext hBz.ext; replace q11sf := q11sf.ext hBz.ext; replace q12sf := q12sf.ext hBz.ext; replace h0 := h0.ext hBz.ext; replace bx3 := hBz.blk bx3 zN; replace bx8 := hBz.blk bx8 zN; replace bx9 := hBz.blk bx9 zN; replace bx11 := hBz.blk bx11 zN; replace bx12 := hBz.blk bx12 zN; replace HL0 := hide (HL0.out.ext (hBz).ext); replace HB := hide (HB.out.trans (hBz.below (B := w.heap.size) HB.out.size zE)); clear hOz hAz hNz hSz hBz
 go_upto_region 7 with (fail)
 refine F2.regionS [.o, .o, .o, .o, .o, .o, .o, .o, .so (g8) 24 #[.bool n8se_, .slice A8se_ l8se_ c8se_], .so (g9) 24 #[.bool n9se_, .slice A9se_ l9se_ c9se_], .o] [Fact.eq ?ch45_, Fact.eq ?ch46_, Fact.eq ?ch47_, Fact.t3 (Fact.z ?kh48_p ?zh48_p) (Fact.z ?kh48_q ?zh48_q) (Fact.eq ?ch48_r), Fact.t3 (Fact.z ?kh44_p ?zh44_p) (Fact.z ?kh44_q ?zh44_q) (Fact.eq ?ch44_r), Fact.z ?kh49_ ?zh49_, Fact.z ?kh50_ ?zh50_, Fact.eq ?ch51_, Fact.z ?khs8_ ?zhs8_, Fact.z ?khs9_ ?zhs9_, Fact.eq ?ch10_] [45, 46, 47, 48, 44, 49, 50, 51, 10] [45, 46, 47, 48, 44, 49, 50, 51, 0, 0, 10] (by kernel_rfl) ?soh ?soph (by kernel_rfl) ?sth ?finh
 case soh => exact List.forall_mem_cons.2 ⟨⟨bx8, NoU.two nB nS⟩, List.forall_mem_cons.2 ⟨⟨bx9, NoU.two nB nS⟩, fun x hx => by cases hx⟩⟩
 case soph => exact List.Pairwise.cons (by intro y hy; simp [F2.sos] at hy; have hne8_9 := hne8_9.out; first | (subst hy; simp; done) | (subst hy; simp; omega) | (rcases hy with rfl | rfl <;> simp <;> omega)) (List.Pairwise.cons (fun y hy => by cases hy) (List.Pairwise.nil))
 case sth =>
  refine F2.Steps.consO rfl ?_ ?_
  ·
   intro vz wz hBz hDz hTz K hK; have HW := hBz.ext; have bx3z := hBz.blk bx3 (zM (Ne.symm hne8_3.out) (zM (Ne.symm hne9_3.out) zN)); obtain ⟨zl0, zl1, -⟩ := bx3z.two; simp only [zy, F2.Wp] at hK ⊢; go_simp; refine hK _ wz zB (Fact.eq_mk ?_); with_reducible rfl
  refine F2.Steps.consO rfl ?_ ?_
  ·
   intro vz wz hBz hDz hTz K hK; have HW := hBz.ext; simp only [zy, F2.Wp] at hK ⊢; go_simp; refine hK _ wz zB (Fact.eq_mk ?_); with_reducible rfl
  refine F2.Steps.consO rfl ?_ ?_
  ·
   intro vz wz hBz hDz hTz K hK; have HW := hBz.ext; simp only [zy, F2.Wp] at hK ⊢; go_simp; refine hK _ wz zB (Fact.eq_mk ?_); with_reducible rfl
  refine F2.Steps.consO rfl ?_ ?_
  ·
   intro vz wz hBz hDz hTz K hK; have E45 : vz 45 = _ := hDz 0 (by kernel_rfl) rfl; have E46 : vz 46 = _ := hDz 1 (by kernel_rfl) rfl; have E47 : vz 47 = _ := hDz 2 (by kernel_rfl) rfl; have HW := hBz.ext; simp only [zy, F2.Wp] at hK ⊢; simp only [E45, E46, E47] at hK ⊢; go_simp; refine Calls.mono (rcos_named (q3sca.ext HW) (by omega) HRA1 HRB1 HRC1) ?_; rintro e w2z ⟨hb2, uz, rfl, hf⟩; refine hK _ w2z hb2 (Fact.cast (hf) ?_); with_reducible rfl
  refine F2.Steps.consO rfl ?_ ?_
  ·
   intro vz wz hBz hDz hTz K hK; obtain ⟨x48p_, x48q_, x48r_, E48, h48p, h48q, h48r⟩ : TV3 _ _ _ wz (vz 48) := hDz 3 (by kernel_rfl) rfl; obtain rfl := Fact.eq_of h48r; have HW := hBz.ext; simp only [zy, F2.Wp] at hK ⊢; simp only [E48] at hK ⊢; go_simp; refine hK _ wz zB (Fact.cast (Fact.t3_mk h48p h48q (Fact.eq_self _ _)) ?_); with_reducible rfl
  refine F2.Steps.consO rfl ?_ ?_
  ·
   intro vz wz hBz hDz hTz K hK; obtain ⟨x44p_, x44q_, x44r_, E44, h44p, h44q, h44r⟩ : TV3 _ _ _ wz (vz 44) := hDz 4 (by kernel_rfl) rfl; obtain rfl := Fact.eq_of h44r; have HW := hBz.ext; simp only [zy, F2.Wp] at hK ⊢; simp only [E44] at hK ⊢; go_simp; refine hK _ wz zB (Fact.cast (h44p) ?_); with_reducible rfl
  refine F2.Steps.consO rfl ?_ ?_
  ·
   intro vz wz hBz hDz hTz K hK; obtain ⟨x44p_, x44q_, x44r_, E44, h44p, h44q, h44r⟩ : TV3 _ _ _ wz (vz 44) := hDz 4 (by kernel_rfl) rfl; obtain rfl := Fact.eq_of h44r; have HW := hBz.ext; simp only [zy, F2.Wp] at hK ⊢; simp only [E44] at hK ⊢; go_simp; refine hK _ wz zB (Fact.cast (h44q) ?_); with_reducible rfl
  refine F2.Steps.consO rfl ?_ ?_
  ·
   intro vz wz hBz hDz hTz K hK; obtain ⟨x44p_, x44q_, x44r_, E44, h44p, h44q, h44r⟩ : TV3 _ _ _ wz (vz 44) := hDz 4 (by kernel_rfl) rfl; obtain rfl := Fact.eq_of h44r; have HW := hBz.ext; simp only [zy, F2.Wp] at hK ⊢; simp only [E44] at hK ⊢; go_simp; refine hK _ wz zB (Fact.eq_mk ?_); with_reducible rfl
  refine F2.Steps.consT rfl ?_ ?_
  ·
   intro vz wz hBz hDz hbz K hK; obtain ⟨zc0, zc1, zc2, zc3⟩ := hbz.two; obtain ⟨n49_, A49_, l49_, c49_, E49, q49⟩ : IntV 0 _ _ wz (vz 49) := hDz 5 (by kernel_rfl) rfl; have HW := hBz.ext; simp only [zy, F2.Wp] at hK ⊢; simp only [E49] at hK ⊢; go_simp; refine hK _ ((Far.set _ _ 0 _).trans (Far.set _ _ 1 _)) ⟨_, blk_two hbz, NoU.two nB nS, Fact.cast (Fact.z_mk q49) ?_⟩; with_reducible rfl
  refine F2.Steps.consT rfl ?_ ?_
  ·
   intro vz wz hBz hDz hbz K hK; obtain ⟨zc0, zc1, zc2, zc3⟩ := hbz.two; obtain ⟨n50_, A50_, l50_, c50_, E50, q50⟩ : IntV 0 _ _ wz (vz 50) := hDz 6 (by kernel_rfl) rfl; have HW := hBz.ext; simp only [zy, F2.Wp] at hK ⊢; simp only [E50] at hK ⊢; go_simp; refine hK _ ((Far.set _ _ 0 _).trans (Far.set _ _ 1 _)) ⟨_, blk_two hbz, NoU.two nB nS, Fact.cast (Fact.z_mk q50) ?_⟩; with_reducible rfl
  refine F2.Steps.consO rfl ?_ ?_
  ·
   intro vz wz hBz hDz hTz K hK; have E51 : vz 51 = _ := hDz 7 (by kernel_rfl) rfl; have HW := hBz.ext; simp only [zy, F2.Wp] at hK ⊢; simp only [E51] at hK ⊢; go_simp; refine hK _ wz zB (Fact.eq_mk ?_); with_reducible rfl
  exact F2.Steps.nil
 intro vh w8 hBz ⟨hOz, hAz, hNz, hSz⟩; have E45 : vh 45 = _ := hOz 0 (by decide) rfl; have E46 : vh 46 = _ := hOz 1 (by decide) rfl; have E47 : vh 47 = _ := hOz 2 (by decide) rfl; obtain ⟨x48p_, x48q_, x48r_, E48, h48p, h48q, h48r⟩ : TV3 _ _ _ w8 (vh 48) := hOz 3 (by decide) rfl; obtain rfl := Fact.eq_of h48r; obtain ⟨x44p_, x44q_, x44r_, E44, h44p, h44q, h44r⟩ : TV3 _ _ _ w8 (vh 44) := hOz 4 (by decide) rfl; obtain rfl := Fact.eq_of h44r; obtain ⟨n49_, A49_, l49_, c49_, E49, q49⟩ : IntV 0 _ _ w8 (vh 49) := hOz 5 (by decide) rfl; obtain ⟨n50_, A50_, l50_, c50_, E50, q50⟩ : IntV 0 _ _ w8 (vh 50) := hOz 6 (by decide) rfl; have E51 : vh 51 = _ := hOz 7 (by decide) rfl; obtain ⟨cs8, bx8n, hs8⟩ := hSz 8 _ _ _ (by decide) rfl; obtain ⟨n8sh_, A8sh_, l8sh_, c8sh_, E8sh, q8sh⟩ : IntV 0 _ _ w8 (.agg cs8) := hs8; injection E8sh with E8sh
 subst E8sh; obtain ⟨cs9, bx9n, hs9⟩ := hSz 9 _ _ _ (by decide) rfl; obtain ⟨n9sh_, A9sh_, l9sh_, c9sh_, E9sh, q9sh⟩ : IntV 0 _ _ w8 (.agg cs9) := hs9; injection E9sh with E9sh
 subst E9sh; have E10 : vh 10 = _ := hOz 10 (by decide) rfl; simp only [Act.put, actv, fill, fC, fN, tA, cS, cZ]; simp only [E45, E46, E47, E48, E44, E49, E50, E51, E10]; clear E45 E46 E47 E48 E44 E49 E50 E51 E10; replace q3sca := q3sca.ext hBz.ext; replace q8se := q8se.ext hBz.ext; replace q9se := q9se.ext hBz.ext; replace q11sf := q11sf.ext hBz.ext; replace q12sf := q12sf.ext hBz.ext; replace h0 := h0.ext hBz.ext; replace bx3 := hBz.blk bx3 (zM (Ne.symm hne8_3.out) (zM (Ne.symm hne9_3.out) zN)); replace bx11 := hBz.blk bx11 (zM hne11_8.out (zM hne11_9.out zN)); replace bx12 := hBz.blk bx12 (zM hne12_8.out (zM hne12_9.out zN)); replace HL0 := hide (HL0.out.ext (hBz).ext); replace HB := hide (HB.out.trans (hBz.below (B := w.heap.size) HB.out.size (zA hge8 (zA hge9 zE)))); clear bx8; clear bx9; have bx8 := bx8n; clear bx8n; have bx9 := bx9n; clear bx9n; clear hOz hAz hNz hSz hBz
 go_upto_region 8 with (fail)
 refine F2.regionS [.o, .o, .o, .o, .o, .o, .o, .o, .so (g11) 24 #[.bool n11sf_, .slice A11sf_ l11sf_ c11sf_], .so (g12) 24 #[.bool n12sf_, .slice A12sf_ l12sf_ c12sf_], .o] [Fact.eq ?ci53_, Fact.eq ?ci54_, Fact.eq ?ci55_, Fact.t3 (Fact.z ?ki56_p ?zi56_p) (Fact.z ?ki56_q ?zi56_q) (Fact.eq ?ci56_r), Fact.t3 (Fact.z ?ki52_p ?zi52_p) (Fact.z ?ki52_q ?zi52_q) (Fact.eq ?ci52_r), Fact.z ?ki57_ ?zi57_, Fact.z ?ki58_ ?zi58_, Fact.eq ?ci59_, Fact.z ?kis11_ ?zis11_, Fact.z ?kis12_ ?zis12_, Fact.eq ?ci13_] [53, 54, 55, 56, 52, 57, 58, 59, 13] [53, 54, 55, 56, 52, 57, 58, 59, 0, 0, 13] (by kernel_rfl) ?soi ?sopi (by kernel_rfl) ?sti ?fini
 case soi => exact List.forall_mem_cons.2 ⟨⟨bx11, NoU.two nB nS⟩, List.forall_mem_cons.2 ⟨⟨bx12, NoU.two nB nS⟩, fun x hx => by cases hx⟩⟩
 case sopi => exact List.Pairwise.cons (by intro y hy; simp [F2.sos] at hy; have hne11_12 := hne11_12.out; first | (subst hy; simp; done) | (subst hy; simp; omega) | (rcases hy with rfl | rfl <;> simp <;> omega)) (List.Pairwise.cons (fun y hy => by cases hy) (List.Pairwise.nil))
 case sti =>
  refine F2.Steps.consO rfl ?_ ?_
  ·
   intro vz wz hBz hDz hTz K hK; have HW := hBz.ext; have bx3z := hBz.blk bx3 (zM (Ne.symm hne11_3.out) (zM (Ne.symm hne12_3.out) zN)); obtain ⟨zl0, zl1, -⟩ := bx3z.two; simp only [zy, F2.Wp] at hK ⊢; go_simp; refine hK _ wz zB (Fact.eq_mk ?_); with_reducible rfl
  refine F2.Steps.consO rfl ?_ ?_
  ·
   intro vz wz hBz hDz hTz K hK; have HW := hBz.ext; simp only [zy, F2.Wp] at hK ⊢; go_simp; refine hK _ wz zB (Fact.eq_mk ?_); with_reducible rfl
  refine F2.Steps.consO rfl ?_ ?_
  ·
   intro vz wz hBz hDz hTz K hK; have HW := hBz.ext; simp only [zy, F2.Wp] at hK ⊢; go_simp; refine hK _ wz zB (Fact.eq_mk ?_); with_reducible rfl
  refine F2.Steps.consO rfl ?_ ?_
  ·
   intro vz wz hBz hDz hTz K hK; have E53 : vz 53 = _ := hDz 0 (by kernel_rfl) rfl; have E54 : vz 54 = _ := hDz 1 (by kernel_rfl) rfl; have E55 : vz 55 = _ := hDz 2 (by kernel_rfl) rfl; have HW := hBz.ext; simp only [zy, F2.Wp] at hK ⊢; simp only [E53, E54, E55] at hK ⊢; go_simp; refine Calls.mono (dcos_named (q3sca.ext HW) (by omega) HRA1 HRB1 HRC1) ?_; rintro e w2z ⟨hb2, uz, rfl, hf⟩; refine hK _ w2z hb2 (Fact.cast (hf) ?_); with_reducible rfl
  refine F2.Steps.consO rfl ?_ ?_
  ·
   intro vz wz hBz hDz hTz K hK; obtain ⟨x56p_, x56q_, x56r_, E56, h56p, h56q, h56r⟩ : TV3 _ _ _ wz (vz 56) := hDz 3 (by kernel_rfl) rfl; obtain rfl := Fact.eq_of h56r; have HW := hBz.ext; simp only [zy, F2.Wp] at hK ⊢; simp only [E56] at hK ⊢; go_simp; refine hK _ wz zB (Fact.cast (Fact.t3_mk h56p h56q (Fact.eq_self _ _)) ?_); with_reducible rfl
  refine F2.Steps.consO rfl ?_ ?_
  ·
   intro vz wz hBz hDz hTz K hK; obtain ⟨x52p_, x52q_, x52r_, E52, h52p, h52q, h52r⟩ : TV3 _ _ _ wz (vz 52) := hDz 4 (by kernel_rfl) rfl; obtain rfl := Fact.eq_of h52r; have HW := hBz.ext; simp only [zy, F2.Wp] at hK ⊢; simp only [E52] at hK ⊢; go_simp; refine hK _ wz zB (Fact.cast (h52p) ?_); with_reducible rfl
  refine F2.Steps.consO rfl ?_ ?_
  ·
   intro vz wz hBz hDz hTz K hK; obtain ⟨x52p_, x52q_, x52r_, E52, h52p, h52q, h52r⟩ : TV3 _ _ _ wz (vz 52) := hDz 4 (by kernel_rfl) rfl; obtain rfl := Fact.eq_of h52r; have HW := hBz.ext; simp only [zy, F2.Wp] at hK ⊢; simp only [E52] at hK ⊢; go_simp; refine hK _ wz zB (Fact.cast (h52q) ?_); with_reducible rfl
  refine F2.Steps.consO rfl ?_ ?_
  ·
   intro vz wz hBz hDz hTz K hK; obtain ⟨x52p_, x52q_, x52r_, E52, h52p, h52q, h52r⟩ : TV3 _ _ _ wz (vz 52) := hDz 4 (by kernel_rfl) rfl; obtain rfl := Fact.eq_of h52r; have HW := hBz.ext; simp only [zy, F2.Wp] at hK ⊢; simp only [E52] at hK ⊢; go_simp; refine hK _ wz zB (Fact.eq_mk ?_); with_reducible rfl
  refine F2.Steps.consT rfl ?_ ?_
  ·
   intro vz wz hBz hDz hbz K hK; obtain ⟨zc0, zc1, zc2, zc3⟩ := hbz.two; obtain ⟨n57_, A57_, l57_, c57_, E57, q57⟩ : IntV 0 _ _ wz (vz 57) := hDz 5 (by kernel_rfl) rfl; have HW := hBz.ext; simp only [zy, F2.Wp] at hK ⊢; simp only [E57] at hK ⊢; go_simp; refine hK _ ((Far.set _ _ 0 _).trans (Far.set _ _ 1 _)) ⟨_, blk_two hbz, NoU.two nB nS, Fact.cast (Fact.z_mk q57) ?_⟩; with_reducible rfl
  refine F2.Steps.consT rfl ?_ ?_
  ·
   intro vz wz hBz hDz hbz K hK; obtain ⟨zc0, zc1, zc2, zc3⟩ := hbz.two; obtain ⟨n58_, A58_, l58_, c58_, E58, q58⟩ : IntV 0 _ _ wz (vz 58) := hDz 6 (by kernel_rfl) rfl; have HW := hBz.ext; simp only [zy, F2.Wp] at hK ⊢; simp only [E58] at hK ⊢; go_simp; refine hK _ ((Far.set _ _ 0 _).trans (Far.set _ _ 1 _)) ⟨_, blk_two hbz, NoU.two nB nS, Fact.cast (Fact.z_mk q58) ?_⟩; with_reducible rfl
  refine F2.Steps.consO rfl ?_ ?_
  ·
   intro vz wz hBz hDz hTz K hK; have E59 : vz 59 = _ := hDz 7 (by kernel_rfl) rfl; have HW := hBz.ext; simp only [zy, F2.Wp] at hK ⊢; simp only [E59] at hK ⊢; go_simp; refine hK _ wz zB (Fact.eq_mk ?_); with_reducible rfl
  exact F2.Steps.nil
 intro vi w9 hBz ⟨hOz, hAz, hNz, hSz⟩; have E53 : vi 53 = _ := hOz 0 (by decide) rfl; have E54 : vi 54 = _ := hOz 1 (by decide) rfl; have E55 : vi 55 = _ := hOz 2 (by decide) rfl; obtain ⟨x56p_, x56q_, x56r_, E56, h56p, h56q, h56r⟩ : TV3 _ _ _ w9 (vi 56) := hOz 3 (by decide) rfl; obtain rfl := Fact.eq_of h56r; obtain ⟨x52p_, x52q_, x52r_, E52, h52p, h52q, h52r⟩ : TV3 _ _ _ w9 (vi 52) := hOz 4 (by decide) rfl; obtain rfl := Fact.eq_of h52r; obtain ⟨n57_, A57_, l57_, c57_, E57, q57⟩ : IntV 0 _ _ w9 (vi 57) := hOz 5 (by decide) rfl; obtain ⟨n58_, A58_, l58_, c58_, E58, q58⟩ : IntV 0 _ _ w9 (vi 58) := hOz 6 (by decide) rfl; have E59 : vi 59 = _ := hOz 7 (by decide) rfl; obtain ⟨cs11, bx11n, hs11⟩ := hSz 8 _ _ _ (by decide) rfl; obtain ⟨n11si_, A11si_, l11si_, c11si_, E11si, q11si⟩ : IntV 0 _ _ w9 (.agg cs11) := hs11; injection E11si with E11si
 subst E11si; obtain ⟨cs12, bx12n, hs12⟩ := hSz 9 _ _ _ (by decide) rfl; obtain ⟨n12si_, A12si_, l12si_, c12si_, E12si, q12si⟩ : IntV 0 _ _ w9 (.agg cs12) := hs12; injection E12si with E12si
 subst E12si; have E13 : vi 13 = _ := hOz 10 (by decide) rfl; simp only [Act.put, actv, fill, fC, fN, tA, cS, cZ]; simp only [E53, E54, E55, E56, E52, E57, E58, E59, E13]; clear E53 E54 E55 E56 E52 E57 E58 E59 E13; replace q3sca := q3sca.ext hBz.ext; replace q8sh := q8sh.ext hBz.ext; replace q9sh := q9sh.ext hBz.ext; replace q11sf := q11sf.ext hBz.ext; replace q12sf := q12sf.ext hBz.ext; replace h0 := h0.ext hBz.ext; replace bx3 := hBz.blk bx3 (zM (Ne.symm hne11_3.out) (zM (Ne.symm hne12_3.out) zN)); replace bx8 := hBz.blk bx8 (zM (Ne.symm hne11_8.out) (zM (Ne.symm hne12_8.out) zN)); replace bx9 := hBz.blk bx9 (zM (Ne.symm hne11_9.out) (zM (Ne.symm hne12_9.out) zN)); replace HL0 := hide (HL0.out.ext (hBz).ext); replace HB := hide (HB.out.trans (hBz.below (B := w.heap.size) HB.out.size (zA hge11 (zA hge12 zE)))); clear bx11; clear bx12; have bx11 := bx11n; clear bx11n; have bx12 := bx12n; clear bx12n; clear hOz hAz hNz hSz hBz; obtain ⟨bx3c0, bx3c1, -⟩ := bx3.two; obtain ⟨bx8c0, bx8c1, -⟩ := bx8.two; obtain ⟨bx9c0, bx9c1, -⟩ := bx9.two; obtain ⟨bx11c0, bx11c1, -⟩ := bx11.two; obtain ⟨bx12c0, bx12c1, -⟩ := bx12.two
 go_wp2_with fail
 refine Calls.mono (equal6_calls q8sh q9sh q11si q12si  rfl rfl) ?_; rintro e w10 ⟨hb2, uz10, rfl, hf⟩; clear bx3c0 bx3c1 bx8c0 bx8c1 bx9c0 bx9c1 bx11c0 bx11c1 bx12c0 bx12c1; obtain rfl := Fact.eq_of hf; have HW := ext_of hb2; replace h0 := h0.ext HW; replace q11si := q11si.ext HW; replace q12si := q12si.ext HW; replace q3sca := q3sca.ext HW; replace q8sh := q8sh.ext HW; replace q9sh := q9sh.ext HW; replace bx3 := bx3.below hb2 bx3.lt; replace bx8 := bx8.below hb2 bx8.lt; replace bx9 := bx9.below hb2 bx9.lt; replace bx11 := bx11.below hb2 bx11.lt; replace bx12 := bx12.below hb2 bx12.lt; replace HL0 := hide (HL0.out.ext ((low_of hb2)).ext); replace HB := hide (HB.out.trans (hb2.mono HB.out.size)); clear HW hb2
 go_wp2_with fail
 go_ret
 exact ⟨HB.out, VF.mk (Fact.eq_self _ _)⟩

theorem walk (w : World) (n0 : Bool) (A0 : Option Addr) (l0 c0 : Nat) (s0 : ∃ L, Nums w 0 (.slice A0 l0 c0) L) (a1 : Int) (w1 : (Lit.int .i64 a1).wf = true) (a2 : Int) (w2 : (Lit.int .i64 a2).wf = true) :
    Calls Tryz.prog 3 #[.agg #[.bool n0, .slice A0 l0 c0], .int .i64 a1, .int .i64 a2] w fun e w' => e = .returned (.bool true) ∧ Below w.heap.size w w' := by
  obtain ⟨L, h⟩ := s0; refine (walkN (k0 := L.length) (L0 := L) (x0 := ival n0 (val W L)) ⟨L, h, Nat.le_refl _, rfl⟩ h ).mono ?_; rintro e w' ⟨hb, u, rfl, hu⟩; exact ⟨by rw [Fact.eq_of hu], hb⟩

/-! ### the row -/
set_option maxRecDepth 100000 in
theorem lifted (os : Os) (started : os.Started) (H : Type) (enc : TypeId × Value → H) :
    ReturnsInHanded {} Tryz.checked os 3 .any (Rows.rowsWavesSpec.pre6 enc Tryz.prog Tryz.f3 Rows.rowsWavesRow.domain false) (Rows.rowsWavesSpec.post enc Tryz.prog Tryz.f3 false true false false) := by
  refine returnsInHanded_of_change (C := Tryz.checked) own started (by kernel_rfl) Tryz.func3
    (ChangeSpec.witness6 (enc := enc) (C := Tryz.checked) false ⟨#[], #[.agg #[.bool false, .slice none 0 0], .int .i64 0, .int .i64 0], []⟩ 8 (by kernel_rfl) (by kernel_rfl) (by kernel_rfl) (by kernel_rfl)) ?_
  intro W base args ds gs before hval0 hW hcnd _; have hval : ∀ (j : Nat) t v, Tryz.f3.params[j]? = some t → args[j]? = some v → Value.okWide Tryz.prog W .any base t v := hval0; have hW' := hW; obtain ⟨p, q, hA0, hV, rfl, hfz, hnd⟩ := hW; have hA : DataW.TrodAll enc Tryz.prog W 0 (fun _ => true) true Tryz.f3.params.toList args.toList ds p := hA0; rw [Tryz.params3] at hA hval; obtain ⟨v0, vs0, d0, ds0, p0, q0, hargs, rfl, rfl, h0, r0⟩ := trodAll_cons hA; obtain ⟨v1, vs1, d1, ds1, p1, q1, rfl, rfl, rfl, h1, r1⟩ := trodAll_cons r0; obtain ⟨v2, vs2, d2, ds2, p2, q2, rfl, rfl, rfl, h2, r2⟩ := trodAll_cons r1; obtain ⟨rfl, rfl, rfl⟩ := trodAll_nil r2; obtain rfl : args = #[v0, v1, v2] := by cases args; simp_all
  obtain ⟨rfl, rfl⟩ := trodVars_none hV; have k0 := h0; have lt0 : ∀ x ∈ p0, x.block < W.heap.size := by obtain ⟨m, hm⟩ := k0; exact DataW.trod_lt m _ _ _ hm
  obtain ⟨n0, A0, l0, c0, rfl, s0⟩ := open_int_s (hval 0 24 v0 rfl rfl) h0; obtain ⟨a1, rfl, rfl, rfl, w1⟩ := open_int Tryz.underlying3 (hval 1 3 v1 rfl rfl) h1; obtain ⟨a2, rfl, rfl, rfl, w2⟩ := open_int Tryz.underlying3 (hval 2 3 v2 rfl rfl) h2; clear hA0 hval0; refine (walk W n0 A0 l0 c0 s0 a1 w1 a2 w2).mono fun e W' ⟨he, bel⟩ => ?_
  subst he; exact ⟨_, rfl, _, _, _, [], _, [], hW', trodAll_mk1 (shut_bool Tryz.underlying4 _), (trodAll_cons_mk (Below.trod laidOut (by kernel_rfl) (of_decide_eq_true (by kernel_rfl)) k0 bel lt0) (trodAll_cons_mk (shut_int Tryz.underlying3 w1) (trodAll_cons_mk (shut_int Tryz.underlying3 w2) trodAll_mk0))), rfl, bel.frame _, fun h => by cases h⟩

theorem over : Rows.rowsWavesRow.holds Tryz.pinned (OpenSpec.ofChange Rows.rowsWavesSpec) :=
  OpenClaim.holds_of_wide 3 Tryz.f3 rfl rfl rfl rfl rfl rfl rfl ⟨rfl, rfl, rfl, rfl, rfl⟩ rfl rfl rfl rfl rfl (by kernel_rfl) Tryz.func3 (by kernel_rfl)
    (of_decide_eq_true (by kernel_rfl)) (by unfold Func.isWrapper; first | (rw [if_pos (by decide +kernel)]; kernel_rfl) | (rw [if_neg (by decide +kernel)]; exact ⟨rfl, rfl⟩))
    (fun os started H enc _ => lifted os started H enc)

theorem proved : Rows.RowsWavesSaid := over
#print axioms proved
end Go.Proofs.YtnephejalollfaaGreat.rowsWaves

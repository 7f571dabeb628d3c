/-
  hairlinelaw05.BallTight returns true for any ball and any two numbers of places. Conditions: none.
-/
import Derived.Test.YtnfbngiabdlclaaRows
import Derived.Test.YtnfbngiabdlclaaLw5
import Derived.Test.YtnfbngiabdlclaaOp5
import Derived.Test.YtnfbngiabdlclaaSa3
import Derived.Test.YtnfbngiabdlclaaSp
namespace Go.Proofs.Ytnfbngiabdlclaa.ballTight
open Go.ChangeShapes Go.WideShapes Go.ChangeAt Go.RowKit
open L (val)
set_option linter.unusedVariables false
set_option linter.unusedSimpArgs false

theorem own : ownKnob Try.prog.godebug = none := by kernel_rfl
theorem laidOut : laidOutB Try.prog = true := by kernel_rfl

set_option maxHeartbeats 16000000 in
set_option maxRecDepth 100000 in
theorem walkN (n0 n1 : Bool) (A0 A1 : Option Addr) (l0 l1 c0 c1 : Nat) (Q0 p q : Int) (hp0 : -9223372036854775808 ≤ p) (hp1 : p ≤ 9223372036854775807) (hq0 : -9223372036854775808 ≤ q) (hq1 : q ≤ 9223372036854775807) (L0 L1 : List Nat) (w : World)
    (h0 : Nums w 0 (.slice A0 l0 c0) L0) (h1 : Nums w 0 (.slice A1 l1 c1) L1) :
    Calls Try.prog 5 #[.agg #[.bool n0, .slice A0 l0 c0, .bool n1, .slice A1 l1 c1, .int .i64 Q0], .int .i64 p, .int .i64 q] w fun e w' => e = .returned (.bool true) ∧ Below w.heap.size w w' := by
  obtain ⟨w0, hW, Ba, hB, hs⟩ := start1 w 27 #[.bool n0, .slice A0 l0 c0, .bool n1, .slice A1 l1 c1, .int .i64 Q0]
  have HB := hide hB
  have hsz : w.heap.size + 1 ≤ w0.heap.size := by omega
  clear hB hs
  obtain ⟨z0, HZ0⟩ : ∃ z, Hid (ival n0 (val W (L0.take 4)) = z) := ⟨_, hide rfl⟩
  obtain ⟨z1, HZ1⟩ : ∃ z, Hid (ival n1 (val W (L1.take 4)) = z) := ⟨_, hide rfl⟩
  obtain ⟨lo, Hlo⟩ : ∃ z, Hid (min z0 z1 = z) := ⟨_, hide rfl⟩
  obtain ⟨hi, Hhi⟩ : ∃ z, Hid (max z0 z1 = z) := ⟨_, hide rfl⟩
  obtain ⟨bq, Hbq⟩ : ∃ z, Hid (bits .and .i64 p 255 = z) := ⟨_, hide rfl⟩
  obtain ⟨qq, Hqq⟩ : ∃ z, Hid (bits .and .i64 q 511 = z) := ⟨_, hide rfl⟩
  have hbq : 0 ≤ bq ∧ bq ≤ 255 := by have := bits_range p 255 (by omega); rw [show (((255 : Nat) : Int)) = 255 from rfl, Hbq.out] at this; exact this
  have hqq : 0 ≤ qq ∧ qq ≤ 511 := by have := bits_range q 511 (by omega); rw [show (((511 : Nat) : Int)) = 511 from rfl, Hqq.out] at this; exact this
  have HR : Hid (rightB lo hi bq = true) := hide (rightB_iff.2 (by have h2 := hbq; have h3 := Hlo.out; have h4 := Hhi.out; omega))
  have HM : Hid ((rightB lo hi bq && mayQ qq) = true) := hide (by rw [HR.out]; unfold mayQ; rw [Bool.true_and, decide_eq_true_eq]; omega)
  obtain ⟨f, Hf⟩ : ∃ z, Hid (vDn lo (bq - qq) = z) := ⟨_, hide rfl⟩
  obtain ⟨c, Hc⟩ : ∃ z, Hid (vOv hi (bq - qq) = z) := ⟨_, hide rfl⟩
  obtain ⟨f1, Hf1⟩ : ∃ z, Hid (f + 1 = z) := ⟨_, hide rfl⟩
  obtain ⟨d1, Hd1⟩ : ∃ z, Hid (c - 1 = z) := ⟨_, hide rfl⟩
  have HI1 : Hid (insB lo hi bq f c qq = true) := hide (by rw [← Hf.out, ← Hc.out]; exact tight_ins HR.out hqq.1 (by omega))
  have HI2 : Hid (insB lo hi bq f1 c qq = false) := hide (by rw [← Hf1.out, ← Hf.out, ← Hc.out]; exact tight_one HR.out hqq.1 (by omega))
  have HI3 : Hid (insB lo hi bq f d1 qq = false) := hide (by rw [← Hd1.out, ← Hf.out, ← Hc.out]; exact tight_two HR.out hqq.1 (by omega))
  have HM1 : Hid (metB lo hi bq f c qq = true) := hide (ins_met HI1.out)
  have HI4 : Hid (bq ≤ qq → insB f c qq lo hi bq = true) := hide (fun h => by rw [← Hf.out, ← Hc.out]; exact tight_back HR.out hqq.1 (by omega) h)
  have hII := Hqq.out
  obtain ⟨Bac0, Bac1, Bac2, Bac3, Bac4, -⟩ := Ba.five
  go_enter Try.func5, Try.ntmps5
  go_upto_region 1 with (fail)
  rw [← hW]
  clear hW
  have HP := shown5_calls w0
  have HPH := hide HP
  clear HP
  go_wp2_with fail
  refine HPH.out.mono ?_
  rintro e w1 ⟨hb, rfl⟩
  clear HPH
  clear Bac0 Bac1 Bac2 Bac3 Bac4
  have Ba := Ba.below hb Ba.lt
  have HB := hide (HB.out.trans (hb.mono HB.out.size))
  have hsz := Nat.le_trans hsz hb.size
  clear hb
  obtain ⟨Bac0, Bac1, Bac2, Bac3, Bac4, -⟩ := Ba.five
  have hsp := hsz
  have HP := right5_calls w1 n0 n1 A0 A1 l0 l1 c0 c1 Q0 p L0 L1 (h0.below HB.out) (h1.below HB.out)
  rw [HZ0.out, HZ1.out, Hlo.out, Hhi.out, Hbq.out] at HP
  have HPH := hide HP
  clear HP
  go_wp2_with fail
  refine HPH.out.mono ?_
  rintro e w2 ⟨hb, N0, C0, j0, i0_, N1, C1, j1, i1_, rfl, hn0, hn1⟩
  clear HPH
  clear Bac0 Bac1 Bac2 Bac3 Bac4
  have Ba := Ba.below hb Ba.lt
  have HB := hide (HB.out.trans (hb.mono HB.out.size))
  have hsz := Nat.le_trans hsz hb.size
  clear hb
  obtain ⟨Bac0, Bac1, Bac2, Bac3, Bac4, -⟩ := Ba.five
  have hn0 := hn0.mono hsp
  have hn1 := hn1.mono hsp
  clear Bac0 Bac1 Bac2 Bac3 Bac4
  obtain ⟨Bac0, Bac1, Bac2, Bac3, Bac4, Baf0, Baf1, Baf2, Baf3, Baf4⟩ := Ba.five
  obtain ⟨w3, hW, Ban, kq, kb, ks, kg, kn⟩ := set5_qn Ba (.bool N0) (.slice C0 j0 i0_) (.bool N1) (.slice C1 j1 i1_) (.int .i64 bq)
  have Ba := Ban
  have HB := hide (kb _ _ HB.out (by omega))
  have hsz := Nat.le_trans hsz (Nat.le_of_eq ks.symm)
  have hn0 := kq _ _ _ _ _ _ _ (by omega) hn0
  have hn1 := kq _ _ _ _ _ _ _ (by omega) hn1
  clear kq kb ks kg kn
  go_upto_region 3 with (fail)
  rw [← hW]
  clear hW Bac0 Baf0 Bac1 Baf1 Bac2 Baf2 Bac3 Baf3 Bac4 Baf4
  obtain ⟨Bac0, Bac1, Bac2, Bac3, Bac4, -⟩ := Ba.five
  go_upto_region 4 with (fail)
  have HP := recast_calls bq qq hn0.q hn1.q (by omega) (by omega) (by omega)
  unfold RetE at HP
  rw [HM.out, Hf.out, Hc.out] at HP
  simp only [eq_self, if_true] at HP
  have HPH := hide HP
  clear HP
  go_wp2_with fail
  refine HPH.out.mono ?_
  rintro e w4 ⟨hb, m0, D0, a0, k0, m1, D1, a1, k1, rfl, qf, qc⟩
  clear HPH
  clear Bac0 Bac1 Bac2 Bac3 Bac4
  have Ba := Ba.below hb Ba.lt
  have hn0 := hn0.below hb
  have hn1 := hn1.below hb
  have HB := hide (HB.out.trans (hb.mono HB.out.size))
  have hsz := Nat.le_trans hsz hb.size
  clear hb
  obtain ⟨Bac0, Bac1, Bac2, Bac3, Bac4, -⟩ := Ba.five
  clear Bac0 Bac1 Bac2 Bac3 Bac4
  obtain ⟨w5, hW, Bx, hb, hs⟩ := start1 w4 27 #[.bool m0, .slice D0 a0 k0, .bool m1, .slice D1 a1 k1, .int .i64 qq]
  have Ba := Ba.below hb Ba.lt
  have hn0 := hn0.below hb
  have hn1 := hn1.below hb
  have qf := qf.below hb
  have qc := qc.below hb
  have HB := hide (HB.out.trans (hb.mono HB.out.size))
  have hsz := Nat.le_trans hsz hb.size
  clear hb hs
  go_upto_region 5 with (fail)
  skip
  rw [← hW]
  clear hW
  obtain ⟨Bac0, Bac1, Bac2, Bac3, Bac4, -⟩ := Ba.five
  obtain ⟨Bxc0, Bxc1, Bxc2, Bxc3, Bxc4, -⟩ := Bx.five
  have HP := ins_calls bq qq (hn0.q.mono (show 4 ≤ 129 by omega)) (hn1.q.mono (show 4 ≤ 129 by omega)) qf.q qc.q (by omega)
  rw [HI1.out] at HP
  have HPH := hide HP
  clear HP
  go_wp2_with fail
  refine HPH.out.mono ?_
  rintro e w6 ⟨hb, rfl⟩
  clear HPH
  clear Bac0 Bac1 Bac2 Bac3 Bac4 Bxc0 Bxc1 Bxc2 Bxc3 Bxc4
  have Ba := Ba.below hb Ba.lt
  have Bx := Bx.below hb Bx.lt
  have hn0 := hn0.below hb
  have hn1 := hn1.below hb
  have qf := qf.below hb
  have qc := qc.below hb
  have HB := hide (HB.out.trans (hb.mono HB.out.size))
  have hsz := Nat.le_trans hsz hb.size
  clear hb
  obtain ⟨Bac0, Bac1, Bac2, Bac3, Bac4, -⟩ := Ba.five
  obtain ⟨Bxc0, Bxc1, Bxc2, Bxc3, Bxc4, -⟩ := Bx.five
  go_upto_region 7 with (fail)
  refine wp_region_free [.o, .o, .o, .o, .o, .o, .o, .o, .al 27 #[.bool false, .slice none 0 0, .bool false, .slice none 0 0, .int .i64 0], .st 8] [Fact.eq ?ca36, Fact.eq ?ca37, Fact.int 0 1 1, Fact.int 0 130 f1, Fact.eq ?ca40, Fact.eq ?ca41, Fact.eq ?ca42, Fact.ball 0 130 f1 c qq, Fact.any, Fact.ball 0 130 f1 c qq] [36, 37, 38, 39, 40, 41, 42, 43, 10] [36, 37, 38, 39, 40, 41, 42, 43, 10, 0] (by kernel_rfl) (by kernel_rfl) ?sta ?fina
  case sta =>
    refine Steps.consO rfl ?_ ?_
    · intro vz wz hBz hDz K hK
      replace hK := hK.out
      simp only [actv, fill, Act.put, fc, List.getD_cons_zero, List.getD_cons_succ, List.foldl_cons, List.foldl_nil, List.setIfInBounds_toArray, List.set_cons_succ, List.set_cons_zero] at hK
      apply Kept.mk
      simp only [Wp, actv, fill, List.foldl_cons, List.foldl_nil, List.setIfInBounds_toArray, List.set_cons_succ, List.set_cons_zero]
      go_simp
      refine hK _ wz (Below.refl _ _) (Fact.eq_mk ?_)
      with_reducible rfl
    refine Steps.consO rfl ?_ ?_
    · intro vz wz hBz hDz K hK
      have E36 : vz 36 = _ := hDz 0 (by kernel_rfl) rfl
      have Bxz := Bx.drew.below hBz Bx.lt
      obtain ⟨g0, g1, g2, g3, g4, -⟩ := Bxz.five
      replace hK := hK.out
      simp only [actv, fill, Act.put, fc, List.getD_cons_zero, List.getD_cons_succ, List.foldl_cons, List.foldl_nil, List.setIfInBounds_toArray, List.set_cons_succ, List.set_cons_zero] at hK
      apply Kept.mk
      simp only [Wp, actv, fill, List.foldl_cons, List.foldl_nil, List.setIfInBounds_toArray, List.set_cons_succ, List.set_cons_zero]
      simp only [E36] at hK ⊢
      go_simp
      refine hK _ wz (Below.refl _ _) (Fact.eq_mk ?_)
      with_reducible rfl
    refine Steps.consO rfl ?_ ?_
    · intro vz wz hBz hDz K hK
      have HWz := hide ((Below.refl w6.heap.size w6).drew.trans hBz)
      replace hK := hK.out
      simp only [actv, fill, Act.put, fc, List.getD_cons_zero, List.getD_cons_succ, List.foldl_cons, List.foldl_nil, List.setIfInBounds_toArray, List.set_cons_succ, List.set_cons_zero] at hK
      apply Kept.mk
      simp only [Wp, actv, fill, List.foldl_cons, List.foldl_nil, List.setIfInBounds_toArray, List.set_cons_succ, List.set_cons_zero]
      go_simp
      refine Calls.mono (czof 1 (by omega) (by omega)) ?_
      rintro e w2z ⟨hb2, u, d, rfl, hu, hd⟩
      go_wp2_with fail
      exact hK _ w2z hb2 (intV (hu.mono (Nat.zero_le _)) hd (by rw [Nat.pow_one]; unfold W; omega))
    refine Steps.consO rfl ?_ ?_
    · intro vz wz hBz hDz K hK
      have E37 : vz 37 = _ := hDz 1 (by kernel_rfl) rfl
      obtain ⟨n38_, A38_, l38_, c38_, E38, q38⟩ : IntV _ _ _ wz (vz 38) := hDz 2 (by kernel_rfl) rfl
      have HWz := hide ((Below.refl w6.heap.size w6).drew.trans hBz)
      replace hK := hK.out
      simp only [actv, fill, Act.put, fc, List.getD_cons_zero, List.getD_cons_succ, List.foldl_cons, List.foldl_nil, List.setIfInBounds_toArray, List.set_cons_succ, List.set_cons_zero] at hK
      apply Kept.mk
      simp only [Wp, actv, fill, List.foldl_cons, List.foldl_nil, List.setIfInBounds_toArray, List.set_cons_succ, List.set_cons_zero]
      simp only [E37, E38] at hK ⊢
      go_simp
      refine Calls.mono (Hf1.out ▸ c_zadd (qf.q.at_ HWz) q38.q (by omega) (by omega)) ?_
      rintro e w2z ⟨hb2, u, d, rfl, hu, hd⟩
      go_wp2_with fail
      exact hK _ w2z hb2 (intV (hu.mono (Nat.zero_le _)) hd (by rw [← Hf1.out]; exact add_lt1 qf.q.lt (Nat.lt_of_lt_of_le (show (1 : Int).natAbs < W ^ 1 by rw [Nat.pow_one]; unfold W; omega) (Nat.pow_le_pow_right (by unfold W; omega) (by omega)))))
    refine Steps.consO rfl ?_ ?_
    · intro vz wz hBz hDz K hK
      replace hK := hK.out
      simp only [actv, fill, Act.put, fc, List.getD_cons_zero, List.getD_cons_succ, List.foldl_cons, List.foldl_nil, List.setIfInBounds_toArray, List.set_cons_succ, List.set_cons_zero] at hK
      apply Kept.mk
      simp only [Wp, actv, fill, List.foldl_cons, List.foldl_nil, List.setIfInBounds_toArray, List.set_cons_succ, List.set_cons_zero]
      go_simp
      refine hK _ wz (Below.refl _ _) (Fact.eq_mk ?_)
      with_reducible rfl
    refine Steps.consO rfl ?_ ?_
    · intro vz wz hBz hDz K hK
      have E40 : vz 40 = _ := hDz 4 (by kernel_rfl) rfl
      have Bxz := Bx.drew.below hBz Bx.lt
      obtain ⟨g0, g1, g2, g3, g4, -⟩ := Bxz.five
      replace hK := hK.out
      simp only [actv, fill, Act.put, fc, List.getD_cons_zero, List.getD_cons_succ, List.foldl_cons, List.foldl_nil, List.setIfInBounds_toArray, List.set_cons_succ, List.set_cons_zero] at hK
      apply Kept.mk
      simp only [Wp, actv, fill, List.foldl_cons, List.foldl_nil, List.setIfInBounds_toArray, List.set_cons_succ, List.set_cons_zero]
      simp only [E40] at hK ⊢
      go_simp
      refine hK _ wz (Below.refl _ _) (Fact.eq_mk ?_)
      with_reducible rfl
    refine Steps.consO rfl ?_ ?_
    · intro vz wz hBz hDz K hK
      replace hK := hK.out
      simp only [actv, fill, Act.put, fc, List.getD_cons_zero, List.getD_cons_succ, List.foldl_cons, List.foldl_nil, List.setIfInBounds_toArray, List.set_cons_succ, List.set_cons_zero] at hK
      apply Kept.mk
      simp only [Wp, actv, fill, List.foldl_cons, List.foldl_nil, List.setIfInBounds_toArray, List.set_cons_succ, List.set_cons_zero]
      go_simp
      refine hK _ wz (Below.refl _ _) (Fact.eq_mk ?_)
      with_reducible rfl
    refine Steps.consO rfl ?_ ?_
    · intro vz wz hBz hDz K hK
      obtain ⟨n39_, A39_, l39_, c39_, E39, q39⟩ : IntV _ _ _ wz (vz 39) := hDz 3 (by kernel_rfl) rfl
      have E41 : vz 41 = _ := hDz 5 (by kernel_rfl) rfl
      have E42 : vz 42 = _ := hDz 6 (by kernel_rfl) rfl
      replace hK := hK.out
      simp only [actv, fill, Act.put, fc, List.getD_cons_zero, List.getD_cons_succ, List.foldl_cons, List.foldl_nil, List.setIfInBounds_toArray, List.set_cons_succ, List.set_cons_zero] at hK
      apply Kept.mk
      simp only [Wp, actv, fill, List.foldl_cons, List.foldl_nil, List.setIfInBounds_toArray, List.set_cons_succ, List.set_cons_zero]
      simp only [E39, E41, E42] at hK ⊢
      go_simp
      exact hK _ wz (Below.refl _ _) (⟨_, _, _, _, _, _, _, _, rfl, q39, ((qc.below ((Below.refl _ _).drew.trans hBz)).mono (Nat.zero_le _)).up (by omega)⟩)
    refine Steps.consA rfl ⟨NoU.five (by intro x h; cases h) (by intro x h; cases h) (by intro x h; cases h) (by intro x h; cases h) (by intro x h; cases h), ?_⟩ ?_
    · intro vz wz hBz K hK
      replace hK := hK.out
      simp only [actv, fill, Act.put, fc, List.getD_cons_zero, List.getD_cons_succ, List.foldl_cons, List.foldl_nil, List.setIfInBounds_toArray, List.set_cons_succ, List.set_cons_zero] at hK
      apply Kept.mk
      simp only [Wp, actv, fill, List.foldl_cons, List.foldl_nil, List.setIfInBounds_toArray, List.set_cons_succ, List.set_cons_zero]
      go_simp
      exact hK
    refine Steps.consS rfl rfl ?_ ?_
    · intro vz wz gz hBz hDz E10 hgz hbz K hK
      obtain ⟨zc0, zc1, zc2, zc3, zc4, zc5, zc6, zc7, zc8, zc9⟩ := hbz.five
      obtain ⟨n43_, A43_, l43_, c43_, m43_, B43_, j43_, d43_, E43, q43, p43⟩ : BallV _ _ _ _ _ wz (vz 43) := hDz 7 (by kernel_rfl) rfl
      have E10' : vz 10 = .pointer (some ⟨gz, 0, none⟩) := E10
      replace hK := hK.out
      simp only [actv, fill, Act.put, fc, List.getD_cons_zero, List.getD_cons_succ, List.foldl_cons, List.foldl_nil, List.setIfInBounds_toArray, List.set_cons_succ, List.set_cons_zero] at hK
      apply Kept.mk
      simp only [Wp, actv, fill, List.foldl_cons, List.foldl_nil, List.setIfInBounds_toArray, List.set_cons_succ, List.set_cons_zero]
      simp only [E10', E43] at hK ⊢
      go_simp
      exact hK _ (((((Far.set _ gz 0 _).trans (Far.set _ gz 1 _)).trans (Far.set _ gz 2 _)).trans (Far.set _ gz 3 _)).trans (Far.set _ gz 4 _)) ⟨_, blk_five hbz, NoU.five (by intro x h; cases h) (by intro x h; cases h) (by intro x h; cases h) (by intro x h; cases h) (by intro x h; cases h), ⟨_, _, _, _, _, _, _, _, rfl, q43, p43⟩⟩
    exact Steps.nil
  case fina =>
    intro vz wza hBz ⟨hOz, hAz, hNz⟩
    have E36 : vz 36 = _ := hOz 0 (by decide) rfl
    have E37 : vz 37 = _ := hOz 1 (by decide) rfl
    obtain ⟨n38_, A38_, l38_, c38_, E38, q38⟩ : IntV _ _ _ wza (vz 38) := hOz 2 (by decide) rfl
    obtain ⟨n39_, A39_, l39_, c39_, E39, q39⟩ : IntV _ _ _ wza (vz 39) := hOz 3 (by decide) rfl
    have E40 : vz 40 = _ := hOz 4 (by decide) rfl
    have E41 : vz 41 = _ := hOz 5 (by decide) rfl
    have E42 : vz 42 = _ := hOz 6 (by decide) rfl
    obtain ⟨n43_, A43_, l43_, c43_, m43_, B43_, j43_, d43_, E43, q43, p43⟩ : BallV _ _ _ _ _ wza (vz 43) := hOz 7 (by decide) rfl
    obtain ⟨g10, cs10, E10, hg10, hb10, hs10, hz10⟩ := hAz 8 _ _ (by decide) rfl
    obtain ⟨n10_, A10_, l10_, c10_, m10_, B10_, j10_, d10_, e10_, q10, p10⟩ : BallV _ _ _ _ _ wza (.agg cs10) := hs10 9 (by decide) rfl
    injection e10_ with e10_
    subst e10_
    simp only [actv, fill, List.foldl_cons, List.foldl_nil, List.setIfInBounds_toArray, List.set_cons_succ, List.set_cons_zero]
    simp only [E36, E37, E38, E39, E40, E41, E42, E43, (show vz 10 = _ from E10)]
    clear hOz hAz hNz hs10 hz10
    have HWz := (Below.refl w6.heap.size w6).drew.trans hBz
    clear Bac0 Bac1 Bac2 Bac3 Bac4 Bxc0 Bxc1 Bxc2 Bxc3 Bxc4
    have Ba := Ba.below HWz Ba.lt
    have Bx := Bx.below HWz Bx.lt
    have hn0 := hn0.below HWz
    have hn1 := hn1.below HWz
    have qf := qf.below HWz
    have qc := qc.below HWz
    have HB := hide (HB.out.trans (HWz.mono HB.out.size))
    have hsz := Nat.le_trans hsz HWz.size
    clear HWz hBz
    obtain ⟨Bac0, Bac1, Bac2, Bac3, Bac4, -⟩ := Ba.five
    obtain ⟨Bxc0, Bxc1, Bxc2, Bxc3, Bxc4, -⟩ := Bx.five
    obtain ⟨hb10c0, hb10c1, hb10c2, hb10c3, hb10c4, -⟩ := hb10.five
    go_upto_region 8 with (fail)
    refine wp_region_free [.o, .o, .o, .o, .o, .o, .o, .o, .al 27 #[.bool false, .slice none 0 0, .bool false, .slice none 0 0, .int .i64 0], .st 8] [Fact.eq ?cb44, Fact.eq ?cb45, Fact.eq ?cb46, Fact.eq ?cb47, Fact.int 0 1 1, Fact.int 0 130 d1, Fact.eq ?cb50, Fact.ball 0 130 f d1 qq, Fact.any, Fact.ball 0 130 f d1 qq] [44, 45, 46, 47, 48, 49, 50, 51, 11] [44, 45, 46, 47, 48, 49, 50, 51, 11, 0] (by kernel_rfl) (by kernel_rfl) ?stb ?finb
    case stb =>
      refine Steps.consO rfl ?_ ?_
      · intro vz wz hBz hDz K hK
        replace hK := hK.out
        simp only [actv, fill, Act.put, fc, List.getD_cons_zero, List.getD_cons_succ, List.foldl_cons, List.foldl_nil, List.setIfInBounds_toArray, List.set_cons_succ, List.set_cons_zero] at hK
        apply Kept.mk
        simp only [Wp, actv, fill, List.foldl_cons, List.foldl_nil, List.setIfInBounds_toArray, List.set_cons_succ, List.set_cons_zero]
        go_simp
        refine hK _ wz (Below.refl _ _) (Fact.eq_mk ?_)
        with_reducible rfl
      refine Steps.consO rfl ?_ ?_
      · intro vz wz hBz hDz K hK
        have E44 : vz 44 = _ := hDz 0 (by kernel_rfl) rfl
        have Bxz := Bx.drew.below hBz Bx.lt
        obtain ⟨g0, g1, g2, g3, g4, -⟩ := Bxz.five
        replace hK := hK.out
        simp only [actv, fill, Act.put, fc, List.getD_cons_zero, List.getD_cons_succ, List.foldl_cons, List.foldl_nil, List.setIfInBounds_toArray, List.set_cons_succ, List.set_cons_zero] at hK
        apply Kept.mk
        simp only [Wp, actv, fill, List.foldl_cons, List.foldl_nil, List.setIfInBounds_toArray, List.set_cons_succ, List.set_cons_zero]
        simp only [E44] at hK ⊢
        go_simp
        refine hK _ wz (Below.refl _ _) (Fact.eq_mk ?_)
        with_reducible rfl
      refine Steps.consO rfl ?_ ?_
      · intro vz wz hBz hDz K hK
        replace hK := hK.out
        simp only [actv, fill, Act.put, fc, List.getD_cons_zero, List.getD_cons_succ, List.foldl_cons, List.foldl_nil, List.setIfInBounds_toArray, List.set_cons_succ, List.set_cons_zero] at hK
        apply Kept.mk
        simp only [Wp, actv, fill, List.foldl_cons, List.foldl_nil, List.setIfInBounds_toArray, List.set_cons_succ, List.set_cons_zero]
        go_simp
        refine hK _ wz (Below.refl _ _) (Fact.eq_mk ?_)
        with_reducible rfl
      refine Steps.consO rfl ?_ ?_
      · intro vz wz hBz hDz K hK
        have E46 : vz 46 = _ := hDz 2 (by kernel_rfl) rfl
        have Bxz := Bx.drew.below hBz Bx.lt
        obtain ⟨g0, g1, g2, g3, g4, -⟩ := Bxz.five
        replace hK := hK.out
        simp only [actv, fill, Act.put, fc, List.getD_cons_zero, List.getD_cons_succ, List.foldl_cons, List.foldl_nil, List.setIfInBounds_toArray, List.set_cons_succ, List.set_cons_zero] at hK
        apply Kept.mk
        simp only [Wp, actv, fill, List.foldl_cons, List.foldl_nil, List.setIfInBounds_toArray, List.set_cons_succ, List.set_cons_zero]
        simp only [E46] at hK ⊢
        go_simp
        refine hK _ wz (Below.refl _ _) (Fact.eq_mk ?_)
        with_reducible rfl
      refine Steps.consO rfl ?_ ?_
      · intro vz wz hBz hDz K hK
        have HWz := hide ((Below.refl wza.heap.size wza).drew.trans hBz)
        replace hK := hK.out
        simp only [actv, fill, Act.put, fc, List.getD_cons_zero, List.getD_cons_succ, List.foldl_cons, List.foldl_nil, List.setIfInBounds_toArray, List.set_cons_succ, List.set_cons_zero] at hK
        apply Kept.mk
        simp only [Wp, actv, fill, List.foldl_cons, List.foldl_nil, List.setIfInBounds_toArray, List.set_cons_succ, List.set_cons_zero]
        go_simp
        refine Calls.mono (czof 1 (by omega) (by omega)) ?_
        rintro e w2z ⟨hb2, u, d, rfl, hu, hd⟩
        go_wp2_with fail
        exact hK _ w2z hb2 (intV (hu.mono (Nat.zero_le _)) hd (by rw [Nat.pow_one]; unfold W; omega))
      refine Steps.consO rfl ?_ ?_
      · intro vz wz hBz hDz K hK
        have E47 : vz 47 = _ := hDz 3 (by kernel_rfl) rfl
        obtain ⟨n48_, A48_, l48_, c48_, E48, q48⟩ : IntV _ _ _ wz (vz 48) := hDz 4 (by kernel_rfl) rfl
        have HWz := hide ((Below.refl wza.heap.size wza).drew.trans hBz)
        replace hK := hK.out
        simp only [actv, fill, Act.put, fc, List.getD_cons_zero, List.getD_cons_succ, List.foldl_cons, List.foldl_nil, List.setIfInBounds_toArray, List.set_cons_succ, List.set_cons_zero] at hK
        apply Kept.mk
        simp only [Wp, actv, fill, List.foldl_cons, List.foldl_nil, List.setIfInBounds_toArray, List.set_cons_succ, List.set_cons_zero]
        simp only [E47, E48] at hK ⊢
        go_simp
        refine Calls.mono (Hd1.out ▸ c_zsub_b (qc.q.at_ HWz) q48.q (by omega) (by omega)) ?_
        rintro e w2z ⟨hb2, u, d, rfl, hu, hd⟩
        go_wp2_with fail
        exact hK _ w2z hb2 (intV (hu.mono (Nat.zero_le _)) hd (by rw [← Hd1.out]; exact sub_lt1 qc.q.lt (Nat.lt_of_lt_of_le (show (1 : Int).natAbs < W ^ 1 by rw [Nat.pow_one]; unfold W; omega) (Nat.pow_le_pow_right (by unfold W; omega) (by omega)))))
      refine Steps.consO rfl ?_ ?_
      · intro vz wz hBz hDz K hK
        replace hK := hK.out
        simp only [actv, fill, Act.put, fc, List.getD_cons_zero, List.getD_cons_succ, List.foldl_cons, List.foldl_nil, List.setIfInBounds_toArray, List.set_cons_succ, List.set_cons_zero] at hK
        apply Kept.mk
        simp only [Wp, actv, fill, List.foldl_cons, List.foldl_nil, List.setIfInBounds_toArray, List.set_cons_succ, List.set_cons_zero]
        go_simp
        refine hK _ wz (Below.refl _ _) (Fact.eq_mk ?_)
        with_reducible rfl
      refine Steps.consO rfl ?_ ?_
      · intro vz wz hBz hDz K hK
        have E45 : vz 45 = _ := hDz 1 (by kernel_rfl) rfl
        obtain ⟨n49_, A49_, l49_, c49_, E49, q49⟩ : IntV _ _ _ wz (vz 49) := hDz 5 (by kernel_rfl) rfl
        have E50 : vz 50 = _ := hDz 6 (by kernel_rfl) rfl
        replace hK := hK.out
        simp only [actv, fill, Act.put, fc, List.getD_cons_zero, List.getD_cons_succ, List.foldl_cons, List.foldl_nil, List.setIfInBounds_toArray, List.set_cons_succ, List.set_cons_zero] at hK
        apply Kept.mk
        simp only [Wp, actv, fill, List.foldl_cons, List.foldl_nil, List.setIfInBounds_toArray, List.set_cons_succ, List.set_cons_zero]
        simp only [E45, E49, E50] at hK ⊢
        go_simp
        exact hK _ wz (Below.refl _ _) (⟨_, _, _, _, _, _, _, _, rfl, ((qf.below ((Below.refl _ _).drew.trans hBz)).mono (Nat.zero_le _)).up (by omega), q49⟩)
      refine Steps.consA rfl ⟨NoU.five (by intro x h; cases h) (by intro x h; cases h) (by intro x h; cases h) (by intro x h; cases h) (by intro x h; cases h), ?_⟩ ?_
      · intro vz wz hBz K hK
        replace hK := hK.out
        simp only [actv, fill, Act.put, fc, List.getD_cons_zero, List.getD_cons_succ, List.foldl_cons, List.foldl_nil, List.setIfInBounds_toArray, List.set_cons_succ, List.set_cons_zero] at hK
        apply Kept.mk
        simp only [Wp, actv, fill, List.foldl_cons, List.foldl_nil, List.setIfInBounds_toArray, List.set_cons_succ, List.set_cons_zero]
        go_simp
        exact hK
      refine Steps.consS rfl rfl ?_ ?_
      · intro vz wz gz hBz hDz E11 hgz hbz K hK
        obtain ⟨zc0, zc1, zc2, zc3, zc4, zc5, zc6, zc7, zc8, zc9⟩ := hbz.five
        obtain ⟨n51_, A51_, l51_, c51_, m51_, B51_, j51_, d51_, E51, q51, p51⟩ : BallV _ _ _ _ _ wz (vz 51) := hDz 7 (by kernel_rfl) rfl
        have E11' : vz 11 = .pointer (some ⟨gz, 0, none⟩) := E11
        replace hK := hK.out
        simp only [actv, fill, Act.put, fc, List.getD_cons_zero, List.getD_cons_succ, List.foldl_cons, List.foldl_nil, List.setIfInBounds_toArray, List.set_cons_succ, List.set_cons_zero] at hK
        apply Kept.mk
        simp only [Wp, actv, fill, List.foldl_cons, List.foldl_nil, List.setIfInBounds_toArray, List.set_cons_succ, List.set_cons_zero]
        simp only [E11', E51] at hK ⊢
        go_simp
        exact hK _ (((((Far.set _ gz 0 _).trans (Far.set _ gz 1 _)).trans (Far.set _ gz 2 _)).trans (Far.set _ gz 3 _)).trans (Far.set _ gz 4 _)) ⟨_, blk_five hbz, NoU.five (by intro x h; cases h) (by intro x h; cases h) (by intro x h; cases h) (by intro x h; cases h) (by intro x h; cases h), ⟨_, _, _, _, _, _, _, _, rfl, q51, p51⟩⟩
      exact Steps.nil
    case finb =>
      intro vz wzb hBz ⟨hOz, hAz, hNz⟩
      have E44 : vz 44 = _ := hOz 0 (by decide) rfl
      have E45 : vz 45 = _ := hOz 1 (by decide) rfl
      have E46 : vz 46 = _ := hOz 2 (by decide) rfl
      have E47 : vz 47 = _ := hOz 3 (by decide) rfl
      obtain ⟨n48_, A48_, l48_, c48_, E48, q48⟩ : IntV _ _ _ wzb (vz 48) := hOz 4 (by decide) rfl
      obtain ⟨n49_, A49_, l49_, c49_, E49, q49⟩ : IntV _ _ _ wzb (vz 49) := hOz 5 (by decide) rfl
      have E50 : vz 50 = _ := hOz 6 (by decide) rfl
      obtain ⟨n51_, A51_, l51_, c51_, m51_, B51_, j51_, d51_, E51, q51, p51⟩ : BallV _ _ _ _ _ wzb (vz 51) := hOz 7 (by decide) rfl
      obtain ⟨g11, cs11, E11, hg11, hb11, hs11, hz11⟩ := hAz 8 _ _ (by decide) rfl
      obtain ⟨n11_, A11_, l11_, c11_, m11_, B11_, j11_, d11_, e11_, q11, p11⟩ : BallV _ _ _ _ _ wzb (.agg cs11) := hs11 9 (by decide) rfl
      injection e11_ with e11_
      subst e11_
      simp only [actv, fill, List.foldl_cons, List.foldl_nil, List.setIfInBounds_toArray, List.set_cons_succ, List.set_cons_zero]
      simp only [E44, E45, E46, E47, E48, E49, E50, E51, (show vz 11 = _ from E11)]
      clear hOz hAz hNz hs11 hz11
      have HWz := (Below.refl wza.heap.size wza).drew.trans hBz
      clear Bac0 Bac1 Bac2 Bac3 Bac4 Bxc0 Bxc1 Bxc2 Bxc3 Bxc4 hb10c0 hb10c1 hb10c2 hb10c3 hb10c4
      have Ba := Ba.below HWz Ba.lt
      have Bx := Bx.below HWz Bx.lt
      have hb10 := hb10.below HWz hb10.lt
      have hn0 := hn0.below HWz
      have hn1 := hn1.below HWz
      have qf := qf.below HWz
      have qc := qc.below HWz
      have q10 := q10.below HWz
      have p10 := p10.below HWz
      have HB := hide (HB.out.trans (HWz.mono HB.out.size))
      have hsz := Nat.le_trans hsz HWz.size
      clear HWz hBz
      obtain ⟨Bac0, Bac1, Bac2, Bac3, Bac4, -⟩ := Ba.five
      obtain ⟨Bxc0, Bxc1, Bxc2, Bxc3, Bxc4, -⟩ := Bx.five
      obtain ⟨hb10c0, hb10c1, hb10c2, hb10c3, hb10c4, -⟩ := hb10.five
      obtain ⟨hb11c0, hb11c1, hb11c2, hb11c3, hb11c4, -⟩ := hb11.five
      go_upto_region 9 with (fail)
      have HP := ins_calls bq qq (hn0.q.mono (show 4 ≤ 130 by omega)) (hn1.q.mono (show 4 ≤ 130 by omega)) q10.q p10.q (by omega)
      rw [HI2.out] at HP
      have HPH := hide HP
      clear HP
      go_wp2_with fail
      refine HPH.out.mono ?_
      rintro e w7 ⟨hb, rfl⟩
      clear HPH
      clear Bac0 Bac1 Bac2 Bac3 Bac4 Bxc0 Bxc1 Bxc2 Bxc3 Bxc4 hb10c0 hb10c1 hb10c2 hb10c3 hb10c4 hb11c0 hb11c1 hb11c2 hb11c3 hb11c4
      have Ba := Ba.below hb Ba.lt
      have Bx := Bx.below hb Bx.lt
      have hb10 := hb10.below hb hb10.lt
      have hb11 := hb11.below hb hb11.lt
      have hn0 := hn0.below hb
      have hn1 := hn1.below hb
      have qf := qf.below hb
      have qc := qc.below hb
      have q10 := q10.below hb
      have p10 := p10.below hb
      have q11 := q11.below hb
      have p11 := p11.below hb
      have HB := hide (HB.out.trans (hb.mono HB.out.size))
      have hsz := Nat.le_trans hsz hb.size
      clear hb
      obtain ⟨Bac0, Bac1, Bac2, Bac3, Bac4, -⟩ := Ba.five
      obtain ⟨Bxc0, Bxc1, Bxc2, Bxc3, Bxc4, -⟩ := Bx.five
      obtain ⟨hb10c0, hb10c1, hb10c2, hb10c3, hb10c4, -⟩ := hb10.five
      obtain ⟨hb11c0, hb11c1, hb11c2, hb11c3, hb11c4, -⟩ := hb11.five
      have HP := ins_calls bq qq (hn0.q.mono (show 4 ≤ 130 by omega)) (hn1.q.mono (show 4 ≤ 130 by omega)) q11.q p11.q (by omega)
      rw [HI3.out] at HP
      have HPH := hide HP
      clear HP
      go_wp2_with fail
      refine HPH.out.mono ?_
      rintro e w8 ⟨hb, rfl⟩
      clear HPH
      clear Bac0 Bac1 Bac2 Bac3 Bac4 Bxc0 Bxc1 Bxc2 Bxc3 Bxc4 hb10c0 hb10c1 hb10c2 hb10c3 hb10c4 hb11c0 hb11c1 hb11c2 hb11c3 hb11c4
      have Ba := Ba.below hb Ba.lt
      have Bx := Bx.below hb Bx.lt
      have hb10 := hb10.below hb hb10.lt
      have hb11 := hb11.below hb hb11.lt
      have hn0 := hn0.below hb
      have hn1 := hn1.below hb
      have qf := qf.below hb
      have qc := qc.below hb
      have q10 := q10.below hb
      have p10 := p10.below hb
      have q11 := q11.below hb
      have p11 := p11.below hb
      have HB := hide (HB.out.trans (hb.mono HB.out.size))
      have hsz := Nat.le_trans hsz hb.size
      clear hb
      obtain ⟨Bac0, Bac1, Bac2, Bac3, Bac4, -⟩ := Ba.five
      obtain ⟨Bxc0, Bxc1, Bxc2, Bxc3, Bxc4, -⟩ := Bx.five
      obtain ⟨hb10c0, hb10c1, hb10c2, hb10c3, hb10c4, -⟩ := hb10.five
      obtain ⟨hb11c0, hb11c1, hb11c2, hb11c3, hb11c4, -⟩ := hb11.five
      have HP := met_calls bq qq (hn0.q.mono (show 4 ≤ 129 by omega)) (hn1.q.mono (show 4 ≤ 129 by omega)) qf.q qc.q (by omega)
      rw [HM1.out] at HP
      have HPH := hide HP
      clear HP
      go_wp2_with fail
      refine HPH.out.mono ?_
      rintro e w9 ⟨hb, rfl⟩
      clear HPH
      clear Bac0 Bac1 Bac2 Bac3 Bac4 Bxc0 Bxc1 Bxc2 Bxc3 Bxc4 hb10c0 hb10c1 hb10c2 hb10c3 hb10c4 hb11c0 hb11c1 hb11c2 hb11c3 hb11c4
      have Ba := Ba.below hb Ba.lt
      have Bx := Bx.below hb Bx.lt
      have hb10 := hb10.below hb hb10.lt
      have hb11 := hb11.below hb hb11.lt
      have hn0 := hn0.below hb
      have hn1 := hn1.below hb
      have qf := qf.below hb
      have qc := qc.below hb
      have q10 := q10.below hb
      have p10 := p10.below hb
      have q11 := q11.below hb
      have p11 := p11.below hb
      have HB := hide (HB.out.trans (hb.mono HB.out.size))
      have hsz := Nat.le_trans hsz hb.size
      clear hb
      obtain ⟨Bac0, Bac1, Bac2, Bac3, Bac4, -⟩ := Ba.five
      obtain ⟨Bxc0, Bxc1, Bxc2, Bxc3, Bxc4, -⟩ := Bx.five
      obtain ⟨hb10c0, hb10c1, hb10c2, hb10c3, hb10c4, -⟩ := hb10.five
      obtain ⟨hb11c0, hb11c1, hb11c2, hb11c3, hb11c4, -⟩ := hb11.five
      by_cases hlt : qq < bq
      · go_wp2_with fail
        go_ret
        exact ⟨rfl, HB.out⟩
      · skip
        replace HI4 := hide (HI4.out (by omega))
        have HP := ins_calls qq bq qf.q qc.q (hn0.q.mono (show 4 ≤ 129 by omega)) (hn1.q.mono (show 4 ≤ 129 by omega)) (by omega)
        rw [HI4.out] at HP
        have HPH := hide HP
        clear HP
        go_wp2_with fail
        refine HPH.out.mono ?_
        rintro e w10 ⟨hb, rfl⟩
        clear HPH
        clear Bac0 Bac1 Bac2 Bac3 Bac4 Bxc0 Bxc1 Bxc2 Bxc3 Bxc4 hb10c0 hb10c1 hb10c2 hb10c3 hb10c4 hb11c0 hb11c1 hb11c2 hb11c3 hb11c4
        have Ba := Ba.below hb Ba.lt
        have Bx := Bx.below hb Bx.lt
        have hb10 := hb10.below hb hb10.lt
        have hb11 := hb11.below hb hb11.lt
        have hn0 := hn0.below hb
        have hn1 := hn1.below hb
        have qf := qf.below hb
        have qc := qc.below hb
        have q10 := q10.below hb
        have p10 := p10.below hb
        have q11 := q11.below hb
        have p11 := p11.below hb
        have HB := hide (HB.out.trans (hb.mono HB.out.size))
        have hsz := Nat.le_trans hsz hb.size
        clear hb
        obtain ⟨Bac0, Bac1, Bac2, Bac3, Bac4, -⟩ := Ba.five
        obtain ⟨Bxc0, Bxc1, Bxc2, Bxc3, Bxc4, -⟩ := Bx.five
        obtain ⟨hb10c0, hb10c1, hb10c2, hb10c3, hb10c4, -⟩ := hb10.five
        obtain ⟨hb11c0, hb11c1, hb11c2, hb11c3, hb11c4, -⟩ := hb11.five
        go_wp2_with fail
        go_ret
        exact ⟨rfl, HB.out⟩

theorem walk (w : World) (n0 : Bool) (A0 : Option Addr) (l0 c0 : Nat) (m0 : Bool) (B0 : Option Addr) (j0 d0 : Nat) (x0 : Int) (s0 : ∃ L, Nums w 0 (.slice A0 l0 c0) L) (t0 : ∃ L, Nums w 0 (.slice B0 j0 d0) L) (w0 : (Lit.int .i64 x0).wf = true) (p : Int) (w1 : (Lit.int .i64 p).wf = true) (q : Int) (w2 : (Lit.int .i64 q).wf = true) :
    Calls Try.prog 5 #[.agg #[.bool n0, .slice A0 l0 c0, .bool m0, .slice B0 j0 d0, .int .i64 x0], .int .i64 p, .int .i64 q] w fun e w' => e = .returned (.bool true) ∧ Below w.heap.size w w' := by
  obtain ⟨L0, h0⟩ := s0
  obtain ⟨L1, h1⟩ := t0
  have hb := bounds_i64 w1
  have hc := bounds_i64 w2
  exact walkN n0 m0 A0 B0 l0 j0 c0 d0 x0 p q hb.1 hb.2 hc.1 hc.2 L0 L1 w h0 h1

/-! ### the row -/
set_option maxRecDepth 100000 in
theorem lifted (os : Os) (started : os.Started) (H : Type) (enc : TypeId × Value → H) :
    ReturnsInHanded {} Try.checked os 5 .any (Rows.ballTightSpec.pre6 enc Try.prog Try.f5 Rows.ballTightRow.domain false) (Rows.ballTightSpec.post enc Try.prog Try.f5 false true false false) := by
  refine returnsInHanded_of_change (C := Try.checked) own started (by kernel_rfl) Try.func5
    (ChangeSpec.witness6 (enc := enc) (C := Try.checked) false ⟨#[], #[.agg #[.bool false, .slice none 0 0, .bool false, .slice none 0 0, .int .i64 0], .int .i64 0, .int .i64 0], []⟩ 8 (by kernel_rfl) (by kernel_rfl) (by kernel_rfl) (by kernel_rfl)) ?_
  intro W base args ds gs before hval0 hW hcnd _
  have hval : ∀ (j : Nat) t v, Try.f5.params[j]? = some t → args[j]? = some v → Value.okWide Try.prog W .any base t v := hval0
  have hW' := hW
  obtain ⟨p, q, hA0, hV, rfl, hfz, hnd⟩ := hW
  have hA : DataW.TrodAll enc Try.prog W 0 (fun _ => true) true Try.f5.params.toList args.toList ds p := hA0
  rw [Try.params5] at hA hval
  obtain ⟨v0, vs0, d0, ds0, p0, q0, hargs, rfl, rfl, h0, r0⟩ := trodAll_cons hA
  obtain ⟨v1, vs1, d1, ds1, p1, q1, rfl, rfl, rfl, h1, r1⟩ := trodAll_cons r0
  obtain ⟨v2, vs2, d2, ds2, p2, q2, rfl, rfl, rfl, h2, r2⟩ := trodAll_cons r1
  obtain ⟨rfl, rfl, rfl⟩ := trodAll_nil r2
  obtain rfl : args = #[v0, v1, v2] := by cases args; simp_all
  obtain ⟨rfl, rfl⟩ := trodVars_none hV
  have k0 := h0
  have lt0 : ∀ x ∈ p0, x.block < W.heap.size := by obtain ⟨m, hm⟩ := k0; exact DataW.trod_lt m _ _ _ hm
  obtain ⟨n0, A0, l0, c0, m0, B0, j0, d0_, x0, rfl, s0, t0, w0⟩ := open_ball (hval 0 27 v0 rfl rfl) h0
  obtain ⟨a1, rfl, rfl, rfl, w1⟩ := open_int Try.underlying3 (hval 1 3 v1 rfl rfl) h1
  obtain ⟨a2, rfl, rfl, rfl, w2⟩ := open_int Try.underlying3 (hval 2 3 v2 rfl rfl) h2
  clear hA0 hval0
  refine (walk W n0 A0 l0 c0 m0 B0 j0 d0_ x0 s0 t0 w0 a1 w1 a2 w2).mono fun e W' ⟨he, bel⟩ => ?_
  subst he
  exact ⟨_, rfl, _, _, _, [], _, [], hW', trodAll_mk1 (shut_bool Try.underlying4 _), (trodAll_cons_mk (Below.trod laidOut (by kernel_rfl) (of_decide_eq_true (by kernel_rfl)) k0 bel lt0) (trodAll_cons_mk (shut_int Try.underlying3 w1) (trodAll_cons_mk (shut_int Try.underlying3 w2) trodAll_mk0))), rfl, bel.frame _, fun h => by cases h⟩

theorem over : Rows.ballTightRow.holds Try.pinned (OpenSpec.ofChange Rows.ballTightSpec) :=
  OpenClaim.holds_of_wide 5 Try.f5 rfl rfl rfl rfl rfl rfl rfl ⟨rfl, rfl, rfl, rfl, rfl⟩ rfl rfl rfl rfl rfl (by kernel_rfl) Try.func5 (by kernel_rfl)
    (of_decide_eq_true (by kernel_rfl)) (by unfold Func.isWrapper; first | (rw [if_pos (by decide +kernel)]; kernel_rfl) | (rw [if_neg (by decide +kernel)]; exact ⟨rfl, rfl⟩))
    (fun os started H enc _ => lifted os started H enc)

theorem proved : Rows.BallTightSaid := over
#print axioms proved
end Go.Proofs.Ytnfbngiabdlclaa.ballTight

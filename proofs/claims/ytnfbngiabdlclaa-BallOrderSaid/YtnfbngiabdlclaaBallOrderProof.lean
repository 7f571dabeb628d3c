/-
  hairlinelaw05.BallOrder returns true for any three balls and any number of places. Conditions: none.
-/
import Derived.Test.YtnfbngiabdlclaaRows
import Derived.Test.YtnfbngiabdlclaaLw5
import Derived.Test.YtnfbngiabdlclaaOp5
import Derived.Test.YtnfbngiabdlclaaSa2
import Derived.Test.YtnfbngiabdlclaaSp
namespace Go.Proofs.Ytnfbngiabdlclaa.ballOrder
open Go.ChangeShapes Go.WideShapes Go.ChangeAt Go.RowKit
open L (val)
set_option linter.unusedVariables false
set_option linter.unusedSimpArgs false

theorem own : ownKnob Try.prog.godebug = none := by kernel_rfl
theorem laidOut : laidOutB Try.prog = true := by kernel_rfl

set_option maxHeartbeats 16000000 in
set_option maxRecDepth 100000 in
theorem walkN (n0 n1 n2 n3 n4 n5 : Bool) (A0 A1 A2 A3 A4 A5 : Option Addr) (l0 l1 l2 l3 l4 l5 c0 c1 c2 c3 c4 c5 : Nat) (Qa Qb Qc q : Int) (hq0 : -9223372036854775808 ≤ q) (hq1 : q ≤ 9223372036854775807) (L0 L1 L2 L3 L4 L5 : List Nat) (w : World)
    (h0 : Nums w 0 (.slice A0 l0 c0) L0) (h1 : Nums w 0 (.slice A1 l1 c1) L1) (h2 : Nums w 0 (.slice A2 l2 c2) L2) (h3 : Nums w 0 (.slice A3 l3 c3) L3) (h4 : Nums w 0 (.slice A4 l4 c4) L4) (h5 : Nums w 0 (.slice A5 l5 c5) L5) :
    Calls Try.prog 4 #[.agg #[.bool n0, .slice A0 l0 c0, .bool n1, .slice A1 l1 c1, .int .i64 Qa], .agg #[.bool n2, .slice A2 l2 c2, .bool n3, .slice A3 l3 c3, .int .i64 Qb], .agg #[.bool n4, .slice A4 l4 c4, .bool n5, .slice A5 l5 c5, .int .i64 Qc], .int .i64 q] w fun e w' => e = .returned (.bool true) ∧ Below w.heap.size w w' := by
  obtain ⟨w0, hW, Ba, Bb, Bc, hB, hs⟩ := start3 w 27 27 27 #[.bool n0, .slice A0 l0 c0, .bool n1, .slice A1 l1 c1, .int .i64 Qa] #[.bool n2, .slice A2 l2 c2, .bool n3, .slice A3 l3 c3, .int .i64 Qb] #[.bool n4, .slice A4 l4 c4, .bool n5, .slice A5 l5 c5, .int .i64 Qc]
  have HB := hide hB
  have hsz : w.heap.size + 3 ≤ w0.heap.size := by omega
  clear hB hs
  obtain ⟨z0, HZ0⟩ : ∃ z, Hid (ival n0 (val W (L0.take 4)) = z) := ⟨_, hide rfl⟩
  obtain ⟨z1, HZ1⟩ : ∃ z, Hid (ival n1 (val W (L1.take 4)) = z) := ⟨_, hide rfl⟩
  obtain ⟨z2, HZ2⟩ : ∃ z, Hid (ival n2 (val W (L2.take 4)) = z) := ⟨_, hide rfl⟩
  obtain ⟨z3, HZ3⟩ : ∃ z, Hid (ival n3 (val W (L3.take 4)) = z) := ⟨_, hide rfl⟩
  obtain ⟨z4, HZ4⟩ : ∃ z, Hid (ival n4 (val W (L4.take 4)) = z) := ⟨_, hide rfl⟩
  obtain ⟨z5, HZ5⟩ : ∃ z, Hid (ival n5 (val W (L5.take 4)) = z) := ⟨_, hide rfl⟩
  obtain ⟨alo, Halo⟩ : ∃ z, Hid (min z0 z1 = z) := ⟨_, hide rfl⟩
  obtain ⟨ahi, Hahi⟩ : ∃ z, Hid (max z0 z1 = z) := ⟨_, hide rfl⟩
  obtain ⟨aq, Haq⟩ : ∃ z, Hid (bits .and .i64 (q) 255 = z) := ⟨_, hide rfl⟩
  have HRa : Hid (rightB alo ahi aq = true) := hide (rightB_iff.2 (by have h1 := bits_range (q) 255 (by omega); rw [show (((255 : Nat) : Int)) = 255 from rfl] at h1; have h2 := Haq.out; have h3 := Halo.out; have h4 := Hahi.out; omega))
  obtain ⟨blo, Hblo⟩ : ∃ z, Hid (min z2 z3 = z) := ⟨_, hide rfl⟩
  obtain ⟨bhi, Hbhi⟩ : ∃ z, Hid (max z2 z3 = z) := ⟨_, hide rfl⟩
  obtain ⟨bq, Hbq⟩ : ∃ z, Hid (bits .and .i64 (q / 256) 255 = z) := ⟨_, hide rfl⟩
  have HRb : Hid (rightB blo bhi bq = true) := hide (rightB_iff.2 (by have h1 := bits_range (q / 256) 255 (by omega); rw [show (((255 : Nat) : Int)) = 255 from rfl] at h1; have h2 := Hbq.out; have h3 := Hblo.out; have h4 := Hbhi.out; omega))
  obtain ⟨clo, Hclo⟩ : ∃ z, Hid (min z4 z5 = z) := ⟨_, hide rfl⟩
  obtain ⟨chi, Hchi⟩ : ∃ z, Hid (max z4 z5 = z) := ⟨_, hide rfl⟩
  obtain ⟨cq, Hcq⟩ : ∃ z, Hid (bits .and .i64 (q / 65536) 255 = z) := ⟨_, hide rfl⟩
  have HRc : Hid (rightB clo chi cq = true) := hide (rightB_iff.2 (by have h1 := bits_range (q / 65536) 255 (by omega); rw [show (((255 : Nat) : Int)) = 255 from rfl] at h1; have h2 := Hcq.out; have h3 := Hclo.out; have h4 := Hchi.out; omega))
  obtain ⟨i1, Hi1⟩ : ∃ b, Hid ((insB alo ahi aq blo bhi bq) = b) := ⟨_, hide rfl⟩
  obtain ⟨i2, Hi2⟩ : ∃ b, Hid ((insB blo bhi bq clo chi cq) = b) := ⟨_, hide rfl⟩
  obtain ⟨i3, Hi3⟩ : ∃ b, Hid ((insB alo ahi aq clo chi cq) = b) := ⟨_, hide rfl⟩
  obtain ⟨m1, Hm1⟩ : ∃ b, Hid ((metB alo ahi aq blo bhi bq) = b) := ⟨_, hide rfl⟩
  obtain ⟨m2, Hm2⟩ : ∃ b, Hid ((metB blo bhi bq alo ahi aq) = b) := ⟨_, hide rfl⟩
  obtain ⟨s1, Hs1⟩ : ∃ b, Hid ((insB alo ahi aq alo ahi aq) = b) := ⟨_, hide rfl⟩
  obtain ⟨s2, Hs2⟩ : ∃ b, Hid ((metB alo ahi aq alo ahi aq) = b) := ⟨_, hide rfl⟩
  have hs1 : s1 = true := by rw [← Hs1.out]; exact ins_self HRa.out
  have hs2 : s2 = true := by rw [← Hs2.out]; exact ins_met (ins_self HRa.out)
  subst hs1 hs2
  have HL1 : Hid (i1 = true → i2 = true → i3 = true) := hide (fun h h' => by rw [← Hi3.out]; exact ins_trans (Hi1.out.trans h) (Hi2.out.trans h'))
  have HL2 : Hid (i1 = true → m1 = true) := hide (fun h => by rw [← Hm1.out]; exact ins_met (Hi1.out.trans h))
  have hm : m1 = m2 := by rw [← Hm1.out, ← Hm2.out]; exact met_comm _ _ _ _ _ _
  have hmm : (m1 == m2) = true := by rw [hm, beq_iff_eq]
  obtain ⟨Bac0, Bac1, Bac2, Bac3, Bac4, -⟩ := Ba.five
  obtain ⟨Bbc0, Bbc1, Bbc2, Bbc3, Bbc4, -⟩ := Bb.five
  obtain ⟨Bcc0, Bcc1, Bcc2, Bcc3, Bcc4, -⟩ := Bc.five
  go_enter Try.func4, Try.ntmps4
  go_upto_region 1 with (fail)
  rw [← hW]
  clear hW
  have HP := shown5_calls w0
  have HPH := hide HP
  clear HP
  go_wp2_with fail
  refine HPH.out.mono ?_
  rintro e w1 ⟨hb, rfl⟩
  clear HPH
  clear Bac0 Bac1 Bac2 Bac3 Bac4 Bbc0 Bbc1 Bbc2 Bbc3 Bbc4 Bcc0 Bcc1 Bcc2 Bcc3 Bcc4
  have Ba := Ba.below hb Ba.lt
  have Bb := Bb.below hb Bb.lt
  have Bc := Bc.below hb Bc.lt
  have HB := hide (HB.out.trans (hb.mono HB.out.size))
  have hsz := Nat.le_trans hsz hb.size
  clear hb
  obtain ⟨Bac0, Bac1, Bac2, Bac3, Bac4, -⟩ := Ba.five
  obtain ⟨Bbc0, Bbc1, Bbc2, Bbc3, Bbc4, -⟩ := Bb.five
  obtain ⟨Bcc0, Bcc1, Bcc2, Bcc3, Bcc4, -⟩ := Bc.five
  have hsp := hsz
  have HP := right5_calls w1 n0 n1 A0 A1 l0 l1 c0 c1 Qa (q) L0 L1 (h0.below HB.out) (h1.below HB.out)
  rw [HZ0.out, HZ1.out, Halo.out, Hahi.out, Haq.out] at HP
  have HPH := hide HP
  clear HP
  go_wp2_with fail
  refine HPH.out.mono ?_
  rintro e w2 ⟨hb, N0, C0, j0, i0_, N1, C1, j1, i1_, rfl, hn0, hn1⟩
  clear HPH
  clear Bac0 Bac1 Bac2 Bac3 Bac4 Bbc0 Bbc1 Bbc2 Bbc3 Bbc4 Bcc0 Bcc1 Bcc2 Bcc3 Bcc4
  have Ba := Ba.below hb Ba.lt
  have Bb := Bb.below hb Bb.lt
  have Bc := Bc.below hb Bc.lt
  have HB := hide (HB.out.trans (hb.mono HB.out.size))
  have hsz := Nat.le_trans hsz hb.size
  clear hb
  obtain ⟨Bac0, Bac1, Bac2, Bac3, Bac4, -⟩ := Ba.five
  obtain ⟨Bbc0, Bbc1, Bbc2, Bbc3, Bbc4, -⟩ := Bb.five
  obtain ⟨Bcc0, Bcc1, Bcc2, Bcc3, Bcc4, -⟩ := Bc.five
  have hn0 := hn0.mono hsp
  have hn1 := hn1.mono hsp
  clear Bac0 Bac1 Bac2 Bac3 Bac4 Bbc0 Bbc1 Bbc2 Bbc3 Bbc4 Bcc0 Bcc1 Bcc2 Bcc3 Bcc4
  obtain ⟨Bac0, Bac1, Bac2, Bac3, Bac4, Baf0, Baf1, Baf2, Baf3, Baf4⟩ := Ba.five
  obtain ⟨w3, hW, Ban, kq, kb, ks, kg, kn⟩ := set5_qn Ba (.bool N0) (.slice C0 j0 i0_) (.bool N1) (.slice C1 j1 i1_) (.int .i64 aq)
  have Bb := kg _ _ _ (by omega) Bb
  have Bc := kg _ _ _ (by omega) Bc
  have Ba := Ban
  have HB := hide (kb _ _ HB.out (by omega))
  have hsz := Nat.le_trans hsz (Nat.le_of_eq ks.symm)
  have hn0 := kq _ _ _ _ _ _ _ (by omega) hn0
  have hn1 := kq _ _ _ _ _ _ _ (by omega) hn1
  clear kq kb ks kg kn
  go_upto_region 3 with (fail)
  rw [← hW]
  clear hW Bac0 Baf0 Bac1 Baf1 Bac2 Baf2 Bac3 Baf3 Bac4 Baf4
  obtain ⟨Bac0, Bac1, Bac2, Bac3, Bac4, -⟩ := Ba.five
  obtain ⟨Bbc0, Bbc1, Bbc2, Bbc3, Bbc4, -⟩ := Bb.five
  obtain ⟨Bcc0, Bcc1, Bcc2, Bcc3, Bcc4, -⟩ := Bc.five
  have hsp := hsz
  have HP := right5_calls w3 n2 n3 A2 A3 l2 l3 c2 c3 Qb (q / 256) L2 L3 (h2.below HB.out) (h3.below HB.out)
  rw [HZ2.out, HZ3.out, Hblo.out, Hbhi.out, Hbq.out] at HP
  have HPH := hide HP
  clear HP
  go_wp2_with fail
  refine HPH.out.mono ?_
  rintro e w4 ⟨hb, N2, C2, j2, i2_, N3, C3, j3, i3_, rfl, hn2, hn3⟩
  clear HPH
  clear Bac0 Bac1 Bac2 Bac3 Bac4 Bbc0 Bbc1 Bbc2 Bbc3 Bbc4 Bcc0 Bcc1 Bcc2 Bcc3 Bcc4
  have Ba := Ba.below hb Ba.lt
  have Bb := Bb.below hb Bb.lt
  have Bc := Bc.below hb Bc.lt
  have hn0 := hn0.below hb
  have hn1 := hn1.below hb
  have HB := hide (HB.out.trans (hb.mono HB.out.size))
  have hsz := Nat.le_trans hsz hb.size
  clear hb
  obtain ⟨Bac0, Bac1, Bac2, Bac3, Bac4, -⟩ := Ba.five
  obtain ⟨Bbc0, Bbc1, Bbc2, Bbc3, Bbc4, -⟩ := Bb.five
  obtain ⟨Bcc0, Bcc1, Bcc2, Bcc3, Bcc4, -⟩ := Bc.five
  have hn2 := hn2.mono hsp
  have hn3 := hn3.mono hsp
  clear Bac0 Bac1 Bac2 Bac3 Bac4 Bbc0 Bbc1 Bbc2 Bbc3 Bbc4 Bcc0 Bcc1 Bcc2 Bcc3 Bcc4
  obtain ⟨Bbc0, Bbc1, Bbc2, Bbc3, Bbc4, Bbf0, Bbf1, Bbf2, Bbf3, Bbf4⟩ := Bb.five
  obtain ⟨w5, hW, Bbn, kq, kb, ks, kg, kn⟩ := set5_qn Bb (.bool N2) (.slice C2 j2 i2_) (.bool N3) (.slice C3 j3 i3_) (.int .i64 bq)
  have Ba := kg _ _ _ (by omega) Ba
  have Bc := kg _ _ _ (by omega) Bc
  have Bb := Bbn
  have HB := hide (kb _ _ HB.out (by omega))
  have hsz := Nat.le_trans hsz (Nat.le_of_eq ks.symm)
  have hn0 := kq _ _ _ _ _ _ _ (by omega) hn0
  have hn1 := kq _ _ _ _ _ _ _ (by omega) hn1
  have hn2 := kq _ _ _ _ _ _ _ (by omega) hn2
  have hn3 := kq _ _ _ _ _ _ _ (by omega) hn3
  clear kq kb ks kg kn
  go_upto_region 4 with (fail)
  rw [← hW]
  clear hW Bbc0 Bbf0 Bbc1 Bbf1 Bbc2 Bbf2 Bbc3 Bbf3 Bbc4 Bbf4
  obtain ⟨Bac0, Bac1, Bac2, Bac3, Bac4, -⟩ := Ba.five
  obtain ⟨Bbc0, Bbc1, Bbc2, Bbc3, Bbc4, -⟩ := Bb.five
  obtain ⟨Bcc0, Bcc1, Bcc2, Bcc3, Bcc4, -⟩ := Bc.five
  have hsp := hsz
  have HP := right5_calls w5 n4 n5 A4 A5 l4 l5 c4 c5 Qc (q / 65536) L4 L5 (h4.below HB.out) (h5.below HB.out)
  rw [HZ4.out, HZ5.out, Hclo.out, Hchi.out, Hcq.out] at HP
  have HPH := hide HP
  clear HP
  go_wp2_with fail
  refine HPH.out.mono ?_
  rintro e w6 ⟨hb, N4, C4, j4, i4_, N5, C5, j5, i5_, rfl, hn4, hn5⟩
  clear HPH
  clear Bac0 Bac1 Bac2 Bac3 Bac4 Bbc0 Bbc1 Bbc2 Bbc3 Bbc4 Bcc0 Bcc1 Bcc2 Bcc3 Bcc4
  have Ba := Ba.below hb Ba.lt
  have Bb := Bb.below hb Bb.lt
  have Bc := Bc.below hb Bc.lt
  have hn0 := hn0.below hb
  have hn1 := hn1.below hb
  have hn2 := hn2.below hb
  have hn3 := hn3.below hb
  have HB := hide (HB.out.trans (hb.mono HB.out.size))
  have hsz := Nat.le_trans hsz hb.size
  clear hb
  obtain ⟨Bac0, Bac1, Bac2, Bac3, Bac4, -⟩ := Ba.five
  obtain ⟨Bbc0, Bbc1, Bbc2, Bbc3, Bbc4, -⟩ := Bb.five
  obtain ⟨Bcc0, Bcc1, Bcc2, Bcc3, Bcc4, -⟩ := Bc.five
  have hn4 := hn4.mono hsp
  have hn5 := hn5.mono hsp
  clear Bac0 Bac1 Bac2 Bac3 Bac4 Bbc0 Bbc1 Bbc2 Bbc3 Bbc4 Bcc0 Bcc1 Bcc2 Bcc3 Bcc4
  obtain ⟨Bcc0, Bcc1, Bcc2, Bcc3, Bcc4, Bcf0, Bcf1, Bcf2, Bcf3, Bcf4⟩ := Bc.five
  obtain ⟨w7, hW, Bcn, kq, kb, ks, kg, kn⟩ := set5_qn Bc (.bool N4) (.slice C4 j4 i4_) (.bool N5) (.slice C5 j5 i5_) (.int .i64 cq)
  have Ba := kg _ _ _ (by omega) Ba
  have Bb := kg _ _ _ (by omega) Bb
  have Bc := Bcn
  have HB := hide (kb _ _ HB.out (by omega))
  have hsz := Nat.le_trans hsz (Nat.le_of_eq ks.symm)
  have hn0 := kq _ _ _ _ _ _ _ (by omega) hn0
  have hn1 := kq _ _ _ _ _ _ _ (by omega) hn1
  have hn2 := kq _ _ _ _ _ _ _ (by omega) hn2
  have hn3 := kq _ _ _ _ _ _ _ (by omega) hn3
  have hn4 := kq _ _ _ _ _ _ _ (by omega) hn4
  have hn5 := kq _ _ _ _ _ _ _ (by omega) hn5
  clear kq kb ks kg kn
  go_upto_region 5 with (fail)
  rw [← hW]
  clear hW Bcc0 Bcf0 Bcc1 Bcf1 Bcc2 Bcf2 Bcc3 Bcf3 Bcc4 Bcf4
  obtain ⟨Bac0, Bac1, Bac2, Bac3, Bac4, -⟩ := Ba.five
  obtain ⟨Bbc0, Bbc1, Bbc2, Bbc3, Bbc4, -⟩ := Bb.five
  obtain ⟨Bcc0, Bcc1, Bcc2, Bcc3, Bcc4, -⟩ := Bc.five
  cases i1 with
  | false =>
    have HP := ins_calls aq bq hn0.q hn1.q hn2.q hn3.q (by omega)
    rw [Hi1.out] at HP
    have HPH := hide HP
    clear HP
    go_wp2_with fail
    refine HPH.out.mono ?_
    rintro e w8 ⟨hb, rfl⟩
    clear HPH
    clear Bac0 Bac1 Bac2 Bac3 Bac4 Bbc0 Bbc1 Bbc2 Bbc3 Bbc4 Bcc0 Bcc1 Bcc2 Bcc3 Bcc4
    have Ba := Ba.below hb Ba.lt
    have Bb := Bb.below hb Bb.lt
    have Bc := Bc.below hb Bc.lt
    have hn0 := hn0.below hb
    have hn1 := hn1.below hb
    have hn2 := hn2.below hb
    have hn3 := hn3.below hb
    have hn4 := hn4.below hb
    have hn5 := hn5.below hb
    have HB := hide (HB.out.trans (hb.mono HB.out.size))
    have hsz := Nat.le_trans hsz hb.size
    clear hb
    obtain ⟨Bac0, Bac1, Bac2, Bac3, Bac4, -⟩ := Ba.five
    obtain ⟨Bbc0, Bbc1, Bbc2, Bbc3, Bbc4, -⟩ := Bb.five
    obtain ⟨Bcc0, Bcc1, Bcc2, Bcc3, Bcc4, -⟩ := Bc.five
    go_upto_region 6 with (fail)
    have HP := ins_calls aq bq hn0.q hn1.q hn2.q hn3.q (by omega)
    rw [Hi1.out] at HP
    have HPH := hide HP
    clear HP
    go_wp2_with fail
    refine HPH.out.mono ?_
    rintro e w9 ⟨hb, rfl⟩
    clear HPH
    clear Bac0 Bac1 Bac2 Bac3 Bac4 Bbc0 Bbc1 Bbc2 Bbc3 Bbc4 Bcc0 Bcc1 Bcc2 Bcc3 Bcc4
    have Ba := Ba.below hb Ba.lt
    have Bb := Bb.below hb Bb.lt
    have Bc := Bc.below hb Bc.lt
    have hn0 := hn0.below hb
    have hn1 := hn1.below hb
    have hn2 := hn2.below hb
    have hn3 := hn3.below hb
    have hn4 := hn4.below hb
    have hn5 := hn5.below hb
    have HB := hide (HB.out.trans (hb.mono HB.out.size))
    have hsz := Nat.le_trans hsz hb.size
    clear hb
    obtain ⟨Bac0, Bac1, Bac2, Bac3, Bac4, -⟩ := Ba.five
    obtain ⟨Bbc0, Bbc1, Bbc2, Bbc3, Bbc4, -⟩ := Bb.five
    obtain ⟨Bcc0, Bcc1, Bcc2, Bcc3, Bcc4, -⟩ := Bc.five
    go_upto_region 7 with (fail)
    have HS := hide (Below.refl w9.heap.size w9).drew
    have hn0 := hn0.q
    have hn1 := hn1.q
    have hn2 := hn2.q
    have hn3 := hn3.q
    have hn4 := hn4.q
    have hn5 := hn5.q
    have HE0 := hide (met_calls aq bq (hn0.at_ HS) (hn1.at_ HS) (hn2.at_ HS) (hn3.at_ HS) (by omega))
    rw [Hm1.out] at HE0
    have tok0 : True := trivial
    go_region_held3 (fun w' => w'.cell? ⟨w.heap.size, 0, none⟩ = some (.bool N0) ∧ w'.cell? ⟨w.heap.size, 1, none⟩ = some (.slice C0 j0 i0_) ∧ w'.cell? ⟨w.heap.size, 2, none⟩ = some (.bool N1) ∧ w'.cell? ⟨w.heap.size, 3, none⟩ = some (.slice C1 j1 i1_) ∧ w'.cell? ⟨w.heap.size, 4, none⟩ = some (.int .i64 aq) ∧ w'.cell? ⟨w.heap.size + 1, 0, none⟩ = some (.bool N2) ∧ w'.cell? ⟨w.heap.size + 1, 1, none⟩ = some (.slice C2 j2 i2_) ∧ w'.cell? ⟨w.heap.size + 1, 2, none⟩ = some (.bool N3) ∧ w'.cell? ⟨w.heap.size + 1, 3, none⟩ = some (.slice C3 j3 i3_) ∧ w'.cell? ⟨w.heap.size + 1, 4, none⟩ = some (.int .i64 bq)) (go_keep)
      (first
        | (go_at_call 14; have _t := tok0; (with_reducible refine HE0.out.mono ?_); rintro e v0 ⟨hb, rfl⟩
           have Ba := Ba.drew.below hb Ba.lt
           have Bb := Bb.drew.below hb Bb.lt
           have HS := hide (HS.out.trans (hb.mono HS.out.size))
           obtain ⟨Bac0, Bac1, Bac2, Bac3, Bac4, -⟩ := Ba.five
           obtain ⟨Bbc0, Bbc1, Bbc2, Bbc3, Bbc4, -⟩ := Bb.five
           have HE1 := hide (met_calls bq aq (hn2.at_ HS) (hn3.at_ HS) (hn0.at_ HS) (hn1.at_ HS) (by omega))
           rw [Hm2.out] at HE1
           clear _t tok0
           have tok1 : True := trivial)
        | (go_at_call 14; have _t := tok1; (with_reducible refine HE1.out.mono ?_); rintro e v1 ⟨hb, rfl⟩
           have Ba := Ba.below hb Ba.lt
           have Bb := Bb.below hb Bb.lt
           have HS := hide (HS.out.trans (hb.mono HS.out.size))
           obtain ⟨Bac0, Bac1, Bac2, Bac3, Bac4, -⟩ := Ba.five
           obtain ⟨Bbc0, Bbc1, Bbc2, Bbc3, Bbc4, -⟩ := Bb.five
           have HE2 := hide (ins_calls aq aq (hn0.at_ HS) (hn1.at_ HS) (hn0.at_ HS) (hn1.at_ HS) (by omega))
           rw [Hs1.out] at HE2
           clear _t tok1
           have tok2 : True := trivial)
        | (go_at_call 17; have _t := tok2; (with_reducible refine HE2.out.mono ?_); rintro e v2 ⟨hb, rfl⟩
           have Ba := Ba.below hb Ba.lt
           have Bb := Bb.below hb Bb.lt
           have HS := hide (HS.out.trans (hb.mono HS.out.size))
           obtain ⟨Bac0, Bac1, Bac2, Bac3, Bac4, -⟩ := Ba.five
           obtain ⟨Bbc0, Bbc1, Bbc2, Bbc3, Bbc4, -⟩ := Bb.five
           have HE3 := hide (met_calls aq aq (hn0.at_ HS) (hn1.at_ HS) (hn0.at_ HS) (hn1.at_ HS) (by omega))
           rw [Hs2.out] at HE3
           clear _t tok2
           have tok3 : True := trivial)
        | (go_at_call 14; have _t := tok3; (with_reducible refine HE3.out.mono ?_); rintro e v3 ⟨hb, rfl⟩
           have Ba := Ba.below hb Ba.lt
           have Bb := Bb.below hb Bb.lt
           have HS := hide (HS.out.trans (hb.mono HS.out.size))
           obtain ⟨Bac0, Bac1, Bac2, Bac3, Bac4, -⟩ := Ba.five
           obtain ⟨Bbc0, Bbc1, Bbc2, Bbc3, Bbc4, -⟩ := Bb.five))
    all_goals go_wp2_with fail
    all_goals go_ret
    all_goals exact ⟨by first | rfl | (rw [hmm]), HB.out.trans (HS.out.mono HB.out.size)⟩
  | true =>
    have hm1 : m1 = true := HL2.out rfl
    subst hm1
    subst hm
    cases i2 with
    | false =>
      have HP := ins_calls aq bq hn0.q hn1.q hn2.q hn3.q (by omega)
      rw [Hi1.out] at HP
      have HPH := hide HP
      clear HP
      go_wp2_with fail
      refine HPH.out.mono ?_
      rintro e w8 ⟨hb, rfl⟩
      clear HPH
      clear Bac0 Bac1 Bac2 Bac3 Bac4 Bbc0 Bbc1 Bbc2 Bbc3 Bbc4 Bcc0 Bcc1 Bcc2 Bcc3 Bcc4
      have Ba := Ba.below hb Ba.lt
      have Bb := Bb.below hb Bb.lt
      have Bc := Bc.below hb Bc.lt
      have hn0 := hn0.below hb
      have hn1 := hn1.below hb
      have hn2 := hn2.below hb
      have hn3 := hn3.below hb
      have hn4 := hn4.below hb
      have hn5 := hn5.below hb
      have HB := hide (HB.out.trans (hb.mono HB.out.size))
      have hsz := Nat.le_trans hsz hb.size
      clear hb
      obtain ⟨Bac0, Bac1, Bac2, Bac3, Bac4, -⟩ := Ba.five
      obtain ⟨Bbc0, Bbc1, Bbc2, Bbc3, Bbc4, -⟩ := Bb.five
      obtain ⟨Bcc0, Bcc1, Bcc2, Bcc3, Bcc4, -⟩ := Bc.five
      have HP := ins_calls bq cq hn2.q hn3.q hn4.q hn5.q (by omega)
      rw [Hi2.out] at HP
      have HPH := hide HP
      clear HP
      go_wp2_with fail
      refine HPH.out.mono ?_
      rintro e w9 ⟨hb, rfl⟩
      clear HPH
      clear Bac0 Bac1 Bac2 Bac3 Bac4 Bbc0 Bbc1 Bbc2 Bbc3 Bbc4 Bcc0 Bcc1 Bcc2 Bcc3 Bcc4
      have Ba := Ba.below hb Ba.lt
      have Bb := Bb.below hb Bb.lt
      have Bc := Bc.below hb Bc.lt
      have hn0 := hn0.below hb
      have hn1 := hn1.below hb
      have hn2 := hn2.below hb
      have hn3 := hn3.below hb
      have hn4 := hn4.below hb
      have hn5 := hn5.below hb
      have HB := hide (HB.out.trans (hb.mono HB.out.size))
      have hsz := Nat.le_trans hsz hb.size
      clear hb
      obtain ⟨Bac0, Bac1, Bac2, Bac3, Bac4, -⟩ := Ba.five
      obtain ⟨Bbc0, Bbc1, Bbc2, Bbc3, Bbc4, -⟩ := Bb.five
      obtain ⟨Bcc0, Bcc1, Bcc2, Bcc3, Bcc4, -⟩ := Bc.five
      go_upto_region 6 with (fail)
      have HP := ins_calls aq bq hn0.q hn1.q hn2.q hn3.q (by omega)
      rw [Hi1.out] at HP
      have HPH := hide HP
      clear HP
      go_wp2_with fail
      refine HPH.out.mono ?_
      rintro e w10 ⟨hb, rfl⟩
      clear HPH
      clear Bac0 Bac1 Bac2 Bac3 Bac4 Bbc0 Bbc1 Bbc2 Bbc3 Bbc4 Bcc0 Bcc1 Bcc2 Bcc3 Bcc4
      have Ba := Ba.below hb Ba.lt
      have Bb := Bb.below hb Bb.lt
      have Bc := Bc.below hb Bc.lt
      have hn0 := hn0.below hb
      have hn1 := hn1.below hb
      have hn2 := hn2.below hb
      have hn3 := hn3.below hb
      have hn4 := hn4.below hb
      have hn5 := hn5.below hb
      have HB := hide (HB.out.trans (hb.mono HB.out.size))
      have hsz := Nat.le_trans hsz hb.size
      clear hb
      obtain ⟨Bac0, Bac1, Bac2, Bac3, Bac4, -⟩ := Ba.five
      obtain ⟨Bbc0, Bbc1, Bbc2, Bbc3, Bbc4, -⟩ := Bb.five
      obtain ⟨Bcc0, Bcc1, Bcc2, Bcc3, Bcc4, -⟩ := Bc.five
      have HP := met_calls aq bq hn0.q hn1.q hn2.q hn3.q (by omega)
      rw [Hm1.out] at HP
      have HPH := hide HP
      clear HP
      go_wp2_with fail
      refine HPH.out.mono ?_
      rintro e w11 ⟨hb, rfl⟩
      clear HPH
      clear Bac0 Bac1 Bac2 Bac3 Bac4 Bbc0 Bbc1 Bbc2 Bbc3 Bbc4 Bcc0 Bcc1 Bcc2 Bcc3 Bcc4
      have Ba := Ba.below hb Ba.lt
      have Bb := Bb.below hb Bb.lt
      have Bc := Bc.below hb Bc.lt
      have hn0 := hn0.below hb
      have hn1 := hn1.below hb
      have hn2 := hn2.below hb
      have hn3 := hn3.below hb
      have hn4 := hn4.below hb
      have hn5 := hn5.below hb
      have HB := hide (HB.out.trans (hb.mono HB.out.size))
      have hsz := Nat.le_trans hsz hb.size
      clear hb
      obtain ⟨Bac0, Bac1, Bac2, Bac3, Bac4, -⟩ := Ba.five
      obtain ⟨Bbc0, Bbc1, Bbc2, Bbc3, Bbc4, -⟩ := Bb.five
      obtain ⟨Bcc0, Bcc1, Bcc2, Bcc3, Bcc4, -⟩ := Bc.five
      go_upto_region 7 with (fail)
      have HS := hide (Below.refl w11.heap.size w11).drew
      have hn0 := hn0.q
      have hn1 := hn1.q
      have hn2 := hn2.q
      have hn3 := hn3.q
      have hn4 := hn4.q
      have hn5 := hn5.q
      have HE0 := hide (met_calls aq bq (hn0.at_ HS) (hn1.at_ HS) (hn2.at_ HS) (hn3.at_ HS) (by omega))
      rw [Hm1.out] at HE0
      have tok0 : True := trivial
      go_region_held3 (fun w' => w'.cell? ⟨w.heap.size, 0, none⟩ = some (.bool N0) ∧ w'.cell? ⟨w.heap.size, 1, none⟩ = some (.slice C0 j0 i0_) ∧ w'.cell? ⟨w.heap.size, 2, none⟩ = some (.bool N1) ∧ w'.cell? ⟨w.heap.size, 3, none⟩ = some (.slice C1 j1 i1_) ∧ w'.cell? ⟨w.heap.size, 4, none⟩ = some (.int .i64 aq) ∧ w'.cell? ⟨w.heap.size + 1, 0, none⟩ = some (.bool N2) ∧ w'.cell? ⟨w.heap.size + 1, 1, none⟩ = some (.slice C2 j2 i2_) ∧ w'.cell? ⟨w.heap.size + 1, 2, none⟩ = some (.bool N3) ∧ w'.cell? ⟨w.heap.size + 1, 3, none⟩ = some (.slice C3 j3 i3_) ∧ w'.cell? ⟨w.heap.size + 1, 4, none⟩ = some (.int .i64 bq)) (go_keep)
        (first
          | (go_at_call 14; have _t := tok0; (with_reducible refine HE0.out.mono ?_); rintro e v0 ⟨hb, rfl⟩
             have Ba := Ba.drew.below hb Ba.lt
             have Bb := Bb.drew.below hb Bb.lt
             have HS := hide (HS.out.trans (hb.mono HS.out.size))
             obtain ⟨Bac0, Bac1, Bac2, Bac3, Bac4, -⟩ := Ba.five
             obtain ⟨Bbc0, Bbc1, Bbc2, Bbc3, Bbc4, -⟩ := Bb.five
             have HE1 := hide (met_calls bq aq (hn2.at_ HS) (hn3.at_ HS) (hn0.at_ HS) (hn1.at_ HS) (by omega))
             rw [Hm2.out] at HE1
             clear _t tok0
             have tok1 : True := trivial)
          | (go_at_call 14; have _t := tok1; (with_reducible refine HE1.out.mono ?_); rintro e v1 ⟨hb, rfl⟩
             have Ba := Ba.below hb Ba.lt
             have Bb := Bb.below hb Bb.lt
             have HS := hide (HS.out.trans (hb.mono HS.out.size))
             obtain ⟨Bac0, Bac1, Bac2, Bac3, Bac4, -⟩ := Ba.five
             obtain ⟨Bbc0, Bbc1, Bbc2, Bbc3, Bbc4, -⟩ := Bb.five
             have HE2 := hide (ins_calls aq aq (hn0.at_ HS) (hn1.at_ HS) (hn0.at_ HS) (hn1.at_ HS) (by omega))
             rw [Hs1.out] at HE2
             clear _t tok1
             have tok2 : True := trivial)
          | (go_at_call 17; have _t := tok2; (with_reducible refine HE2.out.mono ?_); rintro e v2 ⟨hb, rfl⟩
             have Ba := Ba.below hb Ba.lt
             have Bb := Bb.below hb Bb.lt
             have HS := hide (HS.out.trans (hb.mono HS.out.size))
             obtain ⟨Bac0, Bac1, Bac2, Bac3, Bac4, -⟩ := Ba.five
             obtain ⟨Bbc0, Bbc1, Bbc2, Bbc3, Bbc4, -⟩ := Bb.five
             have HE3 := hide (met_calls aq aq (hn0.at_ HS) (hn1.at_ HS) (hn0.at_ HS) (hn1.at_ HS) (by omega))
             rw [Hs2.out] at HE3
             clear _t tok2
             have tok3 : True := trivial)
          | (go_at_call 14; have _t := tok3; (with_reducible refine HE3.out.mono ?_); rintro e v3 ⟨hb, rfl⟩
             have Ba := Ba.below hb Ba.lt
             have Bb := Bb.below hb Bb.lt
             have HS := hide (HS.out.trans (hb.mono HS.out.size))
             obtain ⟨Bac0, Bac1, Bac2, Bac3, Bac4, -⟩ := Ba.five
             obtain ⟨Bbc0, Bbc1, Bbc2, Bbc3, Bbc4, -⟩ := Bb.five))
      all_goals go_wp2_with fail
      all_goals go_ret
      all_goals exact ⟨by first | rfl | (rw [hmm]), HB.out.trans (HS.out.mono HB.out.size)⟩
    | true =>
      have hi3 : i3 = true := HL1.out rfl rfl
      subst hi3
      have HP := ins_calls aq bq hn0.q hn1.q hn2.q hn3.q (by omega)
      rw [Hi1.out] at HP
      have HPH := hide HP
      clear HP
      go_wp2_with fail
      refine HPH.out.mono ?_
      rintro e w8 ⟨hb, rfl⟩
      clear HPH
      clear Bac0 Bac1 Bac2 Bac3 Bac4 Bbc0 Bbc1 Bbc2 Bbc3 Bbc4 Bcc0 Bcc1 Bcc2 Bcc3 Bcc4
      have Ba := Ba.below hb Ba.lt
      have Bb := Bb.below hb Bb.lt
      have Bc := Bc.below hb Bc.lt
      have hn0 := hn0.below hb
      have hn1 := hn1.below hb
      have hn2 := hn2.below hb
      have hn3 := hn3.below hb
      have hn4 := hn4.below hb
      have hn5 := hn5.below hb
      have HB := hide (HB.out.trans (hb.mono HB.out.size))
      have hsz := Nat.le_trans hsz hb.size
      clear hb
      obtain ⟨Bac0, Bac1, Bac2, Bac3, Bac4, -⟩ := Ba.five
      obtain ⟨Bbc0, Bbc1, Bbc2, Bbc3, Bbc4, -⟩ := Bb.five
      obtain ⟨Bcc0, Bcc1, Bcc2, Bcc3, Bcc4, -⟩ := Bc.five
      have HP := ins_calls bq cq hn2.q hn3.q hn4.q hn5.q (by omega)
      rw [Hi2.out] at HP
      have HPH := hide HP
      clear HP
      go_wp2_with fail
      refine HPH.out.mono ?_
      rintro e w9 ⟨hb, rfl⟩
      clear HPH
      clear Bac0 Bac1 Bac2 Bac3 Bac4 Bbc0 Bbc1 Bbc2 Bbc3 Bbc4 Bcc0 Bcc1 Bcc2 Bcc3 Bcc4
      have Ba := Ba.below hb Ba.lt
      have Bb := Bb.below hb Bb.lt
      have Bc := Bc.below hb Bc.lt
      have hn0 := hn0.below hb
      have hn1 := hn1.below hb
      have hn2 := hn2.below hb
      have hn3 := hn3.below hb
      have hn4 := hn4.below hb
      have hn5 := hn5.below hb
      have HB := hide (HB.out.trans (hb.mono HB.out.size))
      have hsz := Nat.le_trans hsz hb.size
      clear hb
      obtain ⟨Bac0, Bac1, Bac2, Bac3, Bac4, -⟩ := Ba.five
      obtain ⟨Bbc0, Bbc1, Bbc2, Bbc3, Bbc4, -⟩ := Bb.five
      obtain ⟨Bcc0, Bcc1, Bcc2, Bcc3, Bcc4, -⟩ := Bc.five
      have HP := ins_calls aq cq hn0.q hn1.q hn4.q hn5.q (by omega)
      rw [Hi3.out] at HP
      have HPH := hide HP
      clear HP
      go_wp2_with fail
      refine HPH.out.mono ?_
      rintro e w10 ⟨hb, rfl⟩
      clear HPH
      clear Bac0 Bac1 Bac2 Bac3 Bac4 Bbc0 Bbc1 Bbc2 Bbc3 Bbc4 Bcc0 Bcc1 Bcc2 Bcc3 Bcc4
      have Ba := Ba.below hb Ba.lt
      have Bb := Bb.below hb Bb.lt
      have Bc := Bc.below hb Bc.lt
      have hn0 := hn0.below hb
      have hn1 := hn1.below hb
      have hn2 := hn2.below hb
      have hn3 := hn3.below hb
      have hn4 := hn4.below hb
      have hn5 := hn5.below hb
      have HB := hide (HB.out.trans (hb.mono HB.out.size))
      have hsz := Nat.le_trans hsz hb.size
      clear hb
      obtain ⟨Bac0, Bac1, Bac2, Bac3, Bac4, -⟩ := Ba.five
      obtain ⟨Bbc0, Bbc1, Bbc2, Bbc3, Bbc4, -⟩ := Bb.five
      obtain ⟨Bcc0, Bcc1, Bcc2, Bcc3, Bcc4, -⟩ := Bc.five
      go_upto_region 6 with (fail)
      have HP := ins_calls aq bq hn0.q hn1.q hn2.q hn3.q (by omega)
      rw [Hi1.out] at HP
      have HPH := hide HP
      clear HP
      go_wp2_with fail
      refine HPH.out.mono ?_
      rintro e w11 ⟨hb, rfl⟩
      clear HPH
      clear Bac0 Bac1 Bac2 Bac3 Bac4 Bbc0 Bbc1 Bbc2 Bbc3 Bbc4 Bcc0 Bcc1 Bcc2 Bcc3 Bcc4
      have Ba := Ba.below hb Ba.lt
      have Bb := Bb.below hb Bb.lt
      have Bc := Bc.below hb Bc.lt
      have hn0 := hn0.below hb
      have hn1 := hn1.below hb
      have hn2 := hn2.below hb
      have hn3 := hn3.below hb
      have hn4 := hn4.below hb
      have hn5 := hn5.below hb
      have HB := hide (HB.out.trans (hb.mono HB.out.size))
      have hsz := Nat.le_trans hsz hb.size
      clear hb
      obtain ⟨Bac0, Bac1, Bac2, Bac3, Bac4, -⟩ := Ba.five
      obtain ⟨Bbc0, Bbc1, Bbc2, Bbc3, Bbc4, -⟩ := Bb.five
      obtain ⟨Bcc0, Bcc1, Bcc2, Bcc3, Bcc4, -⟩ := Bc.five
      have HP := met_calls aq bq hn0.q hn1.q hn2.q hn3.q (by omega)
      rw [Hm1.out] at HP
      have HPH := hide HP
      clear HP
      go_wp2_with fail
      refine HPH.out.mono ?_
      rintro e w12 ⟨hb, rfl⟩
      clear HPH
      clear Bac0 Bac1 Bac2 Bac3 Bac4 Bbc0 Bbc1 Bbc2 Bbc3 Bbc4 Bcc0 Bcc1 Bcc2 Bcc3 Bcc4
      have Ba := Ba.below hb Ba.lt
      have Bb := Bb.below hb Bb.lt
      have Bc := Bc.below hb Bc.lt
      have hn0 := hn0.below hb
      have hn1 := hn1.below hb
      have hn2 := hn2.below hb
      have hn3 := hn3.below hb
      have hn4 := hn4.below hb
      have hn5 := hn5.below hb
      have HB := hide (HB.out.trans (hb.mono HB.out.size))
      have hsz := Nat.le_trans hsz hb.size
      clear hb
      obtain ⟨Bac0, Bac1, Bac2, Bac3, Bac4, -⟩ := Ba.five
      obtain ⟨Bbc0, Bbc1, Bbc2, Bbc3, Bbc4, -⟩ := Bb.five
      obtain ⟨Bcc0, Bcc1, Bcc2, Bcc3, Bcc4, -⟩ := Bc.five
      go_upto_region 7 with (fail)
      have HS := hide (Below.refl w12.heap.size w12).drew
      have hn0 := hn0.q
      have hn1 := hn1.q
      have hn2 := hn2.q
      have hn3 := hn3.q
      have hn4 := hn4.q
      have hn5 := hn5.q
      have HE0 := hide (met_calls aq bq (hn0.at_ HS) (hn1.at_ HS) (hn2.at_ HS) (hn3.at_ HS) (by omega))
      rw [Hm1.out] at HE0
      have tok0 : True := trivial
      go_region_held3 (fun w' => w'.cell? ⟨w.heap.size, 0, none⟩ = some (.bool N0) ∧ w'.cell? ⟨w.heap.size, 1, none⟩ = some (.slice C0 j0 i0_) ∧ w'.cell? ⟨w.heap.size, 2, none⟩ = some (.bool N1) ∧ w'.cell? ⟨w.heap.size, 3, none⟩ = some (.slice C1 j1 i1_) ∧ w'.cell? ⟨w.heap.size, 4, none⟩ = some (.int .i64 aq) ∧ w'.cell? ⟨w.heap.size + 1, 0, none⟩ = some (.bool N2) ∧ w'.cell? ⟨w.heap.size + 1, 1, none⟩ = some (.slice C2 j2 i2_) ∧ w'.cell? ⟨w.heap.size + 1, 2, none⟩ = some (.bool N3) ∧ w'.cell? ⟨w.heap.size + 1, 3, none⟩ = some (.slice C3 j3 i3_) ∧ w'.cell? ⟨w.heap.size + 1, 4, none⟩ = some (.int .i64 bq)) (go_keep)
        (first
          | (go_at_call 14; have _t := tok0; (with_reducible refine HE0.out.mono ?_); rintro e v0 ⟨hb, rfl⟩
             have Ba := Ba.drew.below hb Ba.lt
             have Bb := Bb.drew.below hb Bb.lt
             have HS := hide (HS.out.trans (hb.mono HS.out.size))
             obtain ⟨Bac0, Bac1, Bac2, Bac3, Bac4, -⟩ := Ba.five
             obtain ⟨Bbc0, Bbc1, Bbc2, Bbc3, Bbc4, -⟩ := Bb.five
             have HE1 := hide (met_calls bq aq (hn2.at_ HS) (hn3.at_ HS) (hn0.at_ HS) (hn1.at_ HS) (by omega))
             rw [Hm2.out] at HE1
             clear _t tok0
             have tok1 : True := trivial)
          | (go_at_call 14; have _t := tok1; (with_reducible refine HE1.out.mono ?_); rintro e v1 ⟨hb, rfl⟩
             have Ba := Ba.below hb Ba.lt
             have Bb := Bb.below hb Bb.lt
             have HS := hide (HS.out.trans (hb.mono HS.out.size))
             obtain ⟨Bac0, Bac1, Bac2, Bac3, Bac4, -⟩ := Ba.five
             obtain ⟨Bbc0, Bbc1, Bbc2, Bbc3, Bbc4, -⟩ := Bb.five
             have HE2 := hide (ins_calls aq aq (hn0.at_ HS) (hn1.at_ HS) (hn0.at_ HS) (hn1.at_ HS) (by omega))
             rw [Hs1.out] at HE2
             clear _t tok1
             have tok2 : True := trivial)
          | (go_at_call 17; have _t := tok2; (with_reducible refine HE2.out.mono ?_); rintro e v2 ⟨hb, rfl⟩
             have Ba := Ba.below hb Ba.lt
             have Bb := Bb.below hb Bb.lt
             have HS := hide (HS.out.trans (hb.mono HS.out.size))
             obtain ⟨Bac0, Bac1, Bac2, Bac3, Bac4, -⟩ := Ba.five
             obtain ⟨Bbc0, Bbc1, Bbc2, Bbc3, Bbc4, -⟩ := Bb.five
             have HE3 := hide (met_calls aq aq (hn0.at_ HS) (hn1.at_ HS) (hn0.at_ HS) (hn1.at_ HS) (by omega))
             rw [Hs2.out] at HE3
             clear _t tok2
             have tok3 : True := trivial)
          | (go_at_call 14; have _t := tok3; (with_reducible refine HE3.out.mono ?_); rintro e v3 ⟨hb, rfl⟩
             have Ba := Ba.below hb Ba.lt
             have Bb := Bb.below hb Bb.lt
             have HS := hide (HS.out.trans (hb.mono HS.out.size))
             obtain ⟨Bac0, Bac1, Bac2, Bac3, Bac4, -⟩ := Ba.five
             obtain ⟨Bbc0, Bbc1, Bbc2, Bbc3, Bbc4, -⟩ := Bb.five))
      all_goals go_wp2_with fail
      all_goals go_ret
      all_goals exact ⟨by first | rfl | (rw [hmm]), HB.out.trans (HS.out.mono HB.out.size)⟩

theorem walk (w : World) (n0 : Bool) (A0 : Option Addr) (l0 c0 : Nat) (m0 : Bool) (B0 : Option Addr) (j0 d0 : Nat) (x0 : Int) (s0 : ∃ L, Nums w 0 (.slice A0 l0 c0) L) (t0 : ∃ L, Nums w 0 (.slice B0 j0 d0) L) (w0 : (Lit.int .i64 x0).wf = true)
    (n1 : Bool) (A1 : Option Addr) (l1 c1 : Nat) (m1 : Bool) (B1 : Option Addr) (j1 d1 : Nat) (x1 : Int) (s1 : ∃ L, Nums w 0 (.slice A1 l1 c1) L) (t1 : ∃ L, Nums w 0 (.slice B1 j1 d1) L) (w1 : (Lit.int .i64 x1).wf = true)
    (n2 : Bool) (A2 : Option Addr) (l2 c2 : Nat) (m2 : Bool) (B2 : Option Addr) (j2 d2 : Nat) (x2 : Int) (s2 : ∃ L, Nums w 0 (.slice A2 l2 c2) L) (t2 : ∃ L, Nums w 0 (.slice B2 j2 d2) L) (w2 : (Lit.int .i64 x2).wf = true)
    (q : Int) (w3 : (Lit.int .i64 q).wf = true) :
    Calls Try.prog 4 #[.agg #[.bool n0, .slice A0 l0 c0, .bool m0, .slice B0 j0 d0, .int .i64 x0], .agg #[.bool n1, .slice A1 l1 c1, .bool m1, .slice B1 j1 d1, .int .i64 x1], .agg #[.bool n2, .slice A2 l2 c2, .bool m2, .slice B2 j2 d2, .int .i64 x2], .int .i64 q] w fun e w' => e = .returned (.bool true) ∧ Below w.heap.size w w' := by
  obtain ⟨L0, h0⟩ := s0
  obtain ⟨L1, h1⟩ := t0
  obtain ⟨L2, h2⟩ := s1
  obtain ⟨L3, h3⟩ := t1
  obtain ⟨L4, h4⟩ := s2
  obtain ⟨L5, h5⟩ := t2
  have hc := bounds_i64 w3
  exact walkN n0 m0 n1 m1 n2 m2 A0 B0 A1 B1 A2 B2 l0 j0 l1 j1 l2 j2 c0 d0 c1 d1 c2 d2 x0 x1 x2 q hc.1 hc.2 L0 L1 L2 L3 L4 L5 w h0 h1 h2 h3 h4 h5

/-! ### the row -/
set_option maxRecDepth 100000 in
theorem lifted (os : Os) (started : os.Started) (H : Type) (enc : TypeId × Value → H) :
    ReturnsInHanded {} Try.checked os 4 .any (Rows.ballOrderSpec.pre6 enc Try.prog Try.f4 Rows.ballOrderRow.domain false) (Rows.ballOrderSpec.post enc Try.prog Try.f4 false true false false) := by
  refine returnsInHanded_of_change (C := Try.checked) own started (by kernel_rfl) Try.func4
    (ChangeSpec.witness6 (enc := enc) (C := Try.checked) false ⟨#[], #[.agg #[.bool false, .slice none 0 0, .bool false, .slice none 0 0, .int .i64 0], .agg #[.bool false, .slice none 0 0, .bool false, .slice none 0 0, .int .i64 0], .agg #[.bool false, .slice none 0 0, .bool false, .slice none 0 0, .int .i64 0], .int .i64 0], []⟩ 8 (by kernel_rfl) (by kernel_rfl) (by kernel_rfl) (by kernel_rfl)) ?_
  intro W base args ds gs before hval0 hW hcnd _
  have hval : ∀ (j : Nat) t v, Try.f4.params[j]? = some t → args[j]? = some v → Value.okWide Try.prog W .any base t v := hval0
  have hW' := hW
  obtain ⟨p, q, hA0, hV, rfl, hfz, hnd⟩ := hW
  have hA : DataW.TrodAll enc Try.prog W 0 (fun _ => true) true Try.f4.params.toList args.toList ds p := hA0
  rw [Try.params4] at hA hval
  obtain ⟨v0, vs0, d0, ds0, p0, q0, hargs, rfl, rfl, h0, r0⟩ := trodAll_cons hA
  obtain ⟨v1, vs1, d1, ds1, p1, q1, rfl, rfl, rfl, h1, r1⟩ := trodAll_cons r0
  obtain ⟨v2, vs2, d2, ds2, p2, q2, rfl, rfl, rfl, h2, r2⟩ := trodAll_cons r1
  obtain ⟨v3, vs3, d3, ds3, p3, q3, rfl, rfl, rfl, h3, r3⟩ := trodAll_cons r2
  obtain ⟨rfl, rfl, rfl⟩ := trodAll_nil r3
  obtain rfl : args = #[v0, v1, v2, v3] := by cases args; simp_all
  obtain ⟨rfl, rfl⟩ := trodVars_none hV
  have k0 := h0
  have lt0 : ∀ x ∈ p0, x.block < W.heap.size := by obtain ⟨m, hm⟩ := k0; exact DataW.trod_lt m _ _ _ hm
  obtain ⟨n0, A0, l0, c0, m0, B0, j0, d0_, x0, rfl, s0, t0, w0⟩ := open_ball (hval 0 27 v0 rfl rfl) h0
  have k1 := h1
  have lt1 : ∀ x ∈ p1, x.block < W.heap.size := by obtain ⟨m, hm⟩ := k1; exact DataW.trod_lt m _ _ _ hm
  obtain ⟨n1, A1, l1, c1, m1, B1, j1, d1_, x1, rfl, s1, t1, w1⟩ := open_ball (hval 1 27 v1 rfl rfl) h1
  have k2 := h2
  have lt2 : ∀ x ∈ p2, x.block < W.heap.size := by obtain ⟨m, hm⟩ := k2; exact DataW.trod_lt m _ _ _ hm
  obtain ⟨n2, A2, l2, c2, m2, B2, j2, d2_, x2, rfl, s2, t2, w2⟩ := open_ball (hval 2 27 v2 rfl rfl) h2
  obtain ⟨a3, rfl, rfl, rfl, w3⟩ := open_int Try.underlying3 (hval 3 3 v3 rfl rfl) h3
  clear hA0 hval0
  refine (walk W n0 A0 l0 c0 m0 B0 j0 d0_ x0 s0 t0 w0 n1 A1 l1 c1 m1 B1 j1 d1_ x1 s1 t1 w1 n2 A2 l2 c2 m2 B2 j2 d2_ x2 s2 t2 w2 a3 w3).mono fun e W' ⟨he, bel⟩ => ?_
  subst he
  exact ⟨_, rfl, _, _, _, [], _, [], hW', trodAll_mk1 (shut_bool Try.underlying4 _), (trodAll_cons_mk (Below.trod laidOut (by kernel_rfl) (of_decide_eq_true (by kernel_rfl)) k0 bel lt0) (trodAll_cons_mk (Below.trod laidOut (by kernel_rfl) (of_decide_eq_true (by kernel_rfl)) k1 bel lt1) (trodAll_cons_mk (Below.trod laidOut (by kernel_rfl) (of_decide_eq_true (by kernel_rfl)) k2 bel lt2) (trodAll_cons_mk (shut_int Try.underlying3 w3) trodAll_mk0)))), rfl, bel.frame _, fun h => by cases h⟩

theorem over : Rows.ballOrderRow.holds Try.pinned (OpenSpec.ofChange Rows.ballOrderSpec) :=
  OpenClaim.holds_of_wide 4 Try.f4 rfl rfl rfl rfl rfl rfl rfl ⟨rfl, rfl, rfl, rfl, rfl⟩ rfl rfl rfl rfl rfl (by kernel_rfl) Try.func4 (by kernel_rfl)
    (of_decide_eq_true (by kernel_rfl)) (by unfold Func.isWrapper; first | (rw [if_pos (by decide +kernel)]; kernel_rfl) | (rw [if_neg (by decide +kernel)]; exact ⟨rfl, rfl⟩))
    (fun os started H enc _ => lifted os started H enc)

theorem proved : Rows.BallOrderSaid := over
#print axioms proved
end Go.Proofs.Ytnfbngiabdlclaa.ballOrder

/-
  hairlinelaw05.BallLies returns true for any two balls and any dyad. Conditions: none.
-/
import Derived.Test.YtnfbngiabdlclaaGreatRows
import Derived.Test.YtnfbngiabdlclaaGreatLw5
import Derived.Test.YtnfbngiabdlclaaGreatOp5
import Derived.Test.YtnfbngiabdlclaaGreatBl1
import Derived.Test.YtnfbngiabdlclaaGreatBl2
namespace Go.Proofs.YtnfbngiabdlclaaGreat.ballLies
open Go.ChangeShapes Go.WideShapes Go.ChangeAt Go.RowKit
open L (val)
set_option linter.unusedVariables false
set_option linter.unusedSimpArgs false

theorem own : ownKnob Tryz.prog.godebug = none := by kernel_rfl
theorem laidOut : laidOutB Tryz.prog = true := by kernel_rfl

theorem set2of3 {w : World} {r : Nat} {t : TypeId} {a b c : Value} (h : Blk w r t #[a, b, c]) (x y : Value) :
    ∃ W2, W2 = (w.setCell ⟨r, 0, none⟩ x).setCell ⟨r, 1, none⟩ y ∧ Blk W2 r t #[x, y, c] ∧ True ∧ (∀ B w0, Below B w0 w → B ≤ r → Below B w0 W2) ∧ W2.heap.size = w.heap.size ∧ (∀ g t' cs, g ≠ r → Blk w g t' cs → Blk W2 g t' cs) ∧ (∀ B v l, r < B → Nums w B v l → Nums W2 B v l) := by
  refine ⟨_, rfl, ?_, trivial, fun B w0 hb hr => (hb.setCell (p := ⟨r, 0, none⟩) hr x).setCell (p := ⟨r, 1, none⟩) hr y, by simp, fun g t' cs hne hg => (hg.far (p := ⟨r, 0, none⟩) hne x).far (p := ⟨r, 1, none⟩) hne y, fun B v l hr hn => nums_low2 hn hr x y⟩
  have := (h.set_ 0 x).set_ 1 y
  simpa using this

set_option maxHeartbeats 8000000 in
set_option maxRecDepth 100000 in
theorem walkN (n0 n1 n2 n3 n4 : Bool) (A0 A1 A2 A3 A4 : Option Addr) (l0 l1 l2 l3 l4 c0 c1 c2 c3 c4 : Nat) (Qa Qb x : Int) (hx0 : -9223372036854775808 ≤ x) (hx1 : x ≤ 9223372036854775807) (L0 L1 L2 L3 L4 : List Nat) (w : World)
    (h0 : Nums w 0 (.slice A0 l0 c0) L0) (h1 : Nums w 0 (.slice A1 l1 c1) L1) (h2 : Nums w 0 (.slice A2 l2 c2) L2) (h3 : Nums w 0 (.slice A3 l3 c3) L3) (h4 : Nums w 0 (.slice A4 l4 c4) L4) :
    Calls Tryz.prog 5 #[.agg #[.bool n0, .slice A0 l0 c0, .bool n1, .slice A1 l1 c1, .int .i64 Qa], .agg #[.bool n2, .slice A2 l2 c2, .bool n3, .slice A3 l3 c3, .int .i64 Qb], .agg #[.bool n4, .slice A4 l4 c4, .int .i64 x]] w fun e w' => e = .returned (.bool true) ∧ Below w.heap.size w w' := by
  obtain ⟨w0, hW, Ba, Bb, Bd, hB, hs⟩ := start3 w 27 27 34 #[.bool n0, .slice A0 l0 c0, .bool n1, .slice A1 l1 c1, .int .i64 Qa] #[.bool n2, .slice A2 l2 c2, .bool n3, .slice A3 l3 c3, .int .i64 Qb] #[.bool n4, .slice A4 l4 c4, .int .i64 x]
  have HB := hide hB
  have hsz : w.heap.size + 3 ≤ w0.heap.size := by omega
  clear hB hs
  obtain ⟨M0, HM0⟩ : ∃ l, Hid (L0.take 8 = l) := ⟨_, hide rfl⟩
  have hm0 : M0.length ≤ 8 := by rw [← HM0.out]; simp; omega
  obtain ⟨z0, HZ0⟩ : ∃ z, Hid (ival n0 (val W M0) = z) := ⟨_, hide rfl⟩
  obtain ⟨M1, HM1⟩ : ∃ l, Hid (L1.take 8 = l) := ⟨_, hide rfl⟩
  have hm1 : M1.length ≤ 8 := by rw [← HM1.out]; simp; omega
  obtain ⟨z1, HZ1⟩ : ∃ z, Hid (ival n1 (val W M1) = z) := ⟨_, hide rfl⟩
  obtain ⟨M2, HM2⟩ : ∃ l, Hid (L2.take 8 = l) := ⟨_, hide rfl⟩
  have hm2 : M2.length ≤ 8 := by rw [← HM2.out]; simp; omega
  obtain ⟨z2, HZ2⟩ : ∃ z, Hid (ival n2 (val W M2) = z) := ⟨_, hide rfl⟩
  obtain ⟨M3, HM3⟩ : ∃ l, Hid (L3.take 8 = l) := ⟨_, hide rfl⟩
  have hm3 : M3.length ≤ 8 := by rw [← HM3.out]; simp; omega
  obtain ⟨z3, HZ3⟩ : ∃ z, Hid (ival n3 (val W M3) = z) := ⟨_, hide rfl⟩
  obtain ⟨M4, HM4⟩ : ∃ l, Hid (L4.take 8 = l) := ⟨_, hide rfl⟩
  have hm4 : M4.length ≤ 8 := by rw [← HM4.out]; simp; omega
  obtain ⟨z4, HZ4⟩ : ∃ z, Hid (ival n4 (val W M4) = z) := ⟨_, hide rfl⟩
  obtain ⟨r1, Hr1⟩ : ∃ b, Hid (hasB z0 z1 Qa z4 x = b) := ⟨_, hide rfl⟩
  obtain ⟨r2, Hr2⟩ : ∃ b, Hid (insB z0 z1 Qa z2 z3 Qb = b) := ⟨_, hide rfl⟩
  obtain ⟨r3, Hr3⟩ : ∃ b, Hid (metB z0 z1 Qa z2 z3 Qb = b) := ⟨_, hide rfl⟩
  have e1 : (r1 == r1) = true := by rw [beq_iff_eq]
  have e2 : (r2 == r2) = true := by rw [beq_iff_eq]
  have e3 : (r3 == r3) = true := by rw [beq_iff_eq]
  obtain ⟨Bac0, Bac1, Bac2, Bac3, Bac4, -⟩ := Ba.five
  obtain ⟨Bbc0, Bbc1, Bbc2, Bbc3, Bbc4, -⟩ := Bb.five
  obtain ⟨Bdc0, Bdc1, Bdc2, -⟩ := Bd.three
  go_enter Tryz.func5, Tryz.ntmps5
  go_upto_region 1 with (fail)
  rw [← hW]
  clear hW
  have HP := shown5_calls w0
  have HPH := hide HP
  clear HP
  go_wp2_with fail
  refine HPH.out.mono ?_
  rintro e w1 ⟨hb, rfl⟩
  clear HPH
  clear Bac0 Bac1 Bac2 Bac3 Bac4 Bbc0 Bbc1 Bbc2 Bbc3 Bbc4 Bdc0 Bdc1 Bdc2
  have Ba := Ba.below hb Ba.lt
  have Bb := Bb.below hb Bb.lt
  have Bd := Bd.below hb Bd.lt
  have HB := hide (HB.out.trans (hb.mono HB.out.size))
  have hsz := Nat.le_trans hsz hb.size
  clear hb
  obtain ⟨Bac0, Bac1, Bac2, Bac3, Bac4, -⟩ := Ba.five
  obtain ⟨Bbc0, Bbc1, Bbc2, Bbc3, Bbc4, -⟩ := Bb.five
  obtain ⟨Bdc0, Bdc1, Bdc2, -⟩ := Bd.three
  have hsp := hsz
  have HP := cut5_calls w1 n0 n1 A0 A1 l0 l1 c0 c1 Qa 8 L0 L1 (h0.below HB.out) (h1.below HB.out) (by omega)
  rw [HM0.out, HM1.out] at HP
  have HPH := hide HP
  clear HP
  go_wp2_with fail
  refine HPH.out.mono ?_
  rintro e w2 ⟨hb, C0, j0, i0, C1, j1, i1, rfl, hn0, hn1⟩
  clear HPH
  clear Bac0 Bac1 Bac2 Bac3 Bac4 Bbc0 Bbc1 Bbc2 Bbc3 Bbc4 Bdc0 Bdc1 Bdc2
  have Ba := Ba.below hb Ba.lt
  have Bb := Bb.below hb Bb.lt
  have Bd := Bd.below hb Bd.lt
  have HB := hide (HB.out.trans (hb.mono HB.out.size))
  have hsz := Nat.le_trans hsz hb.size
  clear hb
  obtain ⟨Bac0, Bac1, Bac2, Bac3, Bac4, -⟩ := Ba.five
  obtain ⟨Bbc0, Bbc1, Bbc2, Bbc3, Bbc4, -⟩ := Bb.five
  obtain ⟨Bdc0, Bdc1, Bdc2, -⟩ := Bd.three
  have hn0 := hn0.mono hsp
  have hn1 := hn1.mono hsp
  clear Bac0 Bac1 Bac2 Bac3 Bac4 Bbc0 Bbc1 Bbc2 Bbc3 Bbc4 Bdc0 Bdc1 Bdc2
  obtain ⟨Bac0, Bac1, Bac2, Bac3, Bac4, Baf0, Baf1, Baf2, Baf3, Baf4⟩ := Ba.five
  obtain ⟨w3, hW, Ban, kq, kb, ks, kg, kn⟩ := set5_all Ba (.bool n0) (.slice C0 j0 i0) (.bool n1) (.slice C1 j1 i1) (.int .i64 Qa)
  have Bb := kg _ _ _ (by omega) Bb
  have Bd := kg _ _ _ (by omega) Bd
  have Ba := Ban
  have HB := hide (kb _ _ HB.out (by omega))
  have hsz := Nat.le_trans hsz (Nat.le_of_eq ks.symm)
  have hn0 := kn _ _ _ (by omega) hn0
  have hn1 := kn _ _ _ (by omega) hn1
  clear kq kb ks kg kn
  go_upto_region 3 with (fail)
  rw [← hW]
  clear hW Bac0 Baf0 Bac1 Baf1 Bac2 Baf2 Bac3 Baf3 Bac4 Baf4
  obtain ⟨Bac0, Bac1, Bac2, Bac3, Bac4, -⟩ := Ba.five
  obtain ⟨Bbc0, Bbc1, Bbc2, Bbc3, Bbc4, -⟩ := Bb.five
  obtain ⟨Bdc0, Bdc1, Bdc2, -⟩ := Bd.three
  have hsp := hsz
  have HP := cut5_calls w3 n2 n3 A2 A3 l2 l3 c2 c3 Qb 8 L2 L3 (h2.below HB.out) (h3.below HB.out) (by omega)
  rw [HM2.out, HM3.out] at HP
  have HPH := hide HP
  clear HP
  go_wp2_with fail
  refine HPH.out.mono ?_
  rintro e w4 ⟨hb, C2, j2, i2, C3, j3, i3, rfl, hn2, hn3⟩
  clear HPH
  clear Bac0 Bac1 Bac2 Bac3 Bac4 Bbc0 Bbc1 Bbc2 Bbc3 Bbc4 Bdc0 Bdc1 Bdc2
  have Ba := Ba.below hb Ba.lt
  have Bb := Bb.below hb Bb.lt
  have Bd := Bd.below hb Bd.lt
  have hn0 := hn0.below hb
  have hn1 := hn1.below hb
  have HB := hide (HB.out.trans (hb.mono HB.out.size))
  have hsz := Nat.le_trans hsz hb.size
  clear hb
  obtain ⟨Bac0, Bac1, Bac2, Bac3, Bac4, -⟩ := Ba.five
  obtain ⟨Bbc0, Bbc1, Bbc2, Bbc3, Bbc4, -⟩ := Bb.five
  obtain ⟨Bdc0, Bdc1, Bdc2, -⟩ := Bd.three
  have hn2 := hn2.mono hsp
  have hn3 := hn3.mono hsp
  clear Bac0 Bac1 Bac2 Bac3 Bac4 Bbc0 Bbc1 Bbc2 Bbc3 Bbc4 Bdc0 Bdc1 Bdc2
  obtain ⟨Bbc0, Bbc1, Bbc2, Bbc3, Bbc4, Bbf0, Bbf1, Bbf2, Bbf3, Bbf4⟩ := Bb.five
  obtain ⟨w5, hW, Bbn, kq, kb, ks, kg, kn⟩ := set5_all Bb (.bool n2) (.slice C2 j2 i2) (.bool n3) (.slice C3 j3 i3) (.int .i64 Qb)
  have Ba := kg _ _ _ (by omega) Ba
  have Bd := kg _ _ _ (by omega) Bd
  have Bb := Bbn
  have HB := hide (kb _ _ HB.out (by omega))
  have hsz := Nat.le_trans hsz (Nat.le_of_eq ks.symm)
  have hn0 := kn _ _ _ (by omega) hn0
  have hn1 := kn _ _ _ (by omega) hn1
  have hn2 := kn _ _ _ (by omega) hn2
  have hn3 := kn _ _ _ (by omega) hn3
  clear kq kb ks kg kn
  go_upto_region 4 with (fail)
  rw [← hW]
  clear hW Bbc0 Bbf0 Bbc1 Bbf1 Bbc2 Bbf2 Bbc3 Bbf3 Bbc4 Bbf4
  obtain ⟨Bac0, Bac1, Bac2, Bac3, Bac4, -⟩ := Ba.five
  obtain ⟨Bbc0, Bbc1, Bbc2, Bbc3, Bbc4, -⟩ := Bb.five
  obtain ⟨Bdc0, Bdc1, Bdc2, -⟩ := Bd.three
  have hsp := hsz
  have HP := limbs5_calls w5 n4 A4 l4 c4 8 L4 (h4.below HB.out) (by omega)
  rw [HM4.out] at HP
  have HPH := hide HP
  clear HP
  go_wp2_with fail
  refine HPH.out.mono ?_
  rintro e w6 ⟨hb, C4, j4, i4, rfl, hn4⟩
  clear HPH
  clear Bac0 Bac1 Bac2 Bac3 Bac4 Bbc0 Bbc1 Bbc2 Bbc3 Bbc4 Bdc0 Bdc1 Bdc2
  have Ba := Ba.below hb Ba.lt
  have Bb := Bb.below hb Bb.lt
  have Bd := Bd.below hb Bd.lt
  have hn0 := hn0.below hb
  have hn1 := hn1.below hb
  have hn2 := hn2.below hb
  have hn3 := hn3.below hb
  have HB := hide (HB.out.trans (hb.mono HB.out.size))
  have hsz := Nat.le_trans hsz hb.size
  clear hb
  obtain ⟨Bac0, Bac1, Bac2, Bac3, Bac4, -⟩ := Ba.five
  obtain ⟨Bbc0, Bbc1, Bbc2, Bbc3, Bbc4, -⟩ := Bb.five
  obtain ⟨Bdc0, Bdc1, Bdc2, -⟩ := Bd.three
  have hn4 := hn4.mono hsp
  clear Bac0 Bac1 Bac2 Bac3 Bac4 Bbc0 Bbc1 Bbc2 Bbc3 Bbc4 Bdc0 Bdc1 Bdc2
  obtain ⟨Bdc0, Bdc1, Bdc2, Bdf0, Bdf1, Bdf2⟩ := Bd.three
  obtain ⟨w7, hW, Bdn, kq, kb, ks, kg, kn⟩ := set2of3 Bd (.bool n4) (.slice C4 j4 i4)
  have Ba := kg _ _ _ (by omega) Ba
  have Bb := kg _ _ _ (by omega) Bb
  have Bd := Bdn
  have HB := hide (kb _ _ HB.out (by omega))
  have hsz := Nat.le_trans hsz (Nat.le_of_eq ks.symm)
  have hn0 := kn _ _ _ (by omega) hn0
  have hn1 := kn _ _ _ (by omega) hn1
  have hn2 := kn _ _ _ (by omega) hn2
  have hn3 := kn _ _ _ (by omega) hn3
  have hn4 := kn _ _ _ (by omega) hn4
  clear kq kb ks kg kn
  go_upto_region 5 with (fail)
  rw [← hW]
  clear hW Bdc0 Bdf0 Bdc1 Bdf1 Bdc2 Bdf2
  obtain ⟨Bac0, Bac1, Bac2, Bac3, Bac4, -⟩ := Ba.five
  obtain ⟨Bbc0, Bbc1, Bbc2, Bbc3, Bbc4, -⟩ := Bb.five
  obtain ⟨Bdc0, Bdc1, Bdc2, -⟩ := Bd.three
  have Q0_ : Q w7 8 n0 C0 j0 i0 z0 := ⟨M0, hn0.mono (Nat.zero_le _), hm0, HZ0.out⟩
  have Q1_ : Q w7 8 n1 C1 j1 i1 z1 := ⟨M1, hn1.mono (Nat.zero_le _), hm1, HZ1.out⟩
  have Q2_ : Q w7 8 n2 C2 j2 i2 z2 := ⟨M2, hn2.mono (Nat.zero_le _), hm2, HZ2.out⟩
  have Q3_ : Q w7 8 n3 C3 j3 i3 z3 := ⟨M3, hn3.mono (Nat.zero_le _), hm3, HZ3.out⟩
  have Q4_ : Q w7 8 n4 C4 j4 i4 z4 := ⟨M4, hn4.mono (Nat.zero_le _), hm4, HZ4.out⟩
  clear hn0 h0 hn1 h1 hn2 h2 hn3 h3 hn4 h4
  have HS := hide (Below.refl w7.heap.size w7).drew
  have HE0 := hide (has_calls Qa (Q0_.at_ HS) (Q1_.at_ HS) (Q4_.at_ HS) (by omega) hx0 hx1)
  rw [Hr1.out] at HE0
  go_region_held3 (fun w' => w'.cell? ⟨w.heap.size, 0, none⟩ = some (.bool n0) ∧ w'.cell? ⟨w.heap.size, 1, none⟩ = some (.slice C0 j0 i0) ∧ w'.cell? ⟨w.heap.size, 2, none⟩ = some (.bool n1) ∧ w'.cell? ⟨w.heap.size, 3, none⟩ = some (.slice C1 j1 i1) ∧ w'.cell? ⟨w.heap.size, 4, none⟩ = some (.int .i64 Qa) ∧ w'.cell? ⟨w.heap.size + 1, 0, none⟩ = some (.bool n2) ∧ w'.cell? ⟨w.heap.size + 1, 1, none⟩ = some (.slice C2 j2 i2) ∧ w'.cell? ⟨w.heap.size + 1, 2, none⟩ = some (.bool n3) ∧ w'.cell? ⟨w.heap.size + 1, 3, none⟩ = some (.slice C3 j3 i3) ∧ w'.cell? ⟨w.heap.size + 1, 4, none⟩ = some (.int .i64 Qb) ∧ w'.cell? ⟨w.heap.size + 2, 0, none⟩ = some (.bool n4) ∧ w'.cell? ⟨w.heap.size + 2, 1, none⟩ = some (.slice C4 j4 i4) ∧ w'.cell? ⟨w.heap.size + 2, 2, none⟩ = some (.int .i64 x)) (go_keep)
    (first
      | (go_at_call 24; (with_reducible refine HE0.out.mono ?_); rintro e v0 ⟨hb, rfl⟩
         have Ba := Ba.drew.below hb Ba.lt
         have Bb := Bb.drew.below hb Bb.lt
         have Bd := Bd.drew.below hb Bd.lt
         have HS := hide (HS.out.trans (hb.mono HS.out.size))
         obtain ⟨Bac0, Bac1, Bac2, Bac3, Bac4, -⟩ := Ba.five
         obtain ⟨Bbc0, Bbc1, Bbc2, Bbc3, Bbc4, -⟩ := Bb.five
         obtain ⟨Bdc0, Bdc1, Bdc2, -⟩ := Bd.three
         have HE1 := hide (hasR_calls Qa (Q0_.at_ HS) (Q1_.at_ HS) (Q4_.at_ HS) (by omega) hx0 hx1)
         rw [Hr1.out] at HE1)
      | (go_at_call 25; (with_reducible refine HE1.out.mono ?_); rintro e v1 ⟨hb, rfl⟩
         have Ba := Ba.below hb Ba.lt
         have Bb := Bb.below hb Bb.lt
         have Bd := Bd.below hb Bd.lt
         have HS := hide (HS.out.trans (hb.mono HS.out.size))
         obtain ⟨Bac0, Bac1, Bac2, Bac3, Bac4, -⟩ := Ba.five
         obtain ⟨Bbc0, Bbc1, Bbc2, Bbc3, Bbc4, -⟩ := Bb.five
         obtain ⟨Bdc0, Bdc1, Bdc2, -⟩ := Bd.three
         have HE2 := hide (ins_calls Qa Qb (Q0_.at_ HS) (Q1_.at_ HS) (Q2_.at_ HS) (Q3_.at_ HS) (by omega))
         rw [Hr2.out] at HE2)
      | (go_at_call 26; (with_reducible refine HE2.out.mono ?_); rintro e v2 ⟨hb, rfl⟩
         have Ba := Ba.below hb Ba.lt
         have Bb := Bb.below hb Bb.lt
         have Bd := Bd.below hb Bd.lt
         have HS := hide (HS.out.trans (hb.mono HS.out.size))
         obtain ⟨Bac0, Bac1, Bac2, Bac3, Bac4, -⟩ := Ba.five
         obtain ⟨Bbc0, Bbc1, Bbc2, Bbc3, Bbc4, -⟩ := Bb.five
         obtain ⟨Bdc0, Bdc1, Bdc2, -⟩ := Bd.three
         have HE3 := hide (insR_calls Qa Qb (Q0_.at_ HS) (Q1_.at_ HS) (Q2_.at_ HS) (Q3_.at_ HS) (by omega))
         rw [Hr2.out] at HE3)
      | (go_at_call 27; (with_reducible refine HE3.out.mono ?_); rintro e v3 ⟨hb, rfl⟩
         have Ba := Ba.below hb Ba.lt
         have Bb := Bb.below hb Bb.lt
         have Bd := Bd.below hb Bd.lt
         have HS := hide (HS.out.trans (hb.mono HS.out.size))
         obtain ⟨Bac0, Bac1, Bac2, Bac3, Bac4, -⟩ := Ba.five
         obtain ⟨Bbc0, Bbc1, Bbc2, Bbc3, Bbc4, -⟩ := Bb.five
         obtain ⟨Bdc0, Bdc1, Bdc2, -⟩ := Bd.three
         have HE4 := hide (met_calls Qa Qb (Q0_.at_ HS) (Q1_.at_ HS) (Q2_.at_ HS) (Q3_.at_ HS) (by omega))
         rw [Hr3.out] at HE4)
      | (go_at_call 28; (with_reducible refine HE4.out.mono ?_); rintro e v4 ⟨hb, rfl⟩
         have Ba := Ba.below hb Ba.lt
         have Bb := Bb.below hb Bb.lt
         have Bd := Bd.below hb Bd.lt
         have HS := hide (HS.out.trans (hb.mono HS.out.size))
         obtain ⟨Bac0, Bac1, Bac2, Bac3, Bac4, -⟩ := Ba.five
         obtain ⟨Bbc0, Bbc1, Bbc2, Bbc3, Bbc4, -⟩ := Bb.five
         obtain ⟨Bdc0, Bdc1, Bdc2, -⟩ := Bd.three
         have HE5 := hide (metR_calls Qa Qb (Q0_.at_ HS) (Q1_.at_ HS) (Q2_.at_ HS) (Q3_.at_ HS) (by omega))
         rw [Hr3.out] at HE5)
      | (go_at_call 29; (with_reducible refine HE5.out.mono ?_); rintro e v5 ⟨hb, rfl⟩
         have Ba := Ba.below hb Ba.lt
         have Bb := Bb.below hb Bb.lt
         have Bd := Bd.below hb Bd.lt
         have HS := hide (HS.out.trans (hb.mono HS.out.size))
         obtain ⟨Bac0, Bac1, Bac2, Bac3, Bac4, -⟩ := Ba.five
         obtain ⟨Bbc0, Bbc1, Bbc2, Bbc3, Bbc4, -⟩ := Bb.five
         obtain ⟨Bdc0, Bdc1, Bdc2, -⟩ := Bd.three))
  all_goals go_wp2_with fail
  all_goals go_ret
  all_goals exact ⟨by first | rfl | simp only [e1, e2, e3] | simp, HB.out.trans (HS.out.mono HB.out.size)⟩

theorem walk (w : World) (n0 : Bool) (A0 : Option Addr) (l0 c0 : Nat) (m0 : Bool) (B0 : Option Addr) (j0 d0 : Nat) (x0 : Int) (s0 : ∃ L, Nums w 0 (.slice A0 l0 c0) L) (t0 : ∃ L, Nums w 0 (.slice B0 j0 d0) L) (w0 : (Lit.int .i64 x0).wf = true)
    (n1 : Bool) (A1 : Option Addr) (l1 c1 : Nat) (m1 : Bool) (B1 : Option Addr) (j1 d1 : Nat) (x1 : Int) (s1 : ∃ L, Nums w 0 (.slice A1 l1 c1) L) (t1 : ∃ L, Nums w 0 (.slice B1 j1 d1) L) (w1 : (Lit.int .i64 x1).wf = true)
    (n2 : Bool) (A2 : Option Addr) (l2 c2 : Nat) (x2 : Int) (s2 : ∃ L, Nums w 0 (.slice A2 l2 c2) L) (w2 : (Lit.int .i64 x2).wf = true) :
    Calls Tryz.prog 5 #[.agg #[.bool n0, .slice A0 l0 c0, .bool m0, .slice B0 j0 d0, .int .i64 x0], .agg #[.bool n1, .slice A1 l1 c1, .bool m1, .slice B1 j1 d1, .int .i64 x1], .agg #[.bool n2, .slice A2 l2 c2, .int .i64 x2]] w fun e w' => e = .returned (.bool true) ∧ Below w.heap.size w w' := by
  obtain ⟨L0, h0⟩ := s0
  obtain ⟨L1, h1⟩ := t0
  obtain ⟨L2, h2⟩ := s1
  obtain ⟨L3, h3⟩ := t1
  obtain ⟨L4, h4⟩ := s2
  have hc := bounds_i64 w2
  exact walkN n0 m0 n1 m1 n2 A0 B0 A1 B1 A2 l0 j0 l1 j1 l2 c0 d0 c1 d1 c2 x0 x1 x2 hc.1 hc.2 L0 L1 L2 L3 L4 w h0 h1 h2 h3 h4

/-! ### the row -/
set_option maxRecDepth 100000 in
theorem lifted (os : Os) (started : os.Started) (H : Type) (enc : TypeId × Value → H) :
    ReturnsInHanded {} Tryz.checked os 5 .any (Rows.ballLiesSpec.pre6 enc Tryz.prog Tryz.f5 Rows.ballLiesRow.domain false) (Rows.ballLiesSpec.post enc Tryz.prog Tryz.f5 false true false false) := by
  refine returnsInHanded_of_change (C := Tryz.checked) own started (by kernel_rfl) Tryz.func5
    (ChangeSpec.witness6 (enc := enc) (C := Tryz.checked) false ⟨#[], #[.agg #[.bool false, .slice none 0 0, .bool false, .slice none 0 0, .int .i64 0], .agg #[.bool false, .slice none 0 0, .bool false, .slice none 0 0, .int .i64 0], .agg #[.bool false, .slice none 0 0, .int .i64 0]], []⟩ 8 (by kernel_rfl) (by kernel_rfl) (by kernel_rfl) (by kernel_rfl)) ?_
  intro W base args ds gs before hval0 hW hcnd _
  have hval : ∀ (j : Nat) t v, Tryz.f5.params[j]? = some t → args[j]? = some v → Value.okWide Tryz.prog W .any base t v := hval0
  have hW' := hW
  obtain ⟨p, q, hA0, hV, rfl, hfz, hnd⟩ := hW
  have hA : DataW.TrodAll enc Tryz.prog W 0 (fun _ => true) true Tryz.f5.params.toList args.toList ds p := hA0
  rw [Tryz.params5] at hA hval
  obtain ⟨v0, vs0, d0, ds0, p0, q0, hargs, rfl, rfl, h0, r0⟩ := trodAll_cons hA
  obtain ⟨v1, vs1, d1, ds1, p1, q1, rfl, rfl, rfl, h1, r1⟩ := trodAll_cons r0
  obtain ⟨v2, vs2, d2, ds2, p2, q2, rfl, rfl, rfl, h2, r2⟩ := trodAll_cons r1
  obtain ⟨rfl, rfl, rfl⟩ := trodAll_nil r2
  obtain rfl : args = #[v0, v1, v2] := by cases args; simp_all
  obtain ⟨rfl, rfl⟩ := trodVars_none hV
  have k0 := h0
  have lt0 : ∀ x ∈ p0, x.block < W.heap.size := by obtain ⟨m, hm⟩ := k0; exact DataW.trod_lt m _ _ _ hm
  obtain ⟨n0, A0, l0, c0, m0, B0, j0, d0_, x0, rfl, s0, t0, w0⟩ := open_ball (hval 0 27 v0 rfl rfl) h0
  have k1 := h1
  have lt1 : ∀ x ∈ p1, x.block < W.heap.size := by obtain ⟨m, hm⟩ := k1; exact DataW.trod_lt m _ _ _ hm
  obtain ⟨n1, A1, l1, c1, m1, B1, j1, d1_, x1, rfl, s1, t1, w1⟩ := open_ball (hval 1 27 v1 rfl rfl) h1
  have k2 := h2
  have lt2 : ∀ x ∈ p2, x.block < W.heap.size := by obtain ⟨m, hm⟩ := k2; exact DataW.trod_lt m _ _ _ hm
  obtain ⟨n2, A2, l2, c2, x2, rfl, s2, w2⟩ := open_dyad (hval 2 34 v2 rfl rfl) h2
  clear hA0 hval0
  refine (walk W n0 A0 l0 c0 m0 B0 j0 d0_ x0 s0 t0 w0 n1 A1 l1 c1 m1 B1 j1 d1_ x1 s1 t1 w1 n2 A2 l2 c2 x2 s2 w2).mono fun e W' ⟨he, bel⟩ => ?_
  subst he
  exact ⟨_, rfl, _, _, _, [], _, [], hW', trodAll_mk1 (shut_bool Tryz.underlying4 _), (trodAll_cons_mk (Below.trod laidOut (by kernel_rfl) (of_decide_eq_true (by kernel_rfl)) k0 bel lt0) (trodAll_cons_mk (Below.trod laidOut (by kernel_rfl) (of_decide_eq_true (by kernel_rfl)) k1 bel lt1) (trodAll_cons_mk (Below.trod laidOut (by kernel_rfl) (of_decide_eq_true (by kernel_rfl)) k2 bel lt2) trodAll_mk0))), rfl, bel.frame _, fun h => by cases h⟩

theorem over : Rows.ballLiesRow.holds Tryz.pinned (OpenSpec.ofChange Rows.ballLiesSpec) :=
  OpenClaim.holds_of_wide 5 Tryz.f5 rfl rfl rfl rfl rfl rfl rfl ⟨rfl, rfl, rfl, rfl, rfl⟩ rfl rfl rfl rfl rfl (by kernel_rfl) Tryz.func5 (by kernel_rfl)
    (of_decide_eq_true (by kernel_rfl)) (by unfold Func.isWrapper; first | (rw [if_pos (by decide +kernel)]; kernel_rfl) | (rw [if_neg (by decide +kernel)]; exact ⟨rfl, rfl⟩))
    (fun os started H enc _ => lifted os started H enc)

theorem proved : Rows.BallLiesSaid := over
#print axioms proved
end Go.Proofs.YtnfbngiabdlclaaGreat.ballLies

/-
  hairlinelaw05.BallHolds returns true for any two balls and any three numbers. Conditions: none.
-/
import Derived.Test.YtnfbngiabdlclaaRows
import Derived.Test.YtnfbngiabdlclaaLw5
import Derived.Test.YtnfbngiabdlclaaOp5
import Derived.Test.YtnfbngiabdlclaaBa7
import Derived.Test.YtnfbngiabdlclaaSh
namespace Go.Proofs.Ytnfbngiabdlclaa.ballHolds
open Go.ChangeShapes Go.WideShapes Go.ChangeAt Go.RowKit
open L (val)
set_option linter.unusedVariables false
set_option linter.unusedSimpArgs false

theorem own : ownKnob Try.prog.godebug = none := by kernel_rfl
theorem laidOut : laidOutB Try.prog = true := by kernel_rfl

/-- All that is to hold of two balls, and of a number in each. -/
structure Sure (alo ahi blo bhi q zx zy : Int) : Prop where
  hx : hasB alo ahi q (pM (vz zx q)) (pE (vz zx q) (-((4000 : Nat) : Int))) = true
  hy : hasB blo bhi q (pM (vz zy q)) (pE (vz zy q) (-((4000 : Nat) : Int))) = true
  hs : hasB (alo + blo) (ahi + bhi) q (pM (vz zx q + vz zy q)) (pE (vz zx q + vz zy q) (-((4000 : Nat) : Int))) = true
  ht : hasB (alo - bhi) (ahi - blo) q (pM (vz zx q - vz zy q)) (pE (vz zx q - vz zy q) (-((4000 : Nat) : Int))) = true
  vx : av 4000 (pM (vz zx q)) (pE (vz zx q) (-((4000 : Nat) : Int))) = vz zx q
  vy : av 4000 (pM (vz zy q)) (pE (vz zy q) (-((4000 : Nat) : Int))) = vz zy q
  bx : -4000 ≤ pE (vz zx q) (-((4000 : Nat) : Int)) ∧ pE (vz zx q) (-((4000 : Nat) : Int)) ≤ 4000
  by_ : -4000 ≤ pE (vz zy q) (-((4000 : Nat) : Int)) ∧ pE (vz zy q) (-((4000 : Nat) : Int)) ≤ 4000
  bs : -4000 ≤ pE (vz zx q + vz zy q) (-((4000 : Nat) : Int)) ∧ pE (vz zx q + vz zy q) (-((4000 : Nat) : Int)) ≤ 4000
  bt : -4000 ≤ pE (vz zx q - vz zy q) (-((4000 : Nat) : Int)) ∧ pE (vz zx q - vz zy q) (-((4000 : Nat) : Int)) ≤ 4000
  bm : -4000 ≤ pE (vz zx q * vz zy q) (-((4000 + 4000 : Nat) : Int)) ∧ pE (vz zx q * vz zy q) (-((4000 + 4000 : Nat) : Int)) ≤ 4000
theorem sure {alo ahi blo bhi q zx zy : Int} (ha : rightB alo ahi q = true) (hb : rightB blo bhi q = true) (hq : q ≤ 255) (h0 : alo ≤ zx) (h1 : zx ≤ ahi) (h2 : blo ≤ zy) (h3 : zy ≤ bhi)
    (hx : zx.natAbs < W ^ 8) (hy : zy.natAbs < W ^ 8) : Sure alo ahi blo bhi q zx zy := by
  obtain ⟨⟨q0, q1⟩, -⟩ := rightB_iff.1 ha
  have ix := vz_in (k := 8) q0 hq hx
  have iy := vz_in (k := 8) q0 hq hy
  have is := ix.add iy
  have it := ix.sub iy
  have im := ix.mul iy
  have es : vz zx q + vz zy q = vz (zx + zy) q := by unfold vz; rw [Int.add_mul]
  have et : vz zx q - vz zy q = vz (zx - zy) q := by unfold vz; rw [Int.sub_mul]
  have vx := ix.av (by omega) (by omega)
  have vy := iy.av (by omega) (by omega)
  have vs := is.av (by omega) (by omega)
  have vt := it.av (by omega) (by omega)
  have ra := (rightB_iff.1 ha).2
  have rb := (rightB_iff.1 hb).2
  refine ⟨has_of ha hq vx h0 h1, has_of hb hq vy h2 h3, has_of (z := zx + zy) (rightB_iff.2 ⟨⟨q0, q1⟩, by omega⟩) hq (vs.trans es) (by omega) (by omega), has_of (z := zx - zy) (rightB_iff.2 ⟨⟨q0, q1⟩, by omega⟩) hq (vt.trans et) (by omega) (by omega),
    vx, vy, ix.bd (by omega) (by omega), iy.bd (by omega) (by omega), is.bd (by omega) (by omega), it.bd (by omega) (by omega), ?_⟩
  have hb := im.pE
  omega

set_option maxHeartbeats 32000000 in
set_option maxRecDepth 100000 in
theorem walkN (n0 n1 n2 n3 : Bool) (A0 A1 A2 A3 : Option Addr) (l0 l1 l2 l3 c0 c1 c2 c3 : Nat) (Qa Qb q i k : Int) (L0 L1 L2 L3 : List Nat) (w : World)
    (h0 : Nums w 0 (.slice A0 l0 c0) L0) (h1 : Nums w 0 (.slice A1 l1 c1) L1) (h2 : Nums w 0 (.slice A2 l2 c2) L2) (h3 : Nums w 0 (.slice A3 l3 c3) L3) :
    Calls Try.prog 6 #[.agg #[.bool n0, .slice A0 l0 c0, .bool n1, .slice A1 l1 c1, .int .i64 Qa], .agg #[.bool n2, .slice A2 l2 c2, .bool n3, .slice A3 l3 c3, .int .i64 Qb], .int .i64 q, .int .i64 i, .int .i64 k] w fun e w' => e = .returned (.bool true) ∧ Below w.heap.size w w' := by
  obtain ⟨w0, hW, Ba, Bb, hB, hs⟩ := start2 w 27 27 #[.bool n0, .slice A0 l0 c0, .bool n1, .slice A1 l1 c1, .int .i64 Qa] #[.bool n2, .slice A2 l2 c2, .bool n3, .slice A3 l3 c3, .int .i64 Qb]
  have HB := hide hB
  have hsz : w.heap.size + 2 ≤ w0.heap.size := by omega
  clear hB hs
  obtain ⟨z0, HZ0⟩ : ∃ z, Hid (ival n0 (val W (L0.take 4)) = z) := ⟨_, hide rfl⟩
  have HZL0 : Hid (z0.natAbs < W ^ 4) := hide (by rw [← HZ0.out]; exact Nat.lt_of_lt_of_le (natAbs_lt (fun x hx => h0.lt x (List.mem_of_mem_take hx))) (Nat.pow_le_pow_right W_pos (by rw [List.length_take]; omega)))
  obtain ⟨z1, HZ1⟩ : ∃ z, Hid (ival n1 (val W (L1.take 4)) = z) := ⟨_, hide rfl⟩
  have HZL1 : Hid (z1.natAbs < W ^ 4) := hide (by rw [← HZ1.out]; exact Nat.lt_of_lt_of_le (natAbs_lt (fun x hx => h1.lt x (List.mem_of_mem_take hx))) (Nat.pow_le_pow_right W_pos (by rw [List.length_take]; omega)))
  obtain ⟨z2, HZ2⟩ : ∃ z, Hid (ival n2 (val W (L2.take 4)) = z) := ⟨_, hide rfl⟩
  have HZL2 : Hid (z2.natAbs < W ^ 4) := hide (by rw [← HZ2.out]; exact Nat.lt_of_lt_of_le (natAbs_lt (fun x hx => h2.lt x (List.mem_of_mem_take hx))) (Nat.pow_le_pow_right W_pos (by rw [List.length_take]; omega)))
  obtain ⟨z3, HZ3⟩ : ∃ z, Hid (ival n3 (val W (L3.take 4)) = z) := ⟨_, hide rfl⟩
  have HZL3 : Hid (z3.natAbs < W ^ 4) := hide (by rw [← HZ3.out]; exact Nat.lt_of_lt_of_le (natAbs_lt (fun x hx => h3.lt x (List.mem_of_mem_take hx))) (Nat.pow_le_pow_right W_pos (by rw [List.length_take]; omega)))
  obtain ⟨alo, Halo⟩ : ∃ z, Hid ((min z0 z1) = z) := ⟨_, hide rfl⟩
  obtain ⟨ahi, Hahi⟩ : ∃ z, Hid ((max z0 z1) = z) := ⟨_, hide rfl⟩
  obtain ⟨blo, Hblo⟩ : ∃ z, Hid ((min z2 z3) = z) := ⟨_, hide rfl⟩
  obtain ⟨bhi, Hbhi⟩ : ∃ z, Hid ((max z2 z3) = z) := ⟨_, hide rfl⟩
  obtain ⟨qq, Hqq⟩ : ∃ z, Hid ((bits .and .i64 q 255) = z) := ⟨_, hide rfl⟩
  obtain ⟨ia, Hia⟩ : ∃ z, Hid ((bits .and .i64 i 15) = z) := ⟨_, hide rfl⟩
  obtain ⟨ib, Hib⟩ : ∃ z, Hid ((bits .and .i64 k 15) = z) := ⟨_, hide rfl⟩
  have hqq : 0 ≤ qq ∧ qq ≤ 255 := by have := bits_range q 255 (by omega); rw [show (((255 : Nat) : Int)) = 255 from rfl, Hqq.out] at this; exact this
  have hia : 0 ≤ ia ∧ ia ≤ 15 := by have := bits_range i 15 (by omega); rw [show (((15 : Nat) : Int)) = 15 from rfl, Hia.out] at this; exact this
  have hib : 0 ≤ ib ∧ ib ≤ 15 := by have := bits_range k 15 (by omega); rw [show (((15 : Nat) : Int)) = 15 from rfl, Hib.out] at this; exact this
  have hab : alo ≤ ahi ∧ blo ≤ bhi := by have g1 := Halo.out; have g2 := Hahi.out; have g3 := Hblo.out; have g4 := Hbhi.out; omega
  have HRa : Hid (rightB alo ahi qq = true) := hide (rightB_iff.2 (by omega))
  have HRb : Hid (rightB blo bhi qq = true) := hide (rightB_iff.2 (by omega))
  have HPP : Hid (pairB alo ahi qq blo bhi qq = true) := hide (by unfold pairB; rw [HRa.out, HRb.out]; simp)
  have HLa : Hid (alo.natAbs < W ^ 4 ∧ ahi.natAbs < W ^ 4) := hide (by have g1 := Halo.out; have g2 := Hahi.out; have g3 := HZL0.out; have g4 := HZL1.out; omega)
  have HLb : Hid (blo.natAbs < W ^ 4 ∧ bhi.natAbs < W ^ 4) := hide (by have g1 := Hblo.out; have g2 := Hbhi.out; have g3 := HZL2.out; have g4 := HZL3.out; omega)
  obtain ⟨zx, Hzx⟩ : ∃ z, Hid ((someZ alo ahi ia) = z) := ⟨_, hide rfl⟩
  obtain ⟨zy, Hzy⟩ : ∃ z, Hid ((someZ blo bhi ib) = z) := ⟨_, hide rfl⟩
  have HX : Hid (alo ≤ zx ∧ zx ≤ ahi) := hide (by rw [← Hzx.out]; exact someZ_in hab.1 hia.1 hia.2)
  have HY : Hid (blo ≤ zy ∧ zy ≤ bhi) := hide (by rw [← Hzy.out]; exact someZ_in hab.2 hib.1 hib.2)
  have HW48 : Hid (W ^ 4 ≤ W ^ 8) := hide (Nat.pow_le_pow_right (by unfold W; omega) (by omega))
  have HLX : Hid (zx.natAbs < W ^ 8) := hide (by have g1 := HX.out; have g2 := HLa.out; have g3 := HW48.out; omega)
  have HLY : Hid (zy.natAbs < W ^ 8) := hide (by have g1 := HY.out; have g2 := HLb.out; have g3 := HW48.out; omega)
  have HSu := hide (sure HRa.out HRb.out hqq.2 HX.out.1 HX.out.2 HY.out.1 HY.out.2 HLX.out HLY.out)
  have HmulH := hide (has_mul HRa.out HRb.out hqq.2 HX.out.1 HX.out.2 HY.out.1 HY.out.2 HLX.out HLY.out (Nat.le_refl 8))
  have HnM : Hid (nM zx (-qq) = pM (vz zx qq)) := hide (nM_at hqq.1 hqq.2)
  have HnE : Hid (nE zx (-qq) = pE (vz zx qq) (-((4000 : Nat) : Int))) := hide (nE_at hqq.1 hqq.2)
  have HnM' : Hid (nM zy (-qq) = pM (vz zy qq)) := hide (nM_at hqq.1 hqq.2)
  have HnE' : Hid (nE zy (-qq) = pE (vz zy qq) (-((4000 : Nat) : Int))) := hide (nE_at hqq.1 hqq.2)
  obtain ⟨HSx, HSy, HSs, HSt, HVx, HVy, HBx, HBy, HBs, HBt, HBm⟩ := HSu.out
  clear HSu
  have HMl := HmulH.out
  clear HmulH
  have HN1 := HnM.out
  have HN2 := HnE.out
  have HN3 := HnM'.out
  have HN4 := HnE'.out
  clear HnM HnE HnM' HnE'
  obtain ⟨VX, HVX⟩ : ∃ z, Hid ((vz zx qq) = z) := ⟨_, hide rfl⟩
  (try simp only [HVX.out] at HSx HSy HSs HSt HVx HVy HBx HBy HBs HBt HBm HMl HN1 HN2 HN3 HN4)
  obtain ⟨VY, HVY⟩ : ∃ z, Hid ((vz zy qq) = z) := ⟨_, hide rfl⟩
  (try simp only [HVY.out] at HSx HSy HSs HSt HVx HVy HBx HBy HBs HBt HBm HMl HN1 HN2 HN3 HN4)
  obtain ⟨mx, Hmx⟩ : ∃ z, Hid ((pM VX) = z) := ⟨_, hide rfl⟩
  (try simp only [Hmx.out] at HSx HSy HSs HSt HVx HVy HBx HBy HBs HBt HBm HMl HN1 HN2 HN3 HN4)
  obtain ⟨ex, Hex⟩ : ∃ z, Hid ((pE VX (-((4000 : Nat) : Int))) = z) := ⟨_, hide rfl⟩
  (try simp only [Hex.out] at HSx HSy HSs HSt HVx HVy HBx HBy HBs HBt HBm HMl HN1 HN2 HN3 HN4)
  obtain ⟨my, Hmy⟩ : ∃ z, Hid ((pM VY) = z) := ⟨_, hide rfl⟩
  (try simp only [Hmy.out] at HSx HSy HSs HSt HVx HVy HBx HBy HBs HBt HBm HMl HN1 HN2 HN3 HN4)
  obtain ⟨ey, Hey⟩ : ∃ z, Hid ((pE VY (-((4000 : Nat) : Int))) = z) := ⟨_, hide rfl⟩
  (try simp only [Hey.out] at HSx HSy HSs HSt HVx HVy HBx HBy HBs HBt HBm HMl HN1 HN2 HN3 HN4)
  obtain ⟨ms, Hms⟩ : ∃ z, Hid ((pM (VX + VY)) = z) := ⟨_, hide rfl⟩
  (try simp only [Hms.out] at HSx HSy HSs HSt HVx HVy HBx HBy HBs HBt HBm HMl HN1 HN2 HN3 HN4)
  obtain ⟨es, Hes⟩ : ∃ z, Hid ((pE (VX + VY) (-((4000 : Nat) : Int))) = z) := ⟨_, hide rfl⟩
  (try simp only [Hes.out] at HSx HSy HSs HSt HVx HVy HBx HBy HBs HBt HBm HMl HN1 HN2 HN3 HN4)
  obtain ⟨mt, Hmt⟩ : ∃ z, Hid ((pM (VX - VY)) = z) := ⟨_, hide rfl⟩
  (try simp only [Hmt.out] at HSx HSy HSs HSt HVx HVy HBx HBy HBs HBt HBm HMl HN1 HN2 HN3 HN4)
  obtain ⟨et, Het⟩ : ∃ z, Hid ((pE (VX - VY) (-((4000 : Nat) : Int))) = z) := ⟨_, hide rfl⟩
  (try simp only [Het.out] at HSx HSy HSs HSt HVx HVy HBx HBy HBs HBt HBm HMl HN1 HN2 HN3 HN4)
  obtain ⟨mm, Hmm⟩ : ∃ z, Hid ((pM (VX * VY)) = z) := ⟨_, hide rfl⟩
  (try simp only [Hmm.out] at HSx HSy HSs HSt HVx HVy HBx HBy HBs HBt HBm HMl HN1 HN2 HN3 HN4)
  obtain ⟨em, Hem⟩ : ∃ z, Hid ((pE (VX * VY) (-((4000 + 4000 : Nat) : Int))) = z) := ⟨_, hide rfl⟩
  (try simp only [Hem.out] at HSx HSy HSs HSt HVx HVy HBx HBy HBs HBt HBm HMl HN1 HN2 HN3 HN4)
  replace HSx := hide HSx
  replace HSy := hide HSy
  replace HSs := hide HSs
  replace HSt := hide HSt
  replace HVx := hide HVx
  replace HVy := hide HVy
  replace HBx := hide HBx
  replace HBy := hide HBy
  replace HBs := hide HBs
  replace HBt := hide HBt
  replace HBm := hide HBm
  replace HMl := hide HMl
  replace HN1 := hide HN1
  replace HN2 := hide HN2
  replace HN3 := hide HN3
  replace HN4 := hide HN4
  obtain ⟨sl, Hsl⟩ : ∃ z, Hid ((alo + blo) = z) := ⟨_, hide rfl⟩
  obtain ⟨sh, Hsh⟩ : ∃ z, Hid ((ahi + bhi) = z) := ⟨_, hide rfl⟩
  obtain ⟨tl, Htl⟩ : ∃ z, Hid ((alo - bhi) = z) := ⟨_, hide rfl⟩
  obtain ⟨th, Hth⟩ : ∃ z, Hid ((ahi - blo) = z) := ⟨_, hide rfl⟩
  obtain ⟨pl, Hpl⟩ : ∃ z, Hid ((vDn (min4 (alo * blo) (alo * bhi) (ahi * blo) (ahi * bhi)) qq) = z) := ⟨_, hide rfl⟩
  obtain ⟨ph, Hph⟩ : ∃ z, Hid ((vOv (max4 (alo * blo) (alo * bhi) (ahi * blo) (ahi * bhi)) qq) = z) := ⟨_, hide rfl⟩
  obtain ⟨dl, Hdl⟩ : ∃ z, Hid ((min4 (vLo qq alo blo) (vLo qq alo bhi) (vLo qq ahi blo) (vLo qq ahi bhi)) = z) := ⟨_, hide rfl⟩
  obtain ⟨dh, Hdh⟩ : ∃ z, Hid ((max4 (vHi qq alo blo) (vHi qq alo bhi) (vHi qq ahi blo) (vHi qq ahi bhi)) = z) := ⟨_, hide rfl⟩
  have HSs' : Hid (hasB sl sh qq ms es = true) := hide (by rw [← Hsl.out, ← Hsh.out]; exact HSs.out)
  have HSt' : Hid (hasB tl th qq mt et = true) := hide (by rw [← Htl.out, ← Hth.out]; exact HSt.out)
  have HMl' : Hid (hasB pl ph qq mm em = true) := hide (by rw [← Hpl.out, ← Hph.out]; exact HMl.out)
  clear HSs HSt HMl
  obtain ⟨ze, Hze⟩ : ∃ z, Hid ((decide (blo ≤ 0 ∧ 0 ≤ bhi)) = z) := ⟨_, hide rfl⟩
  have HZR : Hid (hasB blo bhi qq 0 0 = ze) := hide ((has_zero HRb.out hqq.2).trans Hze.out)
  have HSG : Hid ((pairB alo ahi qq blo bhi qq && decide (0 < blo.sign * bhi.sign)) = !ze) := hide (by rw [HPP.out, Bool.true_and, sign_mul_pos hab.2, Hze.out])
  obtain ⟨el, Hel⟩ : ∃ z, Hid ((vDn (min4 (dl * blo) (dl * bhi) (dh * blo) (dh * bhi)) qq) = z) := ⟨_, hide rfl⟩
  obtain ⟨eh, Heh⟩ : ∃ z, Hid ((vOv (max4 (dl * blo) (dl * bhi) (dh * blo) (dh * bhi)) qq) = z) := ⟨_, hide rfl⟩
  have HDV : Hid (ze = false → rightB dl dh qq = true ∧ hasB el eh qq mx ex = true) := hide (fun h => by
      have hne : blo ≠ 0 := fun h0 => by
        have := Hze.out
        rw [h, decide_eq_false_iff_not] at this
        omega
      rw [← Hel.out, ← Heh.out, ← Hdl.out, ← Hdh.out]
      exact ⟨div_right HRa.out hne, has_div HRa.out hqq.2 HX.out.1 HX.out.2 hne (HVx.out.trans HVX.out.symm)⟩)
  have hBx := HBx.out
  have hBy := HBy.out
  have hBs := HBs.out
  have hBt := HBt.out
  have hBm := HBm.out
  obtain ⟨Bac0, Bac1, Bac2, Bac3, Bac4, -⟩ := Ba.five
  obtain ⟨Bbc0, Bbc1, Bbc2, Bbc3, Bbc4, -⟩ := Bb.five
  go_enter Try.func6, Try.ntmps6
  go_upto_region 1 with (fail)
  rw [← hW]
  clear hW
  have HP := shown5_calls w0
  have HPH := hide HP
  clear HP
  go_wp2_with fail
  refine HPH.out.mono ?_
  rintro e w1 ⟨hb, rfl⟩
  clear HPH
  clear Bac0 Bac1 Bac2 Bac3 Bac4 Bbc0 Bbc1 Bbc2 Bbc3 Bbc4
  have Ba := Ba.below hb Ba.lt
  have Bb := Bb.below hb Bb.lt
  have HB := hide (HB.out.trans (hb.mono HB.out.size))
  have hsz := Nat.le_trans hsz hb.size
  clear hb
  obtain ⟨Bac0, Bac1, Bac2, Bac3, Bac4, -⟩ := Ba.five
  obtain ⟨Bbc0, Bbc1, Bbc2, Bbc3, Bbc4, -⟩ := Bb.five
  have hsp := hsz
  have HP := right5_calls w1 n0 n1 A0 A1 l0 l1 c0 c1 Qa q L0 L1 (h0.below HB.out) (h1.below HB.out)
  rw [HZ0.out, HZ1.out, Halo.out, Hahi.out, Hqq.out] at HP
  have HPH := hide HP
  clear HP
  go_wp2_with fail
  refine HPH.out.mono ?_
  rintro e w2 ⟨hb, N0, C0, j0, i0_, N1, C1, j1, i1_, rfl, hn0, hn1⟩
  clear HPH
  clear Bac0 Bac1 Bac2 Bac3 Bac4 Bbc0 Bbc1 Bbc2 Bbc3 Bbc4
  have Ba := Ba.below hb Ba.lt
  have Bb := Bb.below hb Bb.lt
  have HB := hide (HB.out.trans (hb.mono HB.out.size))
  have hsz := Nat.le_trans hsz hb.size
  clear hb
  obtain ⟨Bac0, Bac1, Bac2, Bac3, Bac4, -⟩ := Ba.five
  obtain ⟨Bbc0, Bbc1, Bbc2, Bbc3, Bbc4, -⟩ := Bb.five
  have hn0 := hn0.mono hsp
  have hn1 := hn1.mono hsp
  clear Bac0 Bac1 Bac2 Bac3 Bac4 Bbc0 Bbc1 Bbc2 Bbc3 Bbc4
  obtain ⟨Bac0, Bac1, Bac2, Bac3, Bac4, Baf0, Baf1, Baf2, Baf3, Baf4⟩ := Ba.five
  obtain ⟨w3, hW, Ban, kq, kb, ks, kg, kn⟩ := set5_qn Ba (.bool N0) (.slice C0 j0 i0_) (.bool N1) (.slice C1 j1 i1_) (.int .i64 qq)
  have Bb := kg _ _ _ (by omega) Bb
  have Ba := Ban
  have HB := hide (kb _ _ HB.out (by omega))
  have hsz := Nat.le_trans hsz (Nat.le_of_eq ks.symm)
  have hn0 := kq _ _ _ _ _ _ _ (by omega) hn0
  have hn1 := kq _ _ _ _ _ _ _ (by omega) hn1
  clear kq kb ks kg kn
  go_upto_region 3 with (fail)
  rw [← hW]
  clear hW Bac0 Baf0 Bac1 Baf1 Bac2 Baf2 Bac3 Baf3 Bac4 Baf4
  obtain ⟨Bac0, Bac1, Bac2, Bac3, Bac4, -⟩ := Ba.five
  obtain ⟨Bbc0, Bbc1, Bbc2, Bbc3, Bbc4, -⟩ := Bb.five
  have hsp := hsz
  have HP := right5_calls w3 n2 n3 A2 A3 l2 l3 c2 c3 Qb q L2 L3 (h2.below HB.out) (h3.below HB.out)
  rw [HZ2.out, HZ3.out, Hblo.out, Hbhi.out, Hqq.out] at HP
  have HPH := hide HP
  clear HP
  go_wp2_with fail
  refine HPH.out.mono ?_
  rintro e w4 ⟨hb, N2, C2, j2, i2_, N3, C3, j3, i3_, rfl, hn2, hn3⟩
  clear HPH
  clear Bac0 Bac1 Bac2 Bac3 Bac4 Bbc0 Bbc1 Bbc2 Bbc3 Bbc4
  have Ba := Ba.below hb Ba.lt
  have Bb := Bb.below hb Bb.lt
  have hn0 := hn0.below hb
  have hn1 := hn1.below hb
  have HB := hide (HB.out.trans (hb.mono HB.out.size))
  have hsz := Nat.le_trans hsz hb.size
  clear hb
  obtain ⟨Bac0, Bac1, Bac2, Bac3, Bac4, -⟩ := Ba.five
  obtain ⟨Bbc0, Bbc1, Bbc2, Bbc3, Bbc4, -⟩ := Bb.five
  have hn2 := hn2.mono hsp
  have hn3 := hn3.mono hsp
  clear Bac0 Bac1 Bac2 Bac3 Bac4 Bbc0 Bbc1 Bbc2 Bbc3 Bbc4
  obtain ⟨Bbc0, Bbc1, Bbc2, Bbc3, Bbc4, Bbf0, Bbf1, Bbf2, Bbf3, Bbf4⟩ := Bb.five
  obtain ⟨w5, hW, Bbn, kq, kb, ks, kg, kn⟩ := set5_qn Bb (.bool N2) (.slice C2 j2 i2_) (.bool N3) (.slice C3 j3 i3_) (.int .i64 qq)
  have Ba := kg _ _ _ (by omega) Ba
  have Bb := Bbn
  have HB := hide (kb _ _ HB.out (by omega))
  have hsz := Nat.le_trans hsz (Nat.le_of_eq ks.symm)
  have hn0 := kq _ _ _ _ _ _ _ (by omega) hn0
  have hn1 := kq _ _ _ _ _ _ _ (by omega) hn1
  have hn2 := kq _ _ _ _ _ _ _ (by omega) hn2
  have hn3 := kq _ _ _ _ _ _ _ (by omega) hn3
  clear kq kb ks kg kn
  go_upto_region 4 with (fail)
  rw [← hW]
  clear hW Bbc0 Bbf0 Bbc1 Bbf1 Bbc2 Bbf2 Bbc3 Bbf3 Bbc4 Bbf4
  obtain ⟨Bac0, Bac1, Bac2, Bac3, Bac4, -⟩ := Ba.five
  obtain ⟨Bbc0, Bbc1, Bbc2, Bbc3, Bbc4, -⟩ := Bb.five
  have HP := some5_calls qq i hn0.q hn1.q (by omega) (by omega) (by omega)
  rw [Hia.out, Hzx.out, HN1.out, HN2.out] at HP
  have HPH := hide HP
  clear HP
  go_wp2_with fail
  refine HPH.out.mono ?_
  rintro e w6 ⟨hb, nX, DX, aX, kX, rfl, qX⟩
  clear HPH
  clear Bac0 Bac1 Bac2 Bac3 Bac4 Bbc0 Bbc1 Bbc2 Bbc3 Bbc4
  have Ba := Ba.below hb Ba.lt
  have Bb := Bb.below hb Bb.lt
  have hn0 := hn0.below hb
  have hn1 := hn1.below hb
  have hn2 := hn2.below hb
  have hn3 := hn3.below hb
  have HB := hide (HB.out.trans (hb.mono HB.out.size))
  have hsz := Nat.le_trans hsz hb.size
  clear hb
  obtain ⟨Bac0, Bac1, Bac2, Bac3, Bac4, -⟩ := Ba.five
  obtain ⟨Bbc0, Bbc1, Bbc2, Bbc3, Bbc4, -⟩ := Bb.five
  clear Bac0 Bac1 Bac2 Bac3 Bac4 Bbc0 Bbc1 Bbc2 Bbc3 Bbc4
  obtain ⟨w7, hW, X, hb, hs⟩ := start1 w6 43 #[.bool nX, .slice DX aX kX, .int .i64 ex]
  have Ba := Ba.below hb Ba.lt
  have Bb := Bb.below hb Bb.lt
  have hn0 := hn0.below hb
  have hn1 := hn1.below hb
  have hn2 := hn2.below hb
  have hn3 := hn3.below hb
  have qX := qX.below hb
  have HB := hide (HB.out.trans (hb.mono HB.out.size))
  have hsz := Nat.le_trans hsz hb.size
  clear hb hs
  go_upto_region 5 with (fail)
  rw [← hW]
  clear hW
  obtain ⟨Bac0, Bac1, Bac2, Bac3, Bac4, -⟩ := Ba.five
  obtain ⟨Bbc0, Bbc1, Bbc2, Bbc3, Bbc4, -⟩ := Bb.five
  obtain ⟨Xc0, Xc1, Xc2, -⟩ := X.three
  have HP := some5_calls qq k hn2.q hn3.q (by omega) (by omega) (by omega)
  rw [Hib.out, Hzy.out, HN3.out, HN4.out] at HP
  have HPH := hide HP
  clear HP
  go_wp2_with fail
  refine HPH.out.mono ?_
  rintro e w8 ⟨hb, nY, DY, aY, kY, rfl, qY⟩
  clear HPH
  clear Bac0 Bac1 Bac2 Bac3 Bac4 Bbc0 Bbc1 Bbc2 Bbc3 Bbc4 Xc0 Xc1 Xc2
  have Ba := Ba.below hb Ba.lt
  have Bb := Bb.below hb Bb.lt
  have X := X.below hb X.lt
  have hn0 := hn0.below hb
  have hn1 := hn1.below hb
  have hn2 := hn2.below hb
  have hn3 := hn3.below hb
  have qX := qX.below hb
  have HB := hide (HB.out.trans (hb.mono HB.out.size))
  have hsz := Nat.le_trans hsz hb.size
  clear hb
  obtain ⟨Bac0, Bac1, Bac2, Bac3, Bac4, -⟩ := Ba.five
  obtain ⟨Bbc0, Bbc1, Bbc2, Bbc3, Bbc4, -⟩ := Bb.five
  obtain ⟨Xc0, Xc1, Xc2, -⟩ := X.three
  clear Bac0 Bac1 Bac2 Bac3 Bac4 Bbc0 Bbc1 Bbc2 Bbc3 Bbc4 Xc0 Xc1 Xc2
  obtain ⟨w9, hW, Y, hb, hs⟩ := start1 w8 43 #[.bool nY, .slice DY aY kY, .int .i64 ey]
  have Ba := Ba.below hb Ba.lt
  have Bb := Bb.below hb Bb.lt
  have X := X.below hb X.lt
  have hn0 := hn0.below hb
  have hn1 := hn1.below hb
  have hn2 := hn2.below hb
  have hn3 := hn3.below hb
  have qX := qX.below hb
  have qY := qY.below hb
  have HB := hide (HB.out.trans (hb.mono HB.out.size))
  have hsz := Nat.le_trans hsz hb.size
  clear hb hs
  go_upto_region 6 with (fail)
  rw [← hW]
  clear hW
  obtain ⟨Bac0, Bac1, Bac2, Bac3, Bac4, -⟩ := Ba.five
  obtain ⟨Bbc0, Bbc1, Bbc2, Bbc3, Bbc4, -⟩ := Bb.five
  obtain ⟨Xc0, Xc1, Xc2, -⟩ := X.three
  obtain ⟨Yc0, Yc1, Yc2, -⟩ := Y.three
  have HP := badd_calls qq qq hn0.q hn1.q hn2.q hn3.q (by omega)
  unfold RetE at HP
  rw [HPP.out, Hsl.out, Hsh.out] at HP
  simp only [eq_self, if_true] at HP
  have HPH := hide HP
  clear HP
  go_wp2_with fail
  refine HPH.out.mono ?_
  rintro e w10 ⟨hb, nS, DS, aS, kS, mS, GS, bS, rS, rfl, qS, pS⟩
  clear HPH
  clear Bac0 Bac1 Bac2 Bac3 Bac4 Bbc0 Bbc1 Bbc2 Bbc3 Bbc4 Xc0 Xc1 Xc2 Yc0 Yc1 Yc2
  have Ba := Ba.below hb Ba.lt
  have Bb := Bb.below hb Bb.lt
  have X := X.below hb X.lt
  have Y := Y.below hb Y.lt
  have hn0 := hn0.below hb
  have hn1 := hn1.below hb
  have hn2 := hn2.below hb
  have hn3 := hn3.below hb
  have qX := qX.below hb
  have qY := qY.below hb
  have HB := hide (HB.out.trans (hb.mono HB.out.size))
  have hsz := Nat.le_trans hsz hb.size
  clear hb
  obtain ⟨Bac0, Bac1, Bac2, Bac3, Bac4, -⟩ := Ba.five
  obtain ⟨Bbc0, Bbc1, Bbc2, Bbc3, Bbc4, -⟩ := Bb.five
  obtain ⟨Xc0, Xc1, Xc2, -⟩ := X.three
  obtain ⟨Yc0, Yc1, Yc2, -⟩ := Y.three
  clear Bac0 Bac1 Bac2 Bac3 Bac4 Bbc0 Bbc1 Bbc2 Bbc3 Bbc4 Xc0 Xc1 Xc2 Yc0 Yc1 Yc2
  obtain ⟨w11, hW, Sm, hb, hs⟩ := start1 w10 27 #[.bool nS, .slice DS aS kS, .bool mS, .slice GS bS rS, .int .i64 qq]
  have Ba := Ba.below hb Ba.lt
  have Bb := Bb.below hb Bb.lt
  have X := X.below hb X.lt
  have Y := Y.below hb Y.lt
  have hn0 := hn0.below hb
  have hn1 := hn1.below hb
  have hn2 := hn2.below hb
  have hn3 := hn3.below hb
  have qX := qX.below hb
  have qY := qY.below hb
  have qS := qS.below hb
  have pS := pS.below hb
  have HB := hide (HB.out.trans (hb.mono HB.out.size))
  have hsz := Nat.le_trans hsz hb.size
  clear hb hs
  go_upto_region 7 with (fail)
  rw [← hW]
  clear hW
  obtain ⟨Bac0, Bac1, Bac2, Bac3, Bac4, -⟩ := Ba.five
  obtain ⟨Bbc0, Bbc1, Bbc2, Bbc3, Bbc4, -⟩ := Bb.five
  obtain ⟨Xc0, Xc1, Xc2, -⟩ := X.three
  obtain ⟨Yc0, Yc1, Yc2, -⟩ := Y.three
  obtain ⟨Smc0, Smc1, Smc2, Smc3, Smc4, -⟩ := Sm.five
  have HP := bsub_calls qq qq hn0.q hn1.q hn2.q hn3.q (by omega)
  unfold RetE at HP
  rw [HPP.out, Htl.out, Hth.out] at HP
  simp only [eq_self, if_true] at HP
  have HPH := hide HP
  clear HP
  go_wp2_with fail
  refine HPH.out.mono ?_
  rintro e w12 ⟨hb, nT, DT, aT, kT, mT, GT, bT, rT, rfl, qT, pT⟩
  clear HPH
  clear Bac0 Bac1 Bac2 Bac3 Bac4 Bbc0 Bbc1 Bbc2 Bbc3 Bbc4 Xc0 Xc1 Xc2 Yc0 Yc1 Yc2 Smc0 Smc1 Smc2 Smc3 Smc4
  have Ba := Ba.below hb Ba.lt
  have Bb := Bb.below hb Bb.lt
  have X := X.below hb X.lt
  have Y := Y.below hb Y.lt
  have Sm := Sm.below hb Sm.lt
  have hn0 := hn0.below hb
  have hn1 := hn1.below hb
  have hn2 := hn2.below hb
  have hn3 := hn3.below hb
  have qX := qX.below hb
  have qY := qY.below hb
  have qS := qS.below hb
  have pS := pS.below hb
  have HB := hide (HB.out.trans (hb.mono HB.out.size))
  have hsz := Nat.le_trans hsz hb.size
  clear hb
  obtain ⟨Bac0, Bac1, Bac2, Bac3, Bac4, -⟩ := Ba.five
  obtain ⟨Bbc0, Bbc1, Bbc2, Bbc3, Bbc4, -⟩ := Bb.five
  obtain ⟨Xc0, Xc1, Xc2, -⟩ := X.three
  obtain ⟨Yc0, Yc1, Yc2, -⟩ := Y.three
  obtain ⟨Smc0, Smc1, Smc2, Smc3, Smc4, -⟩ := Sm.five
  clear Bac0 Bac1 Bac2 Bac3 Bac4 Bbc0 Bbc1 Bbc2 Bbc3 Bbc4 Xc0 Xc1 Xc2 Yc0 Yc1 Yc2 Smc0 Smc1 Smc2 Smc3 Smc4
  obtain ⟨w13, hW, Df, hb, hs⟩ := start1 w12 27 #[.bool nT, .slice DT aT kT, .bool mT, .slice GT bT rT, .int .i64 qq]
  have Ba := Ba.below hb Ba.lt
  have Bb := Bb.below hb Bb.lt
  have X := X.below hb X.lt
  have Y := Y.below hb Y.lt
  have Sm := Sm.below hb Sm.lt
  have hn0 := hn0.below hb
  have hn1 := hn1.below hb
  have hn2 := hn2.below hb
  have hn3 := hn3.below hb
  have qX := qX.below hb
  have qY := qY.below hb
  have qS := qS.below hb
  have pS := pS.below hb
  have qT := qT.below hb
  have pT := pT.below hb
  have HB := hide (HB.out.trans (hb.mono HB.out.size))
  have hsz := Nat.le_trans hsz hb.size
  clear hb hs
  go_upto_region 8 with (fail)
  rw [← hW]
  clear hW
  obtain ⟨Bac0, Bac1, Bac2, Bac3, Bac4, -⟩ := Ba.five
  obtain ⟨Bbc0, Bbc1, Bbc2, Bbc3, Bbc4, -⟩ := Bb.five
  obtain ⟨Xc0, Xc1, Xc2, -⟩ := X.three
  obtain ⟨Yc0, Yc1, Yc2, -⟩ := Y.three
  obtain ⟨Smc0, Smc1, Smc2, Smc3, Smc4, -⟩ := Sm.five
  obtain ⟨Dfc0, Dfc1, Dfc2, Dfc3, Dfc4, -⟩ := Df.five
  have HP := bmul_calls qq qq hn0.q hn1.q hn2.q hn3.q (by omega)
  unfold RetE at HP
  rw [HPP.out, Hpl.out, Hph.out] at HP
  simp only [eq_self, if_true] at HP
  have HPH := hide HP
  clear HP
  go_wp2_with fail
  refine HPH.out.mono ?_
  rintro e w14 ⟨hb, nM, DM, aM, kM, mM, GM, bM, rM, rfl, qM, pM⟩
  clear HPH
  clear Bac0 Bac1 Bac2 Bac3 Bac4 Bbc0 Bbc1 Bbc2 Bbc3 Bbc4 Xc0 Xc1 Xc2 Yc0 Yc1 Yc2 Smc0 Smc1 Smc2 Smc3 Smc4 Dfc0 Dfc1 Dfc2 Dfc3 Dfc4
  have Ba := Ba.below hb Ba.lt
  have Bb := Bb.below hb Bb.lt
  have X := X.below hb X.lt
  have Y := Y.below hb Y.lt
  have Sm := Sm.below hb Sm.lt
  have Df := Df.below hb Df.lt
  have hn0 := hn0.below hb
  have hn1 := hn1.below hb
  have hn2 := hn2.below hb
  have hn3 := hn3.below hb
  have qX := qX.below hb
  have qY := qY.below hb
  have qS := qS.below hb
  have pS := pS.below hb
  have qT := qT.below hb
  have pT := pT.below hb
  have HB := hide (HB.out.trans (hb.mono HB.out.size))
  have hsz := Nat.le_trans hsz hb.size
  clear hb
  obtain ⟨Bac0, Bac1, Bac2, Bac3, Bac4, -⟩ := Ba.five
  obtain ⟨Bbc0, Bbc1, Bbc2, Bbc3, Bbc4, -⟩ := Bb.five
  obtain ⟨Xc0, Xc1, Xc2, -⟩ := X.three
  obtain ⟨Yc0, Yc1, Yc2, -⟩ := Y.three
  obtain ⟨Smc0, Smc1, Smc2, Smc3, Smc4, -⟩ := Sm.five
  obtain ⟨Dfc0, Dfc1, Dfc2, Dfc3, Dfc4, -⟩ := Df.five
  clear Bac0 Bac1 Bac2 Bac3 Bac4 Bbc0 Bbc1 Bbc2 Bbc3 Bbc4 Xc0 Xc1 Xc2 Yc0 Yc1 Yc2 Smc0 Smc1 Smc2 Smc3 Smc4 Dfc0 Dfc1 Dfc2 Dfc3 Dfc4
  obtain ⟨w15, hW, Ml, hb, hs⟩ := start1 w14 27 #[.bool nM, .slice DM aM kM, .bool mM, .slice GM bM rM, .int .i64 qq]
  have Ba := Ba.below hb Ba.lt
  have Bb := Bb.below hb Bb.lt
  have X := X.below hb X.lt
  have Y := Y.below hb Y.lt
  have Sm := Sm.below hb Sm.lt
  have Df := Df.below hb Df.lt
  have hn0 := hn0.below hb
  have hn1 := hn1.below hb
  have hn2 := hn2.below hb
  have hn3 := hn3.below hb
  have qX := qX.below hb
  have qY := qY.below hb
  have qS := qS.below hb
  have pS := pS.below hb
  have qT := qT.below hb
  have pT := pT.below hb
  have qM := qM.below hb
  have pM := pM.below hb
  have HB := hide (HB.out.trans (hb.mono HB.out.size))
  have hsz := Nat.le_trans hsz hb.size
  clear hb hs
  go_upto_region 9 with (fail)
  rw [← hW]
  clear hW
  obtain ⟨Bac0, Bac1, Bac2, Bac3, Bac4, -⟩ := Ba.five
  obtain ⟨Bbc0, Bbc1, Bbc2, Bbc3, Bbc4, -⟩ := Bb.five
  obtain ⟨Xc0, Xc1, Xc2, -⟩ := X.three
  obtain ⟨Yc0, Yc1, Yc2, -⟩ := Y.three
  obtain ⟨Smc0, Smc1, Smc2, Smc3, Smc4, -⟩ := Sm.five
  obtain ⟨Dfc0, Dfc1, Dfc2, Dfc3, Dfc4, -⟩ := Df.five
  obtain ⟨Mlc0, Mlc1, Mlc2, Mlc3, Mlc4, -⟩ := Ml.five
  refine wp_region_free [.o, .o, .o, .o, .o, .o, .o, .o, .o, .o, .o, .o, .o, .o, .o, .o, .o, .o, .o, .o, .o, .o, .o, .o, .o, .o, .o, .o, .o, .o, .o, .o, .o, .o, .o, .o, .o, .o] [Fact.eq ?ca56, Fact.eq ?ca57, Fact.eq ?ca58, Fact.eq ?ca59, Fact.eq ?ca60, Fact.eq (.bool true), Fact.eq ?ca62, Fact.eq ?ca63, Fact.eq ?ca64, Fact.eq ?ca65, Fact.eq ?ca66, Fact.eq (.bool true), Fact.eq ?ca68, Fact.eq ?ca69, Fact.eq ?ca70, Fact.eq ?ca71, Fact.eq ?ca72, Fact.eq ?ca73, Fact.dyad (8 + 8 + 126) ms es, Fact.eq (.bool true), Fact.eq ?ca76, Fact.eq ?ca77, Fact.eq ?ca78, Fact.eq ?ca79, Fact.eq ?ca80, Fact.eq ?ca81, Fact.dyad (8 + 8 + 126) mt et, Fact.eq (.bool true), Fact.eq ?ca84, Fact.eq ?ca85, Fact.eq ?ca86, Fact.eq ?ca87, Fact.eq ?ca88, Fact.eq ?ca89, Fact.dyad (8 + 8) mm em, Fact.eq (.bool true), Fact.eq ?ca92, Fact.eq ?ca93] [56, 57, 58, 59, 60, 61, 62, 63, 64, 65, 66, 67, 68, 69, 70, 71, 72, 73, 74, 75, 76, 77, 78, 79, 80, 81, 82, 83, 84, 85, 86, 87, 88, 89, 90, 91, 92, 93] [56, 57, 58, 59, 60, 61, 62, 63, 64, 65, 66, 67, 68, 69, 70, 71, 72, 73, 74, 75, 76, 77, 78, 79, 80, 81, 82, 83, 84, 85, 86, 87, 88, 89, 90, 91, 92, 93] (by kernel_rfl) (by kernel_rfl) ?sta ?fina
  case sta =>
    refine Steps.consO rfl ?_ ?_
    · intro vz wz hBz hDz K hK
      replace hK := hK.out
      simp only [actv, fill, Act.put, fc, List.getD_cons_zero, List.getD_cons_succ, List.foldl_cons, List.foldl_nil, List.setIfInBounds_toArray, List.set_cons_succ, List.set_cons_zero] at hK
      apply Kept.mk
      simp only [Wp, actv, fill, List.foldl_cons, List.foldl_nil, List.setIfInBounds_toArray, List.set_cons_succ, List.set_cons_zero]
      go_simp
      refine hK _ wz (Below.refl _ _) (Fact.eq_mk ?_)
      with_reducible rfl
    refine Steps.consO rfl ?_ ?_
    · intro vz wz hBz hDz K hK
      have E56 : vz 56 = _ := hDz 0 (by kernel_rfl) rfl
      replace hK := hK.out
      simp only [actv, fill, Act.put, fc, List.getD_cons_zero, List.getD_cons_succ, List.foldl_cons, List.foldl_nil, List.setIfInBounds_toArray, List.set_cons_succ, List.set_cons_zero] at hK
      apply Kept.mk
      simp only [Wp, actv, fill, List.foldl_cons, List.foldl_nil, List.setIfInBounds_toArray, List.set_cons_succ, List.set_cons_zero]
      simp only [E56] at hK ⊢
      go_simp
      refine hK _ wz (Below.refl _ _) (Fact.eq_mk ?_)
      with_reducible rfl
    refine Steps.consO rfl ?_ ?_
    · intro vz wz hBz hDz K hK
      have E57 : vz 57 = _ := hDz 1 (by kernel_rfl) rfl
      replace hK := hK.out
      simp only [actv, fill, Act.put, fc, List.getD_cons_zero, List.getD_cons_succ, List.foldl_cons, List.foldl_nil, List.setIfInBounds_toArray, List.set_cons_succ, List.set_cons_zero] at hK
      apply Kept.mk
      simp only [Wp, actv, fill, List.foldl_cons, List.foldl_nil, List.setIfInBounds_toArray, List.set_cons_succ, List.set_cons_zero]
      simp only [E57] at hK ⊢
      go_simp
      refine hK _ wz (Below.refl _ _) (Fact.eq_mk ?_)
      with_reducible rfl
    refine Steps.consO rfl ?_ ?_
    · intro vz wz hBz hDz K hK
      have E58 : vz 58 = _ := hDz 2 (by kernel_rfl) rfl
      have Baz := Ba.drew.below hBz Ba.lt
      obtain ⟨Bac0, Bac1, Bac2, Bac3, Bac4, -⟩ := Baz.five
      have Bbz := Bb.drew.below hBz Bb.lt
      obtain ⟨Bbc0, Bbc1, Bbc2, Bbc3, Bbc4, -⟩ := Bbz.five
      have Xz := X.drew.below hBz X.lt
      obtain ⟨Xc0, Xc1, Xc2, -⟩ := Xz.three
      have Yz := Y.drew.below hBz Y.lt
      obtain ⟨Yc0, Yc1, Yc2, -⟩ := Yz.three
      have Smz := Sm.drew.below hBz Sm.lt
      obtain ⟨Smc0, Smc1, Smc2, Smc3, Smc4, -⟩ := Smz.five
      have Dfz := Df.drew.below hBz Df.lt
      obtain ⟨Dfc0, Dfc1, Dfc2, Dfc3, Dfc4, -⟩ := Dfz.five
      have Mlz := Ml.drew.below hBz Ml.lt
      obtain ⟨Mlc0, Mlc1, Mlc2, Mlc3, Mlc4, -⟩ := Mlz.five
      replace hK := hK.out
      simp only [actv, fill, Act.put, fc, List.getD_cons_zero, List.getD_cons_succ, List.foldl_cons, List.foldl_nil, List.setIfInBounds_toArray, List.set_cons_succ, List.set_cons_zero] at hK
      apply Kept.mk
      simp only [Wp, actv, fill, List.foldl_cons, List.foldl_nil, List.setIfInBounds_toArray, List.set_cons_succ, List.set_cons_zero]
      simp only [E58] at hK ⊢
      go_simp
      refine hK _ wz (Below.refl _ _) (Fact.eq_mk ?_)
      with_reducible rfl
    refine Steps.consO rfl ?_ ?_
    · intro vz wz hBz hDz K hK
      have E58 : vz 58 = _ := hDz 2 (by kernel_rfl) rfl
      have Baz := Ba.drew.below hBz Ba.lt
      obtain ⟨Bac0, Bac1, Bac2, Bac3, Bac4, -⟩ := Baz.five
      have Bbz := Bb.drew.below hBz Bb.lt
      obtain ⟨Bbc0, Bbc1, Bbc2, Bbc3, Bbc4, -⟩ := Bbz.five
      have Xz := X.drew.below hBz X.lt
      obtain ⟨Xc0, Xc1, Xc2, -⟩ := Xz.three
      have Yz := Y.drew.below hBz Y.lt
      obtain ⟨Yc0, Yc1, Yc2, -⟩ := Yz.three
      have Smz := Sm.drew.below hBz Sm.lt
      obtain ⟨Smc0, Smc1, Smc2, Smc3, Smc4, -⟩ := Smz.five
      have Dfz := Df.drew.below hBz Df.lt
      obtain ⟨Dfc0, Dfc1, Dfc2, Dfc3, Dfc4, -⟩ := Dfz.five
      have Mlz := Ml.drew.below hBz Ml.lt
      obtain ⟨Mlc0, Mlc1, Mlc2, Mlc3, Mlc4, -⟩ := Mlz.five
      replace hK := hK.out
      simp only [actv, fill, Act.put, fc, List.getD_cons_zero, List.getD_cons_succ, List.foldl_cons, List.foldl_nil, List.setIfInBounds_toArray, List.set_cons_succ, List.set_cons_zero] at hK
      apply Kept.mk
      simp only [Wp, actv, fill, List.foldl_cons, List.foldl_nil, List.setIfInBounds_toArray, List.set_cons_succ, List.set_cons_zero]
      simp only [E58] at hK ⊢
      go_simp
      refine hK _ wz (Below.refl _ _) (Fact.eq_mk ?_)
      with_reducible rfl
    refine Steps.consO rfl ?_ ?_
    · intro vz wz hBz hDz K hK
      have E59 : vz 59 = _ := hDz 3 (by kernel_rfl) rfl
      have E60 : vz 60 = _ := hDz 4 (by kernel_rfl) rfl
      have E58 : vz 58 = _ := hDz 2 (by kernel_rfl) rfl
      have HWz := hide ((Below.refl w15.heap.size w15).drew.trans hBz)
      replace hK := hK.out
      simp only [actv, fill, Act.put, fc, List.getD_cons_zero, List.getD_cons_succ, List.foldl_cons, List.foldl_nil, List.setIfInBounds_toArray, List.set_cons_succ, List.set_cons_zero] at hK
      apply Kept.mk
      simp only [Wp, actv, fill, List.foldl_cons, List.foldl_nil, List.setIfInBounds_toArray, List.set_cons_succ, List.set_cons_zero]
      simp only [E59, E60, E58] at hK ⊢
      go_simp
      refine Calls.mono (HSx.out ▸ has_calls (k := 200) qq ((hn0.q.at_ HWz).mono (show _ ≤ 200 by omega)) ((hn1.q.at_ HWz).mono (show _ ≤ 200 by omega)) ((qX.q.at_ HWz).mono (show _ ≤ 200 by omega)) (by omega) (by omega) (by omega)) ?_
      rintro e w2z ⟨hb2, rfl⟩
      go_wp2_with fail
      exact hK _ w2z hb2 (Fact.eq_mk rfl)
    refine Steps.consO rfl ?_ ?_
    · intro vz wz hBz hDz K hK
      have E61 : vz 61 = _ := hDz 5 (by kernel_rfl) rfl
      have E58 : vz 58 = _ := hDz 2 (by kernel_rfl) rfl
      replace hK := hK.out
      simp only [actv, fill, Act.put, fc, List.getD_cons_zero, List.getD_cons_succ, List.foldl_cons, List.foldl_nil, List.setIfInBounds_toArray, List.set_cons_succ, List.set_cons_zero] at hK
      apply Kept.mk
      simp only [Wp, actv, fill, List.foldl_cons, List.foldl_nil, List.setIfInBounds_toArray, List.set_cons_succ, List.set_cons_zero]
      simp only [E61, E58] at hK ⊢
      go_simp
      refine hK _ wz (Below.refl _ _) (Fact.eq_mk ?_)
      with_reducible rfl
    refine Steps.consO rfl ?_ ?_
    · intro vz wz hBz hDz K hK
      have E58 : vz 58 = _ := hDz 2 (by kernel_rfl) rfl
      have E62 : vz 62 = _ := hDz 6 (by kernel_rfl) rfl
      replace hK := hK.out
      simp only [actv, fill, Act.put, fc, List.getD_cons_zero, List.getD_cons_succ, List.foldl_cons, List.foldl_nil, List.setIfInBounds_toArray, List.set_cons_succ, List.set_cons_zero] at hK
      apply Kept.mk
      simp only [Wp, actv, fill, List.foldl_cons, List.foldl_nil, List.setIfInBounds_toArray, List.set_cons_succ, List.set_cons_zero]
      simp only [E58, E62] at hK ⊢
      go_simp
      refine hK _ wz (Below.refl _ _) (Fact.eq_mk ?_)
      with_reducible rfl
    refine Steps.consO rfl ?_ ?_
    · intro vz wz hBz hDz K hK
      have E63 : vz 63 = _ := hDz 7 (by kernel_rfl) rfl
      replace hK := hK.out
      simp only [actv, fill, Act.put, fc, List.getD_cons_zero, List.getD_cons_succ, List.foldl_cons, List.foldl_nil, List.setIfInBounds_toArray, List.set_cons_succ, List.set_cons_zero] at hK
      apply Kept.mk
      simp only [Wp, actv, fill, List.foldl_cons, List.foldl_nil, List.setIfInBounds_toArray, List.set_cons_succ, List.set_cons_zero]
      simp only [E63] at hK ⊢
      go_simp
      refine hK _ wz (Below.refl _ _) (Fact.eq_mk ?_)
      with_reducible rfl
    refine Steps.consO rfl ?_ ?_
    · intro vz wz hBz hDz K hK
      have E64 : vz 64 = _ := hDz 8 (by kernel_rfl) rfl
      have Baz := Ba.drew.below hBz Ba.lt
      obtain ⟨Bac0, Bac1, Bac2, Bac3, Bac4, -⟩ := Baz.five
      have Bbz := Bb.drew.below hBz Bb.lt
      obtain ⟨Bbc0, Bbc1, Bbc2, Bbc3, Bbc4, -⟩ := Bbz.five
      have Xz := X.drew.below hBz X.lt
      obtain ⟨Xc0, Xc1, Xc2, -⟩ := Xz.three
      have Yz := Y.drew.below hBz Y.lt
      obtain ⟨Yc0, Yc1, Yc2, -⟩ := Yz.three
      have Smz := Sm.drew.below hBz Sm.lt
      obtain ⟨Smc0, Smc1, Smc2, Smc3, Smc4, -⟩ := Smz.five
      have Dfz := Df.drew.below hBz Df.lt
      obtain ⟨Dfc0, Dfc1, Dfc2, Dfc3, Dfc4, -⟩ := Dfz.five
      have Mlz := Ml.drew.below hBz Ml.lt
      obtain ⟨Mlc0, Mlc1, Mlc2, Mlc3, Mlc4, -⟩ := Mlz.five
      replace hK := hK.out
      simp only [actv, fill, Act.put, fc, List.getD_cons_zero, List.getD_cons_succ, List.foldl_cons, List.foldl_nil, List.setIfInBounds_toArray, List.set_cons_succ, List.set_cons_zero] at hK
      apply Kept.mk
      simp only [Wp, actv, fill, List.foldl_cons, List.foldl_nil, List.setIfInBounds_toArray, List.set_cons_succ, List.set_cons_zero]
      simp only [E64] at hK ⊢
      go_simp
      refine hK _ wz (Below.refl _ _) (Fact.eq_mk ?_)
      with_reducible rfl
    refine Steps.consO rfl ?_ ?_
    · intro vz wz hBz hDz K hK
      have E64 : vz 64 = _ := hDz 8 (by kernel_rfl) rfl
      have Baz := Ba.drew.below hBz Ba.lt
      obtain ⟨Bac0, Bac1, Bac2, Bac3, Bac4, -⟩ := Baz.five
      have Bbz := Bb.drew.below hBz Bb.lt
      obtain ⟨Bbc0, Bbc1, Bbc2, Bbc3, Bbc4, -⟩ := Bbz.five
      have Xz := X.drew.below hBz X.lt
      obtain ⟨Xc0, Xc1, Xc2, -⟩ := Xz.three
      have Yz := Y.drew.below hBz Y.lt
      obtain ⟨Yc0, Yc1, Yc2, -⟩ := Yz.three
      have Smz := Sm.drew.below hBz Sm.lt
      obtain ⟨Smc0, Smc1, Smc2, Smc3, Smc4, -⟩ := Smz.five
      have Dfz := Df.drew.below hBz Df.lt
      obtain ⟨Dfc0, Dfc1, Dfc2, Dfc3, Dfc4, -⟩ := Dfz.five
      have Mlz := Ml.drew.below hBz Ml.lt
      obtain ⟨Mlc0, Mlc1, Mlc2, Mlc3, Mlc4, -⟩ := Mlz.five
      replace hK := hK.out
      simp only [actv, fill, Act.put, fc, List.getD_cons_zero, List.getD_cons_succ, List.foldl_cons, List.foldl_nil, List.setIfInBounds_toArray, List.set_cons_succ, List.set_cons_zero] at hK
      apply Kept.mk
      simp only [Wp, actv, fill, List.foldl_cons, List.foldl_nil, List.setIfInBounds_toArray, List.set_cons_succ, List.set_cons_zero]
      simp only [E64] at hK ⊢
      go_simp
      refine hK _ wz (Below.refl _ _) (Fact.eq_mk ?_)
      with_reducible rfl
    refine Steps.consO rfl ?_ ?_
    · intro vz wz hBz hDz K hK
      have E65 : vz 65 = _ := hDz 9 (by kernel_rfl) rfl
      have E66 : vz 66 = _ := hDz 10 (by kernel_rfl) rfl
      have E64 : vz 64 = _ := hDz 8 (by kernel_rfl) rfl
      have HWz := hide ((Below.refl w15.heap.size w15).drew.trans hBz)
      replace hK := hK.out
      simp only [actv, fill, Act.put, fc, List.getD_cons_zero, List.getD_cons_succ, List.foldl_cons, List.foldl_nil, List.setIfInBounds_toArray, List.set_cons_succ, List.set_cons_zero] at hK
      apply Kept.mk
      simp only [Wp, actv, fill, List.foldl_cons, List.foldl_nil, List.setIfInBounds_toArray, List.set_cons_succ, List.set_cons_zero]
      simp only [E65, E66, E64] at hK ⊢
      go_simp
      refine Calls.mono (HSy.out ▸ has_calls (k := 200) qq ((hn2.q.at_ HWz).mono (show _ ≤ 200 by omega)) ((hn3.q.at_ HWz).mono (show _ ≤ 200 by omega)) ((qY.q.at_ HWz).mono (show _ ≤ 200 by omega)) (by omega) (by omega) (by omega)) ?_
      rintro e w2z ⟨hb2, rfl⟩
      go_wp2_with fail
      exact hK _ w2z hb2 (Fact.eq_mk rfl)
    refine Steps.consO rfl ?_ ?_
    · intro vz wz hBz hDz K hK
      have E67 : vz 67 = _ := hDz 11 (by kernel_rfl) rfl
      have E64 : vz 64 = _ := hDz 8 (by kernel_rfl) rfl
      replace hK := hK.out
      simp only [actv, fill, Act.put, fc, List.getD_cons_zero, List.getD_cons_succ, List.foldl_cons, List.foldl_nil, List.setIfInBounds_toArray, List.set_cons_succ, List.set_cons_zero] at hK
      apply Kept.mk
      simp only [Wp, actv, fill, List.foldl_cons, List.foldl_nil, List.setIfInBounds_toArray, List.set_cons_succ, List.set_cons_zero]
      simp only [E67, E64] at hK ⊢
      go_simp
      refine hK _ wz (Below.refl _ _) (Fact.eq_mk ?_)
      with_reducible rfl
    refine Steps.consO rfl ?_ ?_
    · intro vz wz hBz hDz K hK
      have E64 : vz 64 = _ := hDz 8 (by kernel_rfl) rfl
      have E68 : vz 68 = _ := hDz 12 (by kernel_rfl) rfl
      replace hK := hK.out
      simp only [actv, fill, Act.put, fc, List.getD_cons_zero, List.getD_cons_succ, List.foldl_cons, List.foldl_nil, List.setIfInBounds_toArray, List.set_cons_succ, List.set_cons_zero] at hK
      apply Kept.mk
      simp only [Wp, actv, fill, List.foldl_cons, List.foldl_nil, List.setIfInBounds_toArray, List.set_cons_succ, List.set_cons_zero]
      simp only [E64, E68] at hK ⊢
      go_simp
      refine hK _ wz (Below.refl _ _) (Fact.eq_mk ?_)
      with_reducible rfl
    refine Steps.consO rfl ?_ ?_
    · intro vz wz hBz hDz K hK
      have E69 : vz 69 = _ := hDz 13 (by kernel_rfl) rfl
      replace hK := hK.out
      simp only [actv, fill, Act.put, fc, List.getD_cons_zero, List.getD_cons_succ, List.foldl_cons, List.foldl_nil, List.setIfInBounds_toArray, List.set_cons_succ, List.set_cons_zero] at hK
      apply Kept.mk
      simp only [Wp, actv, fill, List.foldl_cons, List.foldl_nil, List.setIfInBounds_toArray, List.set_cons_succ, List.set_cons_zero]
      simp only [E69] at hK ⊢
      go_simp
      refine hK _ wz (Below.refl _ _) (Fact.eq_mk ?_)
      with_reducible rfl
    refine Steps.consO rfl ?_ ?_
    · intro vz wz hBz hDz K hK
      have E70 : vz 70 = _ := hDz 14 (by kernel_rfl) rfl
      have Baz := Ba.drew.below hBz Ba.lt
      obtain ⟨Bac0, Bac1, Bac2, Bac3, Bac4, -⟩ := Baz.five
      have Bbz := Bb.drew.below hBz Bb.lt
      obtain ⟨Bbc0, Bbc1, Bbc2, Bbc3, Bbc4, -⟩ := Bbz.five
      have Xz := X.drew.below hBz X.lt
      obtain ⟨Xc0, Xc1, Xc2, -⟩ := Xz.three
      have Yz := Y.drew.below hBz Y.lt
      obtain ⟨Yc0, Yc1, Yc2, -⟩ := Yz.three
      have Smz := Sm.drew.below hBz Sm.lt
      obtain ⟨Smc0, Smc1, Smc2, Smc3, Smc4, -⟩ := Smz.five
      have Dfz := Df.drew.below hBz Df.lt
      obtain ⟨Dfc0, Dfc1, Dfc2, Dfc3, Dfc4, -⟩ := Dfz.five
      have Mlz := Ml.drew.below hBz Ml.lt
      obtain ⟨Mlc0, Mlc1, Mlc2, Mlc3, Mlc4, -⟩ := Mlz.five
      replace hK := hK.out
      simp only [actv, fill, Act.put, fc, List.getD_cons_zero, List.getD_cons_succ, List.foldl_cons, List.foldl_nil, List.setIfInBounds_toArray, List.set_cons_succ, List.set_cons_zero] at hK
      apply Kept.mk
      simp only [Wp, actv, fill, List.foldl_cons, List.foldl_nil, List.setIfInBounds_toArray, List.set_cons_succ, List.set_cons_zero]
      simp only [E70] at hK ⊢
      go_simp
      refine hK _ wz (Below.refl _ _) (Fact.eq_mk ?_)
      with_reducible rfl
    refine Steps.consO rfl ?_ ?_
    · intro vz wz hBz hDz K hK
      have E70 : vz 70 = _ := hDz 14 (by kernel_rfl) rfl
      have Baz := Ba.drew.below hBz Ba.lt
      obtain ⟨Bac0, Bac1, Bac2, Bac3, Bac4, -⟩ := Baz.five
      have Bbz := Bb.drew.below hBz Bb.lt
      obtain ⟨Bbc0, Bbc1, Bbc2, Bbc3, Bbc4, -⟩ := Bbz.five
      have Xz := X.drew.below hBz X.lt
      obtain ⟨Xc0, Xc1, Xc2, -⟩ := Xz.three
      have Yz := Y.drew.below hBz Y.lt
      obtain ⟨Yc0, Yc1, Yc2, -⟩ := Yz.three
      have Smz := Sm.drew.below hBz Sm.lt
      obtain ⟨Smc0, Smc1, Smc2, Smc3, Smc4, -⟩ := Smz.five
      have Dfz := Df.drew.below hBz Df.lt
      obtain ⟨Dfc0, Dfc1, Dfc2, Dfc3, Dfc4, -⟩ := Dfz.five
      have Mlz := Ml.drew.below hBz Ml.lt
      obtain ⟨Mlc0, Mlc1, Mlc2, Mlc3, Mlc4, -⟩ := Mlz.five
      replace hK := hK.out
      simp only [actv, fill, Act.put, fc, List.getD_cons_zero, List.getD_cons_succ, List.foldl_cons, List.foldl_nil, List.setIfInBounds_toArray, List.set_cons_succ, List.set_cons_zero] at hK
      apply Kept.mk
      simp only [Wp, actv, fill, List.foldl_cons, List.foldl_nil, List.setIfInBounds_toArray, List.set_cons_succ, List.set_cons_zero]
      simp only [E70] at hK ⊢
      go_simp
      refine hK _ wz (Below.refl _ _) (Fact.eq_mk ?_)
      with_reducible rfl
    refine Steps.consO rfl ?_ ?_
    · intro vz wz hBz hDz K hK
      have E70 : vz 70 = _ := hDz 14 (by kernel_rfl) rfl
      have Baz := Ba.drew.below hBz Ba.lt
      obtain ⟨Bac0, Bac1, Bac2, Bac3, Bac4, -⟩ := Baz.five
      have Bbz := Bb.drew.below hBz Bb.lt
      obtain ⟨Bbc0, Bbc1, Bbc2, Bbc3, Bbc4, -⟩ := Bbz.five
      have Xz := X.drew.below hBz X.lt
      obtain ⟨Xc0, Xc1, Xc2, -⟩ := Xz.three
      have Yz := Y.drew.below hBz Y.lt
      obtain ⟨Yc0, Yc1, Yc2, -⟩ := Yz.three
      have Smz := Sm.drew.below hBz Sm.lt
      obtain ⟨Smc0, Smc1, Smc2, Smc3, Smc4, -⟩ := Smz.five
      have Dfz := Df.drew.below hBz Df.lt
      obtain ⟨Dfc0, Dfc1, Dfc2, Dfc3, Dfc4, -⟩ := Dfz.five
      have Mlz := Ml.drew.below hBz Ml.lt
      obtain ⟨Mlc0, Mlc1, Mlc2, Mlc3, Mlc4, -⟩ := Mlz.five
      replace hK := hK.out
      simp only [actv, fill, Act.put, fc, List.getD_cons_zero, List.getD_cons_succ, List.foldl_cons, List.foldl_nil, List.setIfInBounds_toArray, List.set_cons_succ, List.set_cons_zero] at hK
      apply Kept.mk
      simp only [Wp, actv, fill, List.foldl_cons, List.foldl_nil, List.setIfInBounds_toArray, List.set_cons_succ, List.set_cons_zero]
      simp only [E70] at hK ⊢
      go_simp
      refine hK _ wz (Below.refl _ _) (Fact.eq_mk ?_)
      with_reducible rfl
    refine Steps.consO rfl ?_ ?_
    · intro vz wz hBz hDz K hK
      have E72 : vz 72 = _ := hDz 16 (by kernel_rfl) rfl
      have E73 : vz 73 = _ := hDz 17 (by kernel_rfl) rfl
      have E70 : vz 70 = _ := hDz 14 (by kernel_rfl) rfl
      have HWz := hide ((Below.refl w15.heap.size w15).drew.trans hBz)
      replace hK := hK.out
      simp only [actv, fill, Act.put, fc, List.getD_cons_zero, List.getD_cons_succ, List.foldl_cons, List.foldl_nil, List.setIfInBounds_toArray, List.set_cons_succ, List.set_cons_zero] at hK
      apply Kept.mk
      simp only [Wp, actv, fill, List.foldl_cons, List.foldl_nil, List.setIfInBounds_toArray, List.set_cons_succ, List.set_cons_zero]
      simp only [E72, E73, E70] at hK ⊢
      go_simp
      refine Calls.mono (e_add 4000 (qX.q.at_ HWz) (qY.q.at_ HWz) (by omega) (by omega) (by omega) (by omega) (by omega) HVx.out HVy.out Hms.out Hes.out) ?_
      rintro e w2z ⟨hb2, n, A, l, c, rfl, hq⟩
      go_wp2_with fail
      exact hK _ w2z hb2 (⟨_, _, _, _, rfl, hq⟩)
    refine Steps.consO rfl ?_ ?_
    · intro vz wz hBz hDz K hK
      have E71 : vz 71 = _ := hDz 15 (by kernel_rfl) rfl
      obtain ⟨n74_, A74_, l74_, c74_, E74, q74⟩ : DyV _ _ _ wz (vz 74) := hDz 18 (by kernel_rfl) rfl
      have E70 : vz 70 = _ := hDz 14 (by kernel_rfl) rfl
      have HWz := hide ((Below.refl w15.heap.size w15).drew.trans hBz)
      replace hK := hK.out
      simp only [actv, fill, Act.put, fc, List.getD_cons_zero, List.getD_cons_succ, List.foldl_cons, List.foldl_nil, List.setIfInBounds_toArray, List.set_cons_succ, List.set_cons_zero] at hK
      apply Kept.mk
      simp only [Wp, actv, fill, List.foldl_cons, List.foldl_nil, List.setIfInBounds_toArray, List.set_cons_succ, List.set_cons_zero]
      simp only [E71, E74, E70] at hK ⊢
      go_simp
      refine Calls.mono (HSs'.out ▸ has_calls (k := 200) qq ((qS.q.at_ HWz).mono (show _ ≤ 200 by omega)) ((pS.q.at_ HWz).mono (show _ ≤ 200 by omega)) (q74.q.mono (by omega)) (by omega) (by omega) (by omega)) ?_
      rintro e w2z ⟨hb2, rfl⟩
      go_wp2_with fail
      exact hK _ w2z hb2 (Fact.eq_mk rfl)
    refine Steps.consO rfl ?_ ?_
    · intro vz wz hBz hDz K hK
      have E75 : vz 75 = _ := hDz 19 (by kernel_rfl) rfl
      have E70 : vz 70 = _ := hDz 14 (by kernel_rfl) rfl
      replace hK := hK.out
      simp only [actv, fill, Act.put, fc, List.getD_cons_zero, List.getD_cons_succ, List.foldl_cons, List.foldl_nil, List.setIfInBounds_toArray, List.set_cons_succ, List.set_cons_zero] at hK
      apply Kept.mk
      simp only [Wp, actv, fill, List.foldl_cons, List.foldl_nil, List.setIfInBounds_toArray, List.set_cons_succ, List.set_cons_zero]
      simp only [E75, E70] at hK ⊢
      go_simp
      refine hK _ wz (Below.refl _ _) (Fact.eq_mk ?_)
      with_reducible rfl
    refine Steps.consO rfl ?_ ?_
    · intro vz wz hBz hDz K hK
      have E70 : vz 70 = _ := hDz 14 (by kernel_rfl) rfl
      have E76 : vz 76 = _ := hDz 20 (by kernel_rfl) rfl
      replace hK := hK.out
      simp only [actv, fill, Act.put, fc, List.getD_cons_zero, List.getD_cons_succ, List.foldl_cons, List.foldl_nil, List.setIfInBounds_toArray, List.set_cons_succ, List.set_cons_zero] at hK
      apply Kept.mk
      simp only [Wp, actv, fill, List.foldl_cons, List.foldl_nil, List.setIfInBounds_toArray, List.set_cons_succ, List.set_cons_zero]
      simp only [E70, E76] at hK ⊢
      go_simp
      refine hK _ wz (Below.refl _ _) (Fact.eq_mk ?_)
      with_reducible rfl
    refine Steps.consO rfl ?_ ?_
    · intro vz wz hBz hDz K hK
      have E77 : vz 77 = _ := hDz 21 (by kernel_rfl) rfl
      replace hK := hK.out
      simp only [actv, fill, Act.put, fc, List.getD_cons_zero, List.getD_cons_succ, List.foldl_cons, List.foldl_nil, List.setIfInBounds_toArray, List.set_cons_succ, List.set_cons_zero] at hK
      apply Kept.mk
      simp only [Wp, actv, fill, List.foldl_cons, List.foldl_nil, List.setIfInBounds_toArray, List.set_cons_succ, List.set_cons_zero]
      simp only [E77] at hK ⊢
      go_simp
      refine hK _ wz (Below.refl _ _) (Fact.eq_mk ?_)
      with_reducible rfl
    refine Steps.consO rfl ?_ ?_
    · intro vz wz hBz hDz K hK
      have E78 : vz 78 = _ := hDz 22 (by kernel_rfl) rfl
      have Baz := Ba.drew.below hBz Ba.lt
      obtain ⟨Bac0, Bac1, Bac2, Bac3, Bac4, -⟩ := Baz.five
      have Bbz := Bb.drew.below hBz Bb.lt
      obtain ⟨Bbc0, Bbc1, Bbc2, Bbc3, Bbc4, -⟩ := Bbz.five
      have Xz := X.drew.below hBz X.lt
      obtain ⟨Xc0, Xc1, Xc2, -⟩ := Xz.three
      have Yz := Y.drew.below hBz Y.lt
      obtain ⟨Yc0, Yc1, Yc2, -⟩ := Yz.three
      have Smz := Sm.drew.below hBz Sm.lt
      obtain ⟨Smc0, Smc1, Smc2, Smc3, Smc4, -⟩ := Smz.five
      have Dfz := Df.drew.below hBz Df.lt
      obtain ⟨Dfc0, Dfc1, Dfc2, Dfc3, Dfc4, -⟩ := Dfz.five
      have Mlz := Ml.drew.below hBz Ml.lt
      obtain ⟨Mlc0, Mlc1, Mlc2, Mlc3, Mlc4, -⟩ := Mlz.five
      replace hK := hK.out
      simp only [actv, fill, Act.put, fc, List.getD_cons_zero, List.getD_cons_succ, List.foldl_cons, List.foldl_nil, List.setIfInBounds_toArray, List.set_cons_succ, List.set_cons_zero] at hK
      apply Kept.mk
      simp only [Wp, actv, fill, List.foldl_cons, List.foldl_nil, List.setIfInBounds_toArray, List.set_cons_succ, List.set_cons_zero]
      simp only [E78] at hK ⊢
      go_simp
      refine hK _ wz (Below.refl _ _) (Fact.eq_mk ?_)
      with_reducible rfl
    refine Steps.consO rfl ?_ ?_
    · intro vz wz hBz hDz K hK
      have E78 : vz 78 = _ := hDz 22 (by kernel_rfl) rfl
      have Baz := Ba.drew.below hBz Ba.lt
      obtain ⟨Bac0, Bac1, Bac2, Bac3, Bac4, -⟩ := Baz.five
      have Bbz := Bb.drew.below hBz Bb.lt
      obtain ⟨Bbc0, Bbc1, Bbc2, Bbc3, Bbc4, -⟩ := Bbz.five
      have Xz := X.drew.below hBz X.lt
      obtain ⟨Xc0, Xc1, Xc2, -⟩ := Xz.three
      have Yz := Y.drew.below hBz Y.lt
      obtain ⟨Yc0, Yc1, Yc2, -⟩ := Yz.three
      have Smz := Sm.drew.below hBz Sm.lt
      obtain ⟨Smc0, Smc1, Smc2, Smc3, Smc4, -⟩ := Smz.five
      have Dfz := Df.drew.below hBz Df.lt
      obtain ⟨Dfc0, Dfc1, Dfc2, Dfc3, Dfc4, -⟩ := Dfz.five
      have Mlz := Ml.drew.below hBz Ml.lt
      obtain ⟨Mlc0, Mlc1, Mlc2, Mlc3, Mlc4, -⟩ := Mlz.five
      replace hK := hK.out
      simp only [actv, fill, Act.put, fc, List.getD_cons_zero, List.getD_cons_succ, List.foldl_cons, List.foldl_nil, List.setIfInBounds_toArray, List.set_cons_succ, List.set_cons_zero] at hK
      apply Kept.mk
      simp only [Wp, actv, fill, List.foldl_cons, List.foldl_nil, List.setIfInBounds_toArray, List.set_cons_succ, List.set_cons_zero]
      simp only [E78] at hK ⊢
      go_simp
      refine hK _ wz (Below.refl _ _) (Fact.eq_mk ?_)
      with_reducible rfl
    refine Steps.consO rfl ?_ ?_
    · intro vz wz hBz hDz K hK
      have E78 : vz 78 = _ := hDz 22 (by kernel_rfl) rfl
      have Baz := Ba.drew.below hBz Ba.lt
      obtain ⟨Bac0, Bac1, Bac2, Bac3, Bac4, -⟩ := Baz.five
      have Bbz := Bb.drew.below hBz Bb.lt
      obtain ⟨Bbc0, Bbc1, Bbc2, Bbc3, Bbc4, -⟩ := Bbz.five
      have Xz := X.drew.below hBz X.lt
      obtain ⟨Xc0, Xc1, Xc2, -⟩ := Xz.three
      have Yz := Y.drew.below hBz Y.lt
      obtain ⟨Yc0, Yc1, Yc2, -⟩ := Yz.three
      have Smz := Sm.drew.below hBz Sm.lt
      obtain ⟨Smc0, Smc1, Smc2, Smc3, Smc4, -⟩ := Smz.five
      have Dfz := Df.drew.below hBz Df.lt
      obtain ⟨Dfc0, Dfc1, Dfc2, Dfc3, Dfc4, -⟩ := Dfz.five
      have Mlz := Ml.drew.below hBz Ml.lt
      obtain ⟨Mlc0, Mlc1, Mlc2, Mlc3, Mlc4, -⟩ := Mlz.five
      replace hK := hK.out
      simp only [actv, fill, Act.put, fc, List.getD_cons_zero, List.getD_cons_succ, List.foldl_cons, List.foldl_nil, List.setIfInBounds_toArray, List.set_cons_succ, List.set_cons_zero] at hK
      apply Kept.mk
      simp only [Wp, actv, fill, List.foldl_cons, List.foldl_nil, List.setIfInBounds_toArray, List.set_cons_succ, List.set_cons_zero]
      simp only [E78] at hK ⊢
      go_simp
      refine hK _ wz (Below.refl _ _) (Fact.eq_mk ?_)
      with_reducible rfl
    refine Steps.consO rfl ?_ ?_
    · intro vz wz hBz hDz K hK
      have E80 : vz 80 = _ := hDz 24 (by kernel_rfl) rfl
      have E81 : vz 81 = _ := hDz 25 (by kernel_rfl) rfl
      have E78 : vz 78 = _ := hDz 22 (by kernel_rfl) rfl
      have HWz := hide ((Below.refl w15.heap.size w15).drew.trans hBz)
      replace hK := hK.out
      simp only [actv, fill, Act.put, fc, List.getD_cons_zero, List.getD_cons_succ, List.foldl_cons, List.foldl_nil, List.setIfInBounds_toArray, List.set_cons_succ, List.set_cons_zero] at hK
      apply Kept.mk
      simp only [Wp, actv, fill, List.foldl_cons, List.foldl_nil, List.setIfInBounds_toArray, List.set_cons_succ, List.set_cons_zero]
      simp only [E80, E81, E78] at hK ⊢
      go_simp
      refine Calls.mono (e_sub 4000 (qX.q.at_ HWz) (qY.q.at_ HWz) (by omega) (by omega) (by omega) (by omega) (by omega) HVx.out HVy.out Hmt.out Het.out) ?_
      rintro e w2z ⟨hb2, n, A, l, c, rfl, hq⟩
      go_wp2_with fail
      exact hK _ w2z hb2 (⟨_, _, _, _, rfl, hq⟩)
    refine Steps.consO rfl ?_ ?_
    · intro vz wz hBz hDz K hK
      have E79 : vz 79 = _ := hDz 23 (by kernel_rfl) rfl
      obtain ⟨n82_, A82_, l82_, c82_, E82, q82⟩ : DyV _ _ _ wz (vz 82) := hDz 26 (by kernel_rfl) rfl
      have E78 : vz 78 = _ := hDz 22 (by kernel_rfl) rfl
      have HWz := hide ((Below.refl w15.heap.size w15).drew.trans hBz)
      replace hK := hK.out
      simp only [actv, fill, Act.put, fc, List.getD_cons_zero, List.getD_cons_succ, List.foldl_cons, List.foldl_nil, List.setIfInBounds_toArray, List.set_cons_succ, List.set_cons_zero] at hK
      apply Kept.mk
      simp only [Wp, actv, fill, List.foldl_cons, List.foldl_nil, List.setIfInBounds_toArray, List.set_cons_succ, List.set_cons_zero]
      simp only [E79, E82, E78] at hK ⊢
      go_simp
      refine Calls.mono (HSt'.out ▸ has_calls (k := 200) qq ((qT.q.at_ HWz).mono (show _ ≤ 200 by omega)) ((pT.q.at_ HWz).mono (show _ ≤ 200 by omega)) (q82.q.mono (by omega)) (by omega) (by omega) (by omega)) ?_
      rintro e w2z ⟨hb2, rfl⟩
      go_wp2_with fail
      exact hK _ w2z hb2 (Fact.eq_mk rfl)
    refine Steps.consO rfl ?_ ?_
    · intro vz wz hBz hDz K hK
      have E83 : vz 83 = _ := hDz 27 (by kernel_rfl) rfl
      have E78 : vz 78 = _ := hDz 22 (by kernel_rfl) rfl
      replace hK := hK.out
      simp only [actv, fill, Act.put, fc, List.getD_cons_zero, List.getD_cons_succ, List.foldl_cons, List.foldl_nil, List.setIfInBounds_toArray, List.set_cons_succ, List.set_cons_zero] at hK
      apply Kept.mk
      simp only [Wp, actv, fill, List.foldl_cons, List.foldl_nil, List.setIfInBounds_toArray, List.set_cons_succ, List.set_cons_zero]
      simp only [E83, E78] at hK ⊢
      go_simp
      refine hK _ wz (Below.refl _ _) (Fact.eq_mk ?_)
      with_reducible rfl
    refine Steps.consO rfl ?_ ?_
    · intro vz wz hBz hDz K hK
      have E78 : vz 78 = _ := hDz 22 (by kernel_rfl) rfl
      have E84 : vz 84 = _ := hDz 28 (by kernel_rfl) rfl
      replace hK := hK.out
      simp only [actv, fill, Act.put, fc, List.getD_cons_zero, List.getD_cons_succ, List.foldl_cons, List.foldl_nil, List.setIfInBounds_toArray, List.set_cons_succ, List.set_cons_zero] at hK
      apply Kept.mk
      simp only [Wp, actv, fill, List.foldl_cons, List.foldl_nil, List.setIfInBounds_toArray, List.set_cons_succ, List.set_cons_zero]
      simp only [E78, E84] at hK ⊢
      go_simp
      refine hK _ wz (Below.refl _ _) (Fact.eq_mk ?_)
      with_reducible rfl
    refine Steps.consO rfl ?_ ?_
    · intro vz wz hBz hDz K hK
      have E85 : vz 85 = _ := hDz 29 (by kernel_rfl) rfl
      replace hK := hK.out
      simp only [actv, fill, Act.put, fc, List.getD_cons_zero, List.getD_cons_succ, List.foldl_cons, List.foldl_nil, List.setIfInBounds_toArray, List.set_cons_succ, List.set_cons_zero] at hK
      apply Kept.mk
      simp only [Wp, actv, fill, List.foldl_cons, List.foldl_nil, List.setIfInBounds_toArray, List.set_cons_succ, List.set_cons_zero]
      simp only [E85] at hK ⊢
      go_simp
      refine hK _ wz (Below.refl _ _) (Fact.eq_mk ?_)
      with_reducible rfl
    refine Steps.consO rfl ?_ ?_
    · intro vz wz hBz hDz K hK
      have E86 : vz 86 = _ := hDz 30 (by kernel_rfl) rfl
      have Baz := Ba.drew.below hBz Ba.lt
      obtain ⟨Bac0, Bac1, Bac2, Bac3, Bac4, -⟩ := Baz.five
      have Bbz := Bb.drew.below hBz Bb.lt
      obtain ⟨Bbc0, Bbc1, Bbc2, Bbc3, Bbc4, -⟩ := Bbz.five
      have Xz := X.drew.below hBz X.lt
      obtain ⟨Xc0, Xc1, Xc2, -⟩ := Xz.three
      have Yz := Y.drew.below hBz Y.lt
      obtain ⟨Yc0, Yc1, Yc2, -⟩ := Yz.three
      have Smz := Sm.drew.below hBz Sm.lt
      obtain ⟨Smc0, Smc1, Smc2, Smc3, Smc4, -⟩ := Smz.five
      have Dfz := Df.drew.below hBz Df.lt
      obtain ⟨Dfc0, Dfc1, Dfc2, Dfc3, Dfc4, -⟩ := Dfz.five
      have Mlz := Ml.drew.below hBz Ml.lt
      obtain ⟨Mlc0, Mlc1, Mlc2, Mlc3, Mlc4, -⟩ := Mlz.five
      replace hK := hK.out
      simp only [actv, fill, Act.put, fc, List.getD_cons_zero, List.getD_cons_succ, List.foldl_cons, List.foldl_nil, List.setIfInBounds_toArray, List.set_cons_succ, List.set_cons_zero] at hK
      apply Kept.mk
      simp only [Wp, actv, fill, List.foldl_cons, List.foldl_nil, List.setIfInBounds_toArray, List.set_cons_succ, List.set_cons_zero]
      simp only [E86] at hK ⊢
      go_simp
      refine hK _ wz (Below.refl _ _) (Fact.eq_mk ?_)
      with_reducible rfl
    refine Steps.consO rfl ?_ ?_
    · intro vz wz hBz hDz K hK
      have E86 : vz 86 = _ := hDz 30 (by kernel_rfl) rfl
      have Baz := Ba.drew.below hBz Ba.lt
      obtain ⟨Bac0, Bac1, Bac2, Bac3, Bac4, -⟩ := Baz.five
      have Bbz := Bb.drew.below hBz Bb.lt
      obtain ⟨Bbc0, Bbc1, Bbc2, Bbc3, Bbc4, -⟩ := Bbz.five
      have Xz := X.drew.below hBz X.lt
      obtain ⟨Xc0, Xc1, Xc2, -⟩ := Xz.three
      have Yz := Y.drew.below hBz Y.lt
      obtain ⟨Yc0, Yc1, Yc2, -⟩ := Yz.three
      have Smz := Sm.drew.below hBz Sm.lt
      obtain ⟨Smc0, Smc1, Smc2, Smc3, Smc4, -⟩ := Smz.five
      have Dfz := Df.drew.below hBz Df.lt
      obtain ⟨Dfc0, Dfc1, Dfc2, Dfc3, Dfc4, -⟩ := Dfz.five
      have Mlz := Ml.drew.below hBz Ml.lt
      obtain ⟨Mlc0, Mlc1, Mlc2, Mlc3, Mlc4, -⟩ := Mlz.five
      replace hK := hK.out
      simp only [actv, fill, Act.put, fc, List.getD_cons_zero, List.getD_cons_succ, List.foldl_cons, List.foldl_nil, List.setIfInBounds_toArray, List.set_cons_succ, List.set_cons_zero] at hK
      apply Kept.mk
      simp only [Wp, actv, fill, List.foldl_cons, List.foldl_nil, List.setIfInBounds_toArray, List.set_cons_succ, List.set_cons_zero]
      simp only [E86] at hK ⊢
      go_simp
      refine hK _ wz (Below.refl _ _) (Fact.eq_mk ?_)
      with_reducible rfl
    refine Steps.consO rfl ?_ ?_
    · intro vz wz hBz hDz K hK
      have E86 : vz 86 = _ := hDz 30 (by kernel_rfl) rfl
      have Baz := Ba.drew.below hBz Ba.lt
      obtain ⟨Bac0, Bac1, Bac2, Bac3, Bac4, -⟩ := Baz.five
      have Bbz := Bb.drew.below hBz Bb.lt
      obtain ⟨Bbc0, Bbc1, Bbc2, Bbc3, Bbc4, -⟩ := Bbz.five
      have Xz := X.drew.below hBz X.lt
      obtain ⟨Xc0, Xc1, Xc2, -⟩ := Xz.three
      have Yz := Y.drew.below hBz Y.lt
      obtain ⟨Yc0, Yc1, Yc2, -⟩ := Yz.three
      have Smz := Sm.drew.below hBz Sm.lt
      obtain ⟨Smc0, Smc1, Smc2, Smc3, Smc4, -⟩ := Smz.five
      have Dfz := Df.drew.below hBz Df.lt
      obtain ⟨Dfc0, Dfc1, Dfc2, Dfc3, Dfc4, -⟩ := Dfz.five
      have Mlz := Ml.drew.below hBz Ml.lt
      obtain ⟨Mlc0, Mlc1, Mlc2, Mlc3, Mlc4, -⟩ := Mlz.five
      replace hK := hK.out
      simp only [actv, fill, Act.put, fc, List.getD_cons_zero, List.getD_cons_succ, List.foldl_cons, List.foldl_nil, List.setIfInBounds_toArray, List.set_cons_succ, List.set_cons_zero] at hK
      apply Kept.mk
      simp only [Wp, actv, fill, List.foldl_cons, List.foldl_nil, List.setIfInBounds_toArray, List.set_cons_succ, List.set_cons_zero]
      simp only [E86] at hK ⊢
      go_simp
      refine hK _ wz (Below.refl _ _) (Fact.eq_mk ?_)
      with_reducible rfl
    refine Steps.consO rfl ?_ ?_
    · intro vz wz hBz hDz K hK
      have E88 : vz 88 = _ := hDz 32 (by kernel_rfl) rfl
      have E89 : vz 89 = _ := hDz 33 (by kernel_rfl) rfl
      have E86 : vz 86 = _ := hDz 30 (by kernel_rfl) rfl
      have HWz := hide ((Below.refl w15.heap.size w15).drew.trans hBz)
      replace hK := hK.out
      simp only [actv, fill, Act.put, fc, List.getD_cons_zero, List.getD_cons_succ, List.foldl_cons, List.foldl_nil, List.setIfInBounds_toArray, List.set_cons_succ, List.set_cons_zero] at hK
      apply Kept.mk
      simp only [Wp, actv, fill, List.foldl_cons, List.foldl_nil, List.setIfInBounds_toArray, List.set_cons_succ, List.set_cons_zero]
      simp only [E88, E89, E86] at hK ⊢
      go_simp
      refine Calls.mono (e_mul 4000 4000 (qX.q.at_ HWz) (qY.q.at_ HWz) (by omega) (by omega) (by omega) (by omega) (by omega) (by omega) HVx.out HVy.out Hmm.out Hem.out) ?_
      rintro e w2z ⟨hb2, n, A, l, c, rfl, hq⟩
      go_wp2_with fail
      exact hK _ w2z hb2 (⟨_, _, _, _, rfl, hq⟩)
    refine Steps.consO rfl ?_ ?_
    · intro vz wz hBz hDz K hK
      have E87 : vz 87 = _ := hDz 31 (by kernel_rfl) rfl
      obtain ⟨n90_, A90_, l90_, c90_, E90, q90⟩ : DyV _ _ _ wz (vz 90) := hDz 34 (by kernel_rfl) rfl
      have E86 : vz 86 = _ := hDz 30 (by kernel_rfl) rfl
      have HWz := hide ((Below.refl w15.heap.size w15).drew.trans hBz)
      replace hK := hK.out
      simp only [actv, fill, Act.put, fc, List.getD_cons_zero, List.getD_cons_succ, List.foldl_cons, List.foldl_nil, List.setIfInBounds_toArray, List.set_cons_succ, List.set_cons_zero] at hK
      apply Kept.mk
      simp only [Wp, actv, fill, List.foldl_cons, List.foldl_nil, List.setIfInBounds_toArray, List.set_cons_succ, List.set_cons_zero]
      simp only [E87, E90, E86] at hK ⊢
      go_simp
      refine Calls.mono (HMl'.out ▸ has_calls (k := 200) qq ((qM.q.at_ HWz).mono (show _ ≤ 200 by omega)) ((pM.q.at_ HWz).mono (show _ ≤ 200 by omega)) (q90.q.mono (by omega)) (by omega) (by omega) (by omega)) ?_
      rintro e w2z ⟨hb2, rfl⟩
      go_wp2_with fail
      exact hK _ w2z hb2 (Fact.eq_mk rfl)
    refine Steps.consO rfl ?_ ?_
    · intro vz wz hBz hDz K hK
      have E91 : vz 91 = _ := hDz 35 (by kernel_rfl) rfl
      have E86 : vz 86 = _ := hDz 30 (by kernel_rfl) rfl
      replace hK := hK.out
      simp only [actv, fill, Act.put, fc, List.getD_cons_zero, List.getD_cons_succ, List.foldl_cons, List.foldl_nil, List.setIfInBounds_toArray, List.set_cons_succ, List.set_cons_zero] at hK
      apply Kept.mk
      simp only [Wp, actv, fill, List.foldl_cons, List.foldl_nil, List.setIfInBounds_toArray, List.set_cons_succ, List.set_cons_zero]
      simp only [E91, E86] at hK ⊢
      go_simp
      refine hK _ wz (Below.refl _ _) (Fact.eq_mk ?_)
      with_reducible rfl
    refine Steps.consO rfl ?_ ?_
    · intro vz wz hBz hDz K hK
      have E86 : vz 86 = _ := hDz 30 (by kernel_rfl) rfl
      have E92 : vz 92 = _ := hDz 36 (by kernel_rfl) rfl
      replace hK := hK.out
      simp only [actv, fill, Act.put, fc, List.getD_cons_zero, List.getD_cons_succ, List.foldl_cons, List.foldl_nil, List.setIfInBounds_toArray, List.set_cons_succ, List.set_cons_zero] at hK
      apply Kept.mk
      simp only [Wp, actv, fill, List.foldl_cons, List.foldl_nil, List.setIfInBounds_toArray, List.set_cons_succ, List.set_cons_zero]
      simp only [E86, E92] at hK ⊢
      go_simp
      refine hK _ wz (Below.refl _ _) (Fact.eq_mk ?_)
      with_reducible rfl
    exact Steps.nil
  case fina =>
    intro vz wza hBz ⟨hOz, hAz, hNz⟩
    have E56 : vz 56 = _ := hOz 0 (by decide) rfl
    have E57 : vz 57 = _ := hOz 1 (by decide) rfl
    have E58 : vz 58 = _ := hOz 2 (by decide) rfl
    have E59 : vz 59 = _ := hOz 3 (by decide) rfl
    have E60 : vz 60 = _ := hOz 4 (by decide) rfl
    have E61 : vz 61 = _ := hOz 5 (by decide) rfl
    have E62 : vz 62 = _ := hOz 6 (by decide) rfl
    have E63 : vz 63 = _ := hOz 7 (by decide) rfl
    have E64 : vz 64 = _ := hOz 8 (by decide) rfl
    have E65 : vz 65 = _ := hOz 9 (by decide) rfl
    have E66 : vz 66 = _ := hOz 10 (by decide) rfl
    have E67 : vz 67 = _ := hOz 11 (by decide) rfl
    have E68 : vz 68 = _ := hOz 12 (by decide) rfl
    have E69 : vz 69 = _ := hOz 13 (by decide) rfl
    have E70 : vz 70 = _ := hOz 14 (by decide) rfl
    have E71 : vz 71 = _ := hOz 15 (by decide) rfl
    have E72 : vz 72 = _ := hOz 16 (by decide) rfl
    have E73 : vz 73 = _ := hOz 17 (by decide) rfl
    obtain ⟨n74_, A74_, l74_, c74_, E74, q74⟩ : DyV _ _ _ wza (vz 74) := hOz 18 (by decide) rfl
    have E75 : vz 75 = _ := hOz 19 (by decide) rfl
    have E76 : vz 76 = _ := hOz 20 (by decide) rfl
    have E77 : vz 77 = _ := hOz 21 (by decide) rfl
    have E78 : vz 78 = _ := hOz 22 (by decide) rfl
    have E79 : vz 79 = _ := hOz 23 (by decide) rfl
    have E80 : vz 80 = _ := hOz 24 (by decide) rfl
    have E81 : vz 81 = _ := hOz 25 (by decide) rfl
    obtain ⟨n82_, A82_, l82_, c82_, E82, q82⟩ : DyV _ _ _ wza (vz 82) := hOz 26 (by decide) rfl
    have E83 : vz 83 = _ := hOz 27 (by decide) rfl
    have E84 : vz 84 = _ := hOz 28 (by decide) rfl
    have E85 : vz 85 = _ := hOz 29 (by decide) rfl
    have E86 : vz 86 = _ := hOz 30 (by decide) rfl
    have E87 : vz 87 = _ := hOz 31 (by decide) rfl
    have E88 : vz 88 = _ := hOz 32 (by decide) rfl
    have E89 : vz 89 = _ := hOz 33 (by decide) rfl
    obtain ⟨n90_, A90_, l90_, c90_, E90, q90⟩ : DyV _ _ _ wza (vz 90) := hOz 34 (by decide) rfl
    have E91 : vz 91 = _ := hOz 35 (by decide) rfl
    have E92 : vz 92 = _ := hOz 36 (by decide) rfl
    have E93 : vz 93 = _ := hOz 37 (by decide) rfl
    simp only [actv, fill, List.foldl_cons, List.foldl_nil, List.setIfInBounds_toArray, List.set_cons_succ, List.set_cons_zero]
    simp only [E56, E57, E58, E59, E60, E61, E62, E63, E64, E65, E66, E67, E68, E69, E70, E71, E72, E73, E74, E75, E76, E77, E78, E79, E80, E81, E82, E83, E84, E85, E86, E87, E88, E89, E90, E91, E92, E93]
    clear hOz hAz hNz
    have HWz := (Below.refl w15.heap.size w15).drew.trans hBz
    clear Bac0 Bac1 Bac2 Bac3 Bac4 Bbc0 Bbc1 Bbc2 Bbc3 Bbc4 Xc0 Xc1 Xc2 Yc0 Yc1 Yc2 Smc0 Smc1 Smc2 Smc3 Smc4 Dfc0 Dfc1 Dfc2 Dfc3 Dfc4 Mlc0 Mlc1 Mlc2 Mlc3 Mlc4
    have Ba := Ba.below HWz Ba.lt
    have Bb := Bb.below HWz Bb.lt
    have X := X.below HWz X.lt
    have Y := Y.below HWz Y.lt
    have Sm := Sm.below HWz Sm.lt
    have Df := Df.below HWz Df.lt
    have Ml := Ml.below HWz Ml.lt
    have hn0 := hn0.below HWz
    have hn1 := hn1.below HWz
    have hn2 := hn2.below HWz
    have hn3 := hn3.below HWz
    have qX := qX.below HWz
    have qY := qY.below HWz
    have qS := qS.below HWz
    have pS := pS.below HWz
    have qT := qT.below HWz
    have pT := pT.below HWz
    have qM := qM.below HWz
    have pM := pM.below HWz
    have HB := hide (HB.out.trans (HWz.mono HB.out.size))
    have hsz := Nat.le_trans hsz HWz.size
    clear HWz hBz
    obtain ⟨Bac0, Bac1, Bac2, Bac3, Bac4, -⟩ := Ba.five
    obtain ⟨Bbc0, Bbc1, Bbc2, Bbc3, Bbc4, -⟩ := Bb.five
    obtain ⟨Xc0, Xc1, Xc2, -⟩ := X.three
    obtain ⟨Yc0, Yc1, Yc2, -⟩ := Y.three
    obtain ⟨Smc0, Smc1, Smc2, Smc3, Smc4, -⟩ := Sm.five
    obtain ⟨Dfc0, Dfc1, Dfc2, Dfc3, Dfc4, -⟩ := Df.five
    obtain ⟨Mlc0, Mlc1, Mlc2, Mlc3, Mlc4, -⟩ := Ml.five
    go_upto_region 11 with (fail)
    cases ze with
    | true =>
      replace HSG : Hid (_ = false) := HSG
      have HP := bdiv_calls qq qq hn0.q hn1.q hn2.q hn3.q (by omega)
      unfold RetE at HP
      rw [HSG.out] at HP
      simp only [HPP.out, if_true, if_false, Bool.false_eq_true] at HP
      have HPH := hide HP
      clear HP
      go_wp2_with fail
      refine HPH.out.mono ?_
      rintro e w16 ⟨hb, nD, DD, aD, kD, mD, GD, bD, rD, rfl, qD, pD⟩
      clear HPH
      clear Bac0 Bac1 Bac2 Bac3 Bac4 Bbc0 Bbc1 Bbc2 Bbc3 Bbc4 Xc0 Xc1 Xc2 Yc0 Yc1 Yc2 Smc0 Smc1 Smc2 Smc3 Smc4 Dfc0 Dfc1 Dfc2 Dfc3 Dfc4 Mlc0 Mlc1 Mlc2 Mlc3 Mlc4
      have Ba := Ba.below hb Ba.lt
      have Bb := Bb.below hb Bb.lt
      have X := X.below hb X.lt
      have Y := Y.below hb Y.lt
      have Sm := Sm.below hb Sm.lt
      have Df := Df.below hb Df.lt
      have Ml := Ml.below hb Ml.lt
      have hn0 := hn0.below hb
      have hn1 := hn1.below hb
      have hn2 := hn2.below hb
      have hn3 := hn3.below hb
      have qX := qX.below hb
      have qY := qY.below hb
      have qS := qS.below hb
      have pS := pS.below hb
      have qT := qT.below hb
      have pT := pT.below hb
      have qM := qM.below hb
      have pM := pM.below hb
      have HB := hide (HB.out.trans (hb.mono HB.out.size))
      have hsz := Nat.le_trans hsz hb.size
      clear hb
      obtain ⟨Bac0, Bac1, Bac2, Bac3, Bac4, -⟩ := Ba.five
      obtain ⟨Bbc0, Bbc1, Bbc2, Bbc3, Bbc4, -⟩ := Bb.five
      obtain ⟨Xc0, Xc1, Xc2, -⟩ := X.three
      obtain ⟨Yc0, Yc1, Yc2, -⟩ := Y.three
      obtain ⟨Smc0, Smc1, Smc2, Smc3, Smc4, -⟩ := Sm.five
      obtain ⟨Dfc0, Dfc1, Dfc2, Dfc3, Dfc4, -⟩ := Df.five
      obtain ⟨Mlc0, Mlc1, Mlc2, Mlc3, Mlc4, -⟩ := Ml.five
      clear Bac0 Bac1 Bac2 Bac3 Bac4 Bbc0 Bbc1 Bbc2 Bbc3 Bbc4 Xc0 Xc1 Xc2 Yc0 Yc1 Yc2 Smc0 Smc1 Smc2 Smc3 Smc4 Dfc0 Dfc1 Dfc2 Dfc3 Dfc4 Mlc0 Mlc1 Mlc2 Mlc3 Mlc4
      obtain ⟨w17, hW, Dv, hb, hs⟩ := start1 w16 27 #[.bool nD, .slice DD aD kD, .bool mD, .slice GD bD rD, .int .i64 0]
      have Ba := Ba.below hb Ba.lt
      have Bb := Bb.below hb Bb.lt
      have X := X.below hb X.lt
      have Y := Y.below hb Y.lt
      have Sm := Sm.below hb Sm.lt
      have Df := Df.below hb Df.lt
      have Ml := Ml.below hb Ml.lt
      have hn0 := hn0.below hb
      have hn1 := hn1.below hb
      have hn2 := hn2.below hb
      have hn3 := hn3.below hb
      have qX := qX.below hb
      have qY := qY.below hb
      have qS := qS.below hb
      have pS := pS.below hb
      have qT := qT.below hb
      have pT := pT.below hb
      have qM := qM.below hb
      have pM := pM.below hb
      have qD := qD.below hb
      have pD := pD.below hb
      have HB := hide (HB.out.trans (hb.mono HB.out.size))
      have hsz := Nat.le_trans hsz hb.size
      clear hb hs
      go_upto_region 12 with (fail)
      rw [← hW]
      clear hW
      obtain ⟨Bac0, Bac1, Bac2, Bac3, Bac4, -⟩ := Ba.five
      obtain ⟨Bbc0, Bbc1, Bbc2, Bbc3, Bbc4, -⟩ := Bb.five
      obtain ⟨Xc0, Xc1, Xc2, -⟩ := X.three
      obtain ⟨Yc0, Yc1, Yc2, -⟩ := Y.three
      obtain ⟨Smc0, Smc1, Smc2, Smc3, Smc4, -⟩ := Sm.five
      obtain ⟨Dfc0, Dfc1, Dfc2, Dfc3, Dfc4, -⟩ := Df.five
      obtain ⟨Mlc0, Mlc1, Mlc2, Mlc3, Mlc4, -⟩ := Ml.five
      obtain ⟨Dvc0, Dvc1, Dvc2, Dvc3, Dvc4, -⟩ := Dv.five
      have HP := has_calls (k := 4) (e0 := 0) qq hn2.q hn3.q (QB.zero _ 0 4).q (by omega) (by omega) (by omega)
      rw [HZR.out] at HP
      have HPH := hide HP
      clear HP
      go_wp2_with fail
      refine HPH.out.mono ?_
      rintro e w18 ⟨hb, rfl⟩
      clear HPH
      clear Bac0 Bac1 Bac2 Bac3 Bac4 Bbc0 Bbc1 Bbc2 Bbc3 Bbc4 Xc0 Xc1 Xc2 Yc0 Yc1 Yc2 Smc0 Smc1 Smc2 Smc3 Smc4 Dfc0 Dfc1 Dfc2 Dfc3 Dfc4 Mlc0 Mlc1 Mlc2 Mlc3 Mlc4 Dvc0 Dvc1 Dvc2 Dvc3 Dvc4
      have Ba := Ba.below hb Ba.lt
      have Bb := Bb.below hb Bb.lt
      have X := X.below hb X.lt
      have Y := Y.below hb Y.lt
      have Sm := Sm.below hb Sm.lt
      have Df := Df.below hb Df.lt
      have Ml := Ml.below hb Ml.lt
      have Dv := Dv.below hb Dv.lt
      have hn0 := hn0.below hb
      have hn1 := hn1.below hb
      have hn2 := hn2.below hb
      have hn3 := hn3.below hb
      have qX := qX.below hb
      have qY := qY.below hb
      have qS := qS.below hb
      have pS := pS.below hb
      have qT := qT.below hb
      have pT := pT.below hb
      have qM := qM.below hb
      have pM := pM.below hb
      have qD := qD.below hb
      have pD := pD.below hb
      have HB := hide (HB.out.trans (hb.mono HB.out.size))
      have hsz := Nat.le_trans hsz hb.size
      clear hb
      obtain ⟨Bac0, Bac1, Bac2, Bac3, Bac4, -⟩ := Ba.five
      obtain ⟨Bbc0, Bbc1, Bbc2, Bbc3, Bbc4, -⟩ := Bb.five
      obtain ⟨Xc0, Xc1, Xc2, -⟩ := X.three
      obtain ⟨Yc0, Yc1, Yc2, -⟩ := Y.three
      obtain ⟨Smc0, Smc1, Smc2, Smc3, Smc4, -⟩ := Sm.five
      obtain ⟨Dfc0, Dfc1, Dfc2, Dfc3, Dfc4, -⟩ := Df.five
      obtain ⟨Mlc0, Mlc1, Mlc2, Mlc3, Mlc4, -⟩ := Ml.five
      obtain ⟨Dvc0, Dvc1, Dvc2, Dvc3, Dvc4, -⟩ := Dv.five
      go_wp2_with fail
      go_ret
      exact ⟨rfl, HB.out⟩
    | false =>
      replace HSG : Hid (_ = true) := HSG
      obtain ⟨HD1, HD2⟩ := HDV.out rfl
      replace HD1 := hide HD1
      replace HD2 := hide HD2
      have HP2 : Hid (pairB dl dh qq blo bhi qq = true) := hide (by unfold pairB; rw [HD1.out, HRb.out]; simp)
      have HP := bdiv_calls qq qq hn0.q hn1.q hn2.q hn3.q (by omega)
      unfold RetE at HP
      rw [HSG.out, Hdl.out, Hdh.out] at HP
      simp only [eq_self, if_true] at HP
      have HPH := hide HP
      clear HP
      go_wp2_with fail
      refine HPH.out.mono ?_
      rintro e w16 ⟨hb, nD, DD, aD, kD, mD, GD, bD, rD, rfl, qD, pD⟩
      clear HPH
      clear Bac0 Bac1 Bac2 Bac3 Bac4 Bbc0 Bbc1 Bbc2 Bbc3 Bbc4 Xc0 Xc1 Xc2 Yc0 Yc1 Yc2 Smc0 Smc1 Smc2 Smc3 Smc4 Dfc0 Dfc1 Dfc2 Dfc3 Dfc4 Mlc0 Mlc1 Mlc2 Mlc3 Mlc4
      have Ba := Ba.below hb Ba.lt
      have Bb := Bb.below hb Bb.lt
      have X := X.below hb X.lt
      have Y := Y.below hb Y.lt
      have Sm := Sm.below hb Sm.lt
      have Df := Df.below hb Df.lt
      have Ml := Ml.below hb Ml.lt
      have hn0 := hn0.below hb
      have hn1 := hn1.below hb
      have hn2 := hn2.below hb
      have hn3 := hn3.below hb
      have qX := qX.below hb
      have qY := qY.below hb
      have qS := qS.below hb
      have pS := pS.below hb
      have qT := qT.below hb
      have pT := pT.below hb
      have qM := qM.below hb
      have pM := pM.below hb
      have HB := hide (HB.out.trans (hb.mono HB.out.size))
      have hsz := Nat.le_trans hsz hb.size
      clear hb
      obtain ⟨Bac0, Bac1, Bac2, Bac3, Bac4, -⟩ := Ba.five
      obtain ⟨Bbc0, Bbc1, Bbc2, Bbc3, Bbc4, -⟩ := Bb.five
      obtain ⟨Xc0, Xc1, Xc2, -⟩ := X.three
      obtain ⟨Yc0, Yc1, Yc2, -⟩ := Y.three
      obtain ⟨Smc0, Smc1, Smc2, Smc3, Smc4, -⟩ := Sm.five
      obtain ⟨Dfc0, Dfc1, Dfc2, Dfc3, Dfc4, -⟩ := Df.five
      obtain ⟨Mlc0, Mlc1, Mlc2, Mlc3, Mlc4, -⟩ := Ml.five
      clear Bac0 Bac1 Bac2 Bac3 Bac4 Bbc0 Bbc1 Bbc2 Bbc3 Bbc4 Xc0 Xc1 Xc2 Yc0 Yc1 Yc2 Smc0 Smc1 Smc2 Smc3 Smc4 Dfc0 Dfc1 Dfc2 Dfc3 Dfc4 Mlc0 Mlc1 Mlc2 Mlc3 Mlc4
      obtain ⟨w17, hW, Dv, hb, hs⟩ := start1 w16 27 #[.bool nD, .slice DD aD kD, .bool mD, .slice GD bD rD, .int .i64 qq]
      have Ba := Ba.below hb Ba.lt
      have Bb := Bb.below hb Bb.lt
      have X := X.below hb X.lt
      have Y := Y.below hb Y.lt
      have Sm := Sm.below hb Sm.lt
      have Df := Df.below hb Df.lt
      have Ml := Ml.below hb Ml.lt
      have hn0 := hn0.below hb
      have hn1 := hn1.below hb
      have hn2 := hn2.below hb
      have hn3 := hn3.below hb
      have qX := qX.below hb
      have qY := qY.below hb
      have qS := qS.below hb
      have pS := pS.below hb
      have qT := qT.below hb
      have pT := pT.below hb
      have qM := qM.below hb
      have pM := pM.below hb
      have qD := qD.below hb
      have pD := pD.below hb
      have HB := hide (HB.out.trans (hb.mono HB.out.size))
      have hsz := Nat.le_trans hsz hb.size
      clear hb hs
      go_upto_region 12 with (fail)
      rw [← hW]
      clear hW
      obtain ⟨Bac0, Bac1, Bac2, Bac3, Bac4, -⟩ := Ba.five
      obtain ⟨Bbc0, Bbc1, Bbc2, Bbc3, Bbc4, -⟩ := Bb.five
      obtain ⟨Xc0, Xc1, Xc2, -⟩ := X.three
      obtain ⟨Yc0, Yc1, Yc2, -⟩ := Y.three
      obtain ⟨Smc0, Smc1, Smc2, Smc3, Smc4, -⟩ := Sm.five
      obtain ⟨Dfc0, Dfc1, Dfc2, Dfc3, Dfc4, -⟩ := Df.five
      obtain ⟨Mlc0, Mlc1, Mlc2, Mlc3, Mlc4, -⟩ := Ml.five
      obtain ⟨Dvc0, Dvc1, Dvc2, Dvc3, Dvc4, -⟩ := Dv.five
      have HP := has_calls (k := 4) (e0 := 0) qq hn2.q hn3.q (QB.zero _ 0 4).q (by omega) (by omega) (by omega)
      rw [HZR.out] at HP
      have HPH := hide HP
      clear HP
      go_wp2_with fail
      refine HPH.out.mono ?_
      rintro e w18 ⟨hb, rfl⟩
      clear HPH
      clear Bac0 Bac1 Bac2 Bac3 Bac4 Bbc0 Bbc1 Bbc2 Bbc3 Bbc4 Xc0 Xc1 Xc2 Yc0 Yc1 Yc2 Smc0 Smc1 Smc2 Smc3 Smc4 Dfc0 Dfc1 Dfc2 Dfc3 Dfc4 Mlc0 Mlc1 Mlc2 Mlc3 Mlc4 Dvc0 Dvc1 Dvc2 Dvc3 Dvc4
      have Ba := Ba.below hb Ba.lt
      have Bb := Bb.below hb Bb.lt
      have X := X.below hb X.lt
      have Y := Y.below hb Y.lt
      have Sm := Sm.below hb Sm.lt
      have Df := Df.below hb Df.lt
      have Ml := Ml.below hb Ml.lt
      have Dv := Dv.below hb Dv.lt
      have hn0 := hn0.below hb
      have hn1 := hn1.below hb
      have hn2 := hn2.below hb
      have hn3 := hn3.below hb
      have qX := qX.below hb
      have qY := qY.below hb
      have qS := qS.below hb
      have pS := pS.below hb
      have qT := qT.below hb
      have pT := pT.below hb
      have qM := qM.below hb
      have pM := pM.below hb
      have qD := qD.below hb
      have pD := pD.below hb
      have HB := hide (HB.out.trans (hb.mono HB.out.size))
      have hsz := Nat.le_trans hsz hb.size
      clear hb
      obtain ⟨Bac0, Bac1, Bac2, Bac3, Bac4, -⟩ := Ba.five
      obtain ⟨Bbc0, Bbc1, Bbc2, Bbc3, Bbc4, -⟩ := Bb.five
      obtain ⟨Xc0, Xc1, Xc2, -⟩ := X.three
      obtain ⟨Yc0, Yc1, Yc2, -⟩ := Y.three
      obtain ⟨Smc0, Smc1, Smc2, Smc3, Smc4, -⟩ := Sm.five
      obtain ⟨Dfc0, Dfc1, Dfc2, Dfc3, Dfc4, -⟩ := Df.five
      obtain ⟨Mlc0, Mlc1, Mlc2, Mlc3, Mlc4, -⟩ := Ml.five
      obtain ⟨Dvc0, Dvc1, Dvc2, Dvc3, Dvc4, -⟩ := Dv.five
      go_upto_region 15 with (fail)
      have HP := bmul_calls qq qq qD.q pD.q (hn2.q.mono (show 4 ≤ 38 by omega)) (hn3.q.mono (show 4 ≤ 38 by omega)) (by omega)
      unfold RetE at HP
      rw [HP2.out, Hel.out, Heh.out] at HP
      simp only [eq_self, if_true] at HP
      have HPH := hide HP
      clear HP
      go_wp2_with fail
      refine HPH.out.mono ?_
      rintro e w19 ⟨hb, nE, DE, aE, kE, mE, GE, bE, rE, rfl, qE, pE⟩
      clear HPH
      clear Bac0 Bac1 Bac2 Bac3 Bac4 Bbc0 Bbc1 Bbc2 Bbc3 Bbc4 Xc0 Xc1 Xc2 Yc0 Yc1 Yc2 Smc0 Smc1 Smc2 Smc3 Smc4 Dfc0 Dfc1 Dfc2 Dfc3 Dfc4 Mlc0 Mlc1 Mlc2 Mlc3 Mlc4 Dvc0 Dvc1 Dvc2 Dvc3 Dvc4
      have Ba := Ba.below hb Ba.lt
      have Bb := Bb.below hb Bb.lt
      have X := X.below hb X.lt
      have Y := Y.below hb Y.lt
      have Sm := Sm.below hb Sm.lt
      have Df := Df.below hb Df.lt
      have Ml := Ml.below hb Ml.lt
      have Dv := Dv.below hb Dv.lt
      have hn0 := hn0.below hb
      have hn1 := hn1.below hb
      have hn2 := hn2.below hb
      have hn3 := hn3.below hb
      have qX := qX.below hb
      have qY := qY.below hb
      have qS := qS.below hb
      have pS := pS.below hb
      have qT := qT.below hb
      have pT := pT.below hb
      have qM := qM.below hb
      have pM := pM.below hb
      have qD := qD.below hb
      have pD := pD.below hb
      have HB := hide (HB.out.trans (hb.mono HB.out.size))
      have hsz := Nat.le_trans hsz hb.size
      clear hb
      obtain ⟨Bac0, Bac1, Bac2, Bac3, Bac4, -⟩ := Ba.five
      obtain ⟨Bbc0, Bbc1, Bbc2, Bbc3, Bbc4, -⟩ := Bb.five
      obtain ⟨Xc0, Xc1, Xc2, -⟩ := X.three
      obtain ⟨Yc0, Yc1, Yc2, -⟩ := Y.three
      obtain ⟨Smc0, Smc1, Smc2, Smc3, Smc4, -⟩ := Sm.five
      obtain ⟨Dfc0, Dfc1, Dfc2, Dfc3, Dfc4, -⟩ := Df.five
      obtain ⟨Mlc0, Mlc1, Mlc2, Mlc3, Mlc4, -⟩ := Ml.five
      obtain ⟨Dvc0, Dvc1, Dvc2, Dvc3, Dvc4, -⟩ := Dv.five
      clear Bac0 Bac1 Bac2 Bac3 Bac4 Bbc0 Bbc1 Bbc2 Bbc3 Bbc4 Xc0 Xc1 Xc2 Yc0 Yc1 Yc2 Smc0 Smc1 Smc2 Smc3 Smc4 Dfc0 Dfc1 Dfc2 Dfc3 Dfc4 Mlc0 Mlc1 Mlc2 Mlc3 Mlc4 Dvc0 Dvc1 Dvc2 Dvc3 Dvc4
      obtain ⟨w20, hW, L_, hb, hs⟩ := start1 w19 27 #[.bool nE, .slice DE aE kE, .bool mE, .slice GE bE rE, .int .i64 qq]
      have Ba := Ba.below hb Ba.lt
      have Bb := Bb.below hb Bb.lt
      have X := X.below hb X.lt
      have Y := Y.below hb Y.lt
      have Sm := Sm.below hb Sm.lt
      have Df := Df.below hb Df.lt
      have Ml := Ml.below hb Ml.lt
      have Dv := Dv.below hb Dv.lt
      have hn0 := hn0.below hb
      have hn1 := hn1.below hb
      have hn2 := hn2.below hb
      have hn3 := hn3.below hb
      have qX := qX.below hb
      have qY := qY.below hb
      have qS := qS.below hb
      have pS := pS.below hb
      have qT := qT.below hb
      have pT := pT.below hb
      have qM := qM.below hb
      have pM := pM.below hb
      have qD := qD.below hb
      have pD := pD.below hb
      have qE := qE.below hb
      have pE := pE.below hb
      have HB := hide (HB.out.trans (hb.mono HB.out.size))
      have hsz := Nat.le_trans hsz hb.size
      clear hb hs
      go_upto_region 16 with (fail)
      rw [← hW]
      clear hW
      obtain ⟨Bac0, Bac1, Bac2, Bac3, Bac4, -⟩ := Ba.five
      obtain ⟨Bbc0, Bbc1, Bbc2, Bbc3, Bbc4, -⟩ := Bb.five
      obtain ⟨Xc0, Xc1, Xc2, -⟩ := X.three
      obtain ⟨Yc0, Yc1, Yc2, -⟩ := Y.three
      obtain ⟨Smc0, Smc1, Smc2, Smc3, Smc4, -⟩ := Sm.five
      obtain ⟨Dfc0, Dfc1, Dfc2, Dfc3, Dfc4, -⟩ := Df.five
      obtain ⟨Mlc0, Mlc1, Mlc2, Mlc3, Mlc4, -⟩ := Ml.five
      obtain ⟨Dvc0, Dvc1, Dvc2, Dvc3, Dvc4, -⟩ := Dv.five
      obtain ⟨L_c0, L_c1, L_c2, L_c3, L_c4, -⟩ := L_.five
      have HP := has_calls (k := 201) (e0 := ex) qq qE.q pE.q (qX.q.mono (by omega)) (by omega) (by omega) (by omega)
      rw [HD2.out] at HP
      have HPH := hide HP
      clear HP
      go_wp2_with fail
      refine HPH.out.mono ?_
      rintro e w21 ⟨hb, rfl⟩
      clear HPH
      clear Bac0 Bac1 Bac2 Bac3 Bac4 Bbc0 Bbc1 Bbc2 Bbc3 Bbc4 Xc0 Xc1 Xc2 Yc0 Yc1 Yc2 Smc0 Smc1 Smc2 Smc3 Smc4 Dfc0 Dfc1 Dfc2 Dfc3 Dfc4 Mlc0 Mlc1 Mlc2 Mlc3 Mlc4 Dvc0 Dvc1 Dvc2 Dvc3 Dvc4 L_c0 L_c1 L_c2 L_c3 L_c4
      have Ba := Ba.below hb Ba.lt
      have Bb := Bb.below hb Bb.lt
      have X := X.below hb X.lt
      have Y := Y.below hb Y.lt
      have Sm := Sm.below hb Sm.lt
      have Df := Df.below hb Df.lt
      have Ml := Ml.below hb Ml.lt
      have Dv := Dv.below hb Dv.lt
      have L_ := L_.below hb L_.lt
      have hn0 := hn0.below hb
      have hn1 := hn1.below hb
      have hn2 := hn2.below hb
      have hn3 := hn3.below hb
      have qX := qX.below hb
      have qY := qY.below hb
      have qS := qS.below hb
      have pS := pS.below hb
      have qT := qT.below hb
      have pT := pT.below hb
      have qM := qM.below hb
      have pM := pM.below hb
      have qD := qD.below hb
      have pD := pD.below hb
      have qE := qE.below hb
      have pE := pE.below hb
      have HB := hide (HB.out.trans (hb.mono HB.out.size))
      have hsz := Nat.le_trans hsz hb.size
      clear hb
      obtain ⟨Bac0, Bac1, Bac2, Bac3, Bac4, -⟩ := Ba.five
      obtain ⟨Bbc0, Bbc1, Bbc2, Bbc3, Bbc4, -⟩ := Bb.five
      obtain ⟨Xc0, Xc1, Xc2, -⟩ := X.three
      obtain ⟨Yc0, Yc1, Yc2, -⟩ := Y.three
      obtain ⟨Smc0, Smc1, Smc2, Smc3, Smc4, -⟩ := Sm.five
      obtain ⟨Dfc0, Dfc1, Dfc2, Dfc3, Dfc4, -⟩ := Df.five
      obtain ⟨Mlc0, Mlc1, Mlc2, Mlc3, Mlc4, -⟩ := Ml.five
      obtain ⟨Dvc0, Dvc1, Dvc2, Dvc3, Dvc4, -⟩ := Dv.five
      obtain ⟨L_c0, L_c1, L_c2, L_c3, L_c4, -⟩ := L_.five
      go_wp2_with fail
      go_ret
      exact ⟨rfl, HB.out⟩

theorem walk (w : World) (n0 : Bool) (A0 : Option Addr) (l0 c0 : Nat) (m0 : Bool) (B0 : Option Addr) (j0 d0 : Nat) (x0 : Int) (s0 : ∃ L, Nums w 0 (.slice A0 l0 c0) L) (t0 : ∃ L, Nums w 0 (.slice B0 j0 d0) L) (w0 : (Lit.int .i64 x0).wf = true)
    (n1 : Bool) (A1 : Option Addr) (l1 c1 : Nat) (m1 : Bool) (B1 : Option Addr) (j1 d1 : Nat) (x1 : Int) (s1 : ∃ L, Nums w 0 (.slice A1 l1 c1) L) (t1 : ∃ L, Nums w 0 (.slice B1 j1 d1) L) (w1 : (Lit.int .i64 x1).wf = true)
    (q : Int) (w2 : (Lit.int .i64 q).wf = true) (i : Int) (w3 : (Lit.int .i64 i).wf = true) (k : Int) (w4 : (Lit.int .i64 k).wf = true) :
    Calls Try.prog 6 #[.agg #[.bool n0, .slice A0 l0 c0, .bool m0, .slice B0 j0 d0, .int .i64 x0], .agg #[.bool n1, .slice A1 l1 c1, .bool m1, .slice B1 j1 d1, .int .i64 x1], .int .i64 q, .int .i64 i, .int .i64 k] w fun e w' => e = .returned (.bool true) ∧ Below w.heap.size w w' := by
  obtain ⟨L0, h0⟩ := s0
  obtain ⟨L1, h1⟩ := t0
  obtain ⟨L2, h2⟩ := s1
  obtain ⟨L3, h3⟩ := t1
  exact walkN n0 m0 n1 m1 A0 B0 A1 B1 l0 j0 l1 j1 c0 d0 c1 d1 x0 x1 q i k L0 L1 L2 L3 w h0 h1 h2 h3

/-! ### the row -/
set_option maxRecDepth 100000 in
theorem lifted (os : Os) (started : os.Started) (H : Type) (enc : TypeId × Value → H) :
    ReturnsInHanded {} Try.checked os 6 .any (Rows.ballHoldsSpec.pre6 enc Try.prog Try.f6 Rows.ballHoldsRow.domain false) (Rows.ballHoldsSpec.post enc Try.prog Try.f6 false true false false) := by
  refine returnsInHanded_of_change (C := Try.checked) own started (by kernel_rfl) Try.func6
    (ChangeSpec.witness6 (enc := enc) (C := Try.checked) false ⟨#[], #[.agg #[.bool false, .slice none 0 0, .bool false, .slice none 0 0, .int .i64 0], .agg #[.bool false, .slice none 0 0, .bool false, .slice none 0 0, .int .i64 0], .int .i64 0, .int .i64 0, .int .i64 0], []⟩ 8 (by kernel_rfl) (by kernel_rfl) (by kernel_rfl) (by kernel_rfl)) ?_
  intro W base args ds gs before hval0 hW hcnd _
  have hval : ∀ (j : Nat) t v, Try.f6.params[j]? = some t → args[j]? = some v → Value.okWide Try.prog W .any base t v := hval0
  have hW' := hW
  obtain ⟨p, q, hA0, hV, rfl, hfz, hnd⟩ := hW
  have hA : DataW.TrodAll enc Try.prog W 0 (fun _ => true) true Try.f6.params.toList args.toList ds p := hA0
  rw [Try.params6] at hA hval
  obtain ⟨v0, vs0, d0, ds0, p0, q0, hargs, rfl, rfl, h0, r0⟩ := trodAll_cons hA
  obtain ⟨v1, vs1, d1, ds1, p1, q1, rfl, rfl, rfl, h1, r1⟩ := trodAll_cons r0
  obtain ⟨v2, vs2, d2, ds2, p2, q2, rfl, rfl, rfl, h2, r2⟩ := trodAll_cons r1
  obtain ⟨v3, vs3, d3, ds3, p3, q3, rfl, rfl, rfl, h3, r3⟩ := trodAll_cons r2
  obtain ⟨v4, vs4, d4, ds4, p4, q4, rfl, rfl, rfl, h4, r4⟩ := trodAll_cons r3
  obtain ⟨rfl, rfl, rfl⟩ := trodAll_nil r4
  obtain rfl : args = #[v0, v1, v2, v3, v4] := by cases args; simp_all
  obtain ⟨rfl, rfl⟩ := trodVars_none hV
  have k0 := h0
  have lt0 : ∀ x ∈ p0, x.block < W.heap.size := by obtain ⟨m, hm⟩ := k0; exact DataW.trod_lt m _ _ _ hm
  obtain ⟨n0, A0, l0, c0, m0, B0, j0, d0_, x0, rfl, s0, t0, w0⟩ := open_ball (hval 0 27 v0 rfl rfl) h0
  have k1 := h1
  have lt1 : ∀ x ∈ p1, x.block < W.heap.size := by obtain ⟨m, hm⟩ := k1; exact DataW.trod_lt m _ _ _ hm
  obtain ⟨n1, A1, l1, c1, m1, B1, j1, d1_, x1, rfl, s1, t1, w1⟩ := open_ball (hval 1 27 v1 rfl rfl) h1
  obtain ⟨a2, rfl, rfl, rfl, w2⟩ := open_int Try.underlying3 (hval 2 3 v2 rfl rfl) h2
  obtain ⟨a3, rfl, rfl, rfl, w3⟩ := open_int Try.underlying3 (hval 3 3 v3 rfl rfl) h3
  obtain ⟨a4, rfl, rfl, rfl, w4⟩ := open_int Try.underlying3 (hval 4 3 v4 rfl rfl) h4
  clear hA0 hval0
  refine (walk W n0 A0 l0 c0 m0 B0 j0 d0_ x0 s0 t0 w0 n1 A1 l1 c1 m1 B1 j1 d1_ x1 s1 t1 w1 a2 w2 a3 w3 a4 w4).mono fun e W' ⟨he, bel⟩ => ?_
  subst he
  exact ⟨_, rfl, _, _, _, [], _, [], hW', trodAll_mk1 (shut_bool Try.underlying4 _), (trodAll_cons_mk (Below.trod laidOut (by kernel_rfl) (of_decide_eq_true (by kernel_rfl)) k0 bel lt0) (trodAll_cons_mk (Below.trod laidOut (by kernel_rfl) (of_decide_eq_true (by kernel_rfl)) k1 bel lt1) (trodAll_cons_mk (shut_int Try.underlying3 w2) (trodAll_cons_mk (shut_int Try.underlying3 w3) (trodAll_cons_mk (shut_int Try.underlying3 w4) trodAll_mk0))))), rfl, bel.frame _, fun h => by cases h⟩

theorem over : Rows.ballHoldsRow.holds Try.pinned (OpenSpec.ofChange Rows.ballHoldsSpec) :=
  OpenClaim.holds_of_wide 6 Try.f6 rfl rfl rfl rfl rfl rfl rfl ⟨rfl, rfl, rfl, rfl, rfl⟩ rfl rfl rfl rfl rfl (by kernel_rfl) Try.func6 (by kernel_rfl)
    (of_decide_eq_true (by kernel_rfl)) (by unfold Func.isWrapper; first | (rw [if_pos (by decide +kernel)]; kernel_rfl) | (rw [if_neg (by decide +kernel)]; exact ⟨rfl, rfl⟩))
    (fun os started H enc _ => lifted os started H enc)

theorem proved : Rows.BallHoldsSaid := over
#print axioms proved
end Go.Proofs.Ytnfbngiabdlclaa.ballHolds

/- V: elem.At of 2 to the power of a whole number. V: point.Scale, plus, Gap of 2 to the power of a whole number. V: point.Look of 2 to the power of a whole number; bits.Of. V: point.Look of 2 to the power of a whole number; bits.Of. V: the law (hairlinelaw09.PointExact). -/
import Derived.Test.YtoklgpefpaclhaaGreatPt
import Derived.Test.YtoklgpefpaclhaaGreatEv
set_option linter.unusedVariables false
set_option linter.unusedSimpArgs false
namespace Go.Proofs.YtoklgpefpaclhaaGreat
section
section
open Go.RowKit Go.Shelf
namespace Px
theorem odd_part {n : Int} (h0 : n ≠ 0) (h1 : -999 ≤ n) (h2 : n ≤ 999) : ∃ u : Int, ∃ j : Nat, n = u * 2 ^ j ∧ u.natAbs % 2 = 1 ∧ j ≤ 9 ∧ nM n 0 = u ∧ nE n 0 = j ∧ u.natAbs ≤ 999 := by
  have e := jee n; have o := jnc h0
  generalize pM n = u at *
  generalize tz n.natAbs = j at *
  have a : n.natAbs = u.natAbs * 2 ^ j := by
    rw [← e, Int.natAbs_mul, Int.natAbs_pow]
    rfl
  have hj : j ≤ 9 := by
    rcases Nat.lt_or_ge 9 j with h | h
    · have k1 : 2 ^ 10 ≤ 2 ^ j := Nat.pow_le_pow_right (by decide) h
      have k2 : 1 * 2 ^ j ≤ u.natAbs * 2 ^ j := Nat.mul_le_mul_right _ (by omega)
      omega
    · exact h
  have hu : u.natAbs * 1 ≤ u.natAbs * 2 ^ j := Nat.mul_le_mul_left _ (Nat.pow_pos (by omega)); refine ⟨u, j, e.symm, o, hj, ?_, ?_, by omega⟩
  · rw [← e]
    exact jns (by omega) (by omega) o
  · rw [← e, jnt (by omega) (by omega) o]
    omega
theorem jla {u : Int} {j : Nat} (ho : u.natAbs % 2 = 1) (hj : j ≤ 9) : cM u j = u ∧ cE u j = j := by
  unfold cM cE; rw [if_neg (by omega), if_neg (by omega)]; exact ⟨rfl, rfl⟩
theorem jvs {u : Int} {j : Nat} (ho : u.natAbs % 2 = 1) (hj : j ≤ 9) : av 4000 u j = u * 2 ^ j * 2 ^ 4000 := by
  unfold av sv; rw [(jla ho hj).1, (jla ho hj).2, show ((j : Int) + ((4000 : Nat) : Int)).toNat = j + 4000 by omega, Int.pow_add, Int.mul_assoc]
theorem lg_odd {u : Int} {j : Nat} (ho : u.natAbs % 2 = 1) (hj : j ≤ 9) : lgN u j = (nbits (u * 2 ^ j).natAbs : Nat) - 1 ∧ lgOk u j = true := by
  unfold lgN lgOk; rw [(jla ho hj).1, (jla ho hj).2, if_neg (by omega)]; refine ⟨?_, decide_eq_true (by omega)⟩; rw [Int.natAbs_mul, Int.natAbs_pow, Nat.mul_comm, show Int.natAbs 2 = 2 from rfl, nbits_mul (by omega)]
  omega
theorem floor_odd {u : Int} {j : Nat} (ho : u.natAbs % 2 = 1) (hj : j ≤ 9) : vFloor 4000 (av 4000 u j) (nearZ 0) = u * 2 ^ j := by
  have e : nearZ 0 = 0 := by unfold nearZ; omega
  have hp : ((2 : Int) ^ 4000) ≠ 0 := Int.ne_of_gt (Int.pow_pos (by omega)); unfold vFloor; rw [e, if_pos (Int.le_refl 0), jvs ho hj, show (0 : Int).toNat = 0 from rfl, Int.pow_zero, Int.mul_one, Int.mul_ediv_cancel _ hp]
theorem floor_zero {w : Int} (h1 : 0 ≤ w) (h2 : w ≤ 4000) : vFloor 4000 (av 4000 0 0) (nearZ w) = 0 ∧ vCeil 4000 (av 4000 0 0) (nearZ w) = 0 := by
  have e : nearZ w = w := by unfold nearZ; omega
  have ea : av 4000 0 0 = 0 := by
    unfold av sv cM; rw [if_pos (.inr (.inr rfl)), Int.zero_mul]
  refine ⟨?_, ?_⟩
  · unfold vFloor
    rw [e, if_pos h1, ea, Int.zero_mul, Int.zero_ediv]
  · unfold vCeil vFloor
    rw [e, if_pos h1, ea, Int.neg_zero, Int.zero_mul, Int.zero_ediv]
    rfl
theorem dn0 (q : Int) : vDn 0 q = 0 := by
  unfold vDn
  split
  · exact Int.zero_mul _
  · exact Int.zero_ediv _
theorem ov0 (q : Int) : vOv 0 q = 0 := by
  unfold vOv; rw [Int.neg_zero, dn0]
  rfl
end Px
namespace V
def M0 : T := ap2 56 (.v 0) (.n 0)
def E0 : T := ap2 57 (.v 0) (.n 0)
def w4T : T := .add (ap2 1 wT (.n 4)) (.n 10)
def eX : T := p2 (.v 1)
def nfR (s : List T) : List Rule := [
  ⟨pbF ++ s, ap2 56 M0 E0, M0⟩, ⟨pbF ++ s, ap2 57 M0 E0, E0⟩, ⟨pbF ++ s, ap2 58 M0 E0, .sub bl (.n 1)⟩, ⟨pbF ++ s, ap2 68 M0 E0, .n 1⟩,
  ⟨pbF ++ s, ap3 59 M0 E0 (.n 0), .v 0⟩, ⟨[], ap4 61 M0 E0 M0 E0, .n 0⟩, ⟨[], ap4 62 M0 E0 M0 E0, .n 0⟩]
def nuR : List Rule := [
  ⟨pbF, ap3 59 (.n 0) (.n 0) wT, .n 0⟩, ⟨pbF, ap3 60 (.n 0) (.n 0) wT, .n 0⟩,
  ⟨[], ap5 74 (.n 0) (.n 0) l48 l49 wT, .n 0⟩, ⟨[], ap5 75 (.n 0) (.n 0) l48 l49 wT, .n 0⟩]
def exR : List Rule := [⟨[], ap2 5 (.n 0) (.mul (.n 2) wX), .n (-1)⟩, ⟨pbF, ap3 18 wT (.n 0) w4T, wX⟩, ⟨pbF, ap3 19 wT (.n 0) w4T, wX⟩, ⟨pbF, ap3 17 wT (.n 0) w4T, .n 0⟩, ⟨[], .mul (.n 0) (.n 2), .n 0⟩, ⟨[], .add wX (.n 0), wX⟩, ⟨pbF, ap2 1 wX (p2 (.sub wT (.v 1))), eX⟩, ⟨pbF, ap2 1 (.sub (.n 0) wX) (p2 (.sub wT (.v 1))), .sub (.n 0) eX⟩, ⟨[], .sub (.n 0) (.sub (.n 0) eX), eX⟩]
def e2R (s : List T) : Rs := { rs := nfR s ++ nuR ++ exR ++ sameR [wX, eX], ft := [] }
theorem jvt {s : List T} (h0 : ∀ {ρ : Nat → Int}, allT F0 ρ (pbF ++ s) → ρ 0 ≠ 0) {r : Rule} (hr : r ∈ nfR s) {ρ : Nat → Int} (hc : allT F0 ρ r.cs) : r.l.den F0 ρ = r.r.den F0 ρ := by
  simp only [nfR, List.mem_cons, List.not_mem_nil, or_false] at hr
  rcases hr with rfl | rfl | rfl | rfl | rfl | rfl | rfl
  · obtain ⟨h1, h2, h3, h4⟩ := jbb (jae hc)
    obtain ⟨u, j, e, o, hj, em, ee, -⟩ := Px.odd_part (h0 hc) h1 h2
    show nM (nM (ρ 0) 0) (nE (ρ 0) 0) = nM (ρ 0) 0
    rw [em, ee, jk0 (by omega) (by omega) o]
  · obtain ⟨h1, h2, h3, h4⟩ := jbb (jae hc)
    obtain ⟨u, j, e, o, hj, em, ee, -⟩ := Px.odd_part (h0 hc) h1 h2
    show nE (nM (ρ 0) 0) (nE (ρ 0) 0) = nE (ρ 0) 0
    rw [em, ee, jk1 (by omega) (by omega) o]
  · obtain ⟨h1, h2, h3, h4⟩ := jbb (jae hc)
    obtain ⟨u, j, e, o, hj, em, ee, -⟩ := Px.odd_part (h0 hc) h1 h2
    show lgN (nM (ρ 0) 0) (nE (ρ 0) 0) = (nbits (ρ 0).natAbs : Nat) - 1
    rw [em, ee, (Px.lg_odd o hj).1, ← e]
  · obtain ⟨h1, h2, h3, h4⟩ := jbb (jae hc)
    obtain ⟨u, j, e, o, hj, em, ee, -⟩ := Px.odd_part (h0 hc) h1 h2
    show b2i (lgOk (nM (ρ 0) 0) (nE (ρ 0) 0)) = 1
    rw [em, ee, (Px.lg_odd o hj).2]
    rfl
  · obtain ⟨h1, h2, h3, h4⟩ := jbb (jae hc)
    obtain ⟨u, j, e, o, hj, em, ee, -⟩ := Px.odd_part (h0 hc) h1 h2
    show vFloor 4000 (av 4000 (nM (ρ 0) 0) (nE (ρ 0) 0)) (nearZ 0) = ρ 0
    rw [em, ee, Px.floor_odd o hj, ← e]
  · show pM (av 4000 (nM (ρ 0) 0) (nE (ρ 0) 0) - av 4000 (nM (ρ 0) 0) (nE (ρ 0) 0)) = 0
    rw [Int.sub_self, jey]
  · show pE (av 4000 (nM (ρ 0) 0) (nE (ρ 0) 0) - av 4000 (nM (ρ 0) 0) (nE (ρ 0) 0)) (-(4000 : Nat)) = 0
    rw [Int.sub_self, jb6]
theorem jvu {r : Rule} (hr : r ∈ nuR) {ρ : Nat → Int} (hc : allT F0 ρ r.cs) : r.l.den F0 ρ = r.r.den F0 ρ := by
  simp only [nuR, List.mem_cons, List.not_mem_nil, or_false] at hr
  rcases hr with rfl | rfl | rfl | rfl
  · obtain ⟨h1, h2, h3, h4⟩ := jbb hc
    exact (Px.floor_zero (w := ρ 1 + 40) (by omega) (by omega)).1
  · obtain ⟨h1, h2, h3, h4⟩ := jbb hc
    exact (Px.floor_zero (w := ρ 1 + 40) (by omega) (by omega)).2
  · show vDn (min4 (0 * _) (0 * _) (0 * _) (0 * _)) _ = 0
    rw [Int.zero_mul, Int.zero_mul, Px.min40, Px.dn0]
  · show vOv (max4 (0 * _) (0 * _) (0 * _) (0 * _)) _ = 0
    rw [Int.zero_mul, Int.zero_mul, Px.max40, Px.ov0]
theorem joa {w : Int} (h : 0 ≤ w) : ∃ k : Nat, (w / 4 + 10).toNat = k + 1 := ⟨(w / 4 + 9).toNat, by omega⟩
theorem jvv {r : Rule} (hr : r ∈ exR) {ρ : Nat → Int} (hc : allT F0 ρ r.cs) : r.l.den F0 ρ = r.r.den F0 ρ := by
  simp only [exR, List.mem_cons, List.not_mem_nil, or_false] at hr
  rcases hr with rfl | rfl | rfl | rfl | rfl | rfl | rfl | rfl | rfl
  · show cmpZ 0 (2 * 2 ^ (ρ 1 + 40).toNat) = -1
    exact (Px.cmp_pos (Int.mul_pos (by decide) pw)).2
  · obtain ⟨h1, h2, h3, h4⟩ := jbb hc
    obtain ⟨k, hk⟩ := joa (w := ρ 1 + 40) (by omega)
    show su (rA (dExp (ρ 1 + 40)) 0 (1 * 2 ^ (ρ 1 + 40).toNat)) ((ρ 1 + 40) / 4 + 10).toNat = 2 ^ (ρ 1 + 40).toNat
    rw [hk, Px.su_one (Px.rA_zero _ _)]; exact Int.one_mul _
  · obtain ⟨h1, h2, h3, h4⟩ := jbb hc
    obtain ⟨k, hk⟩ := joa (w := ρ 1 + 40) (by omega)
    show su (rB (dExp (ρ 1 + 40)) 0 (1 * 2 ^ (ρ 1 + 40).toNat)) ((ρ 1 + 40) / 4 + 10).toNat = 2 ^ (ρ 1 + 40).toNat
    rw [hk, Px.su_one (Px.rB_zero (Px.dExp_pos _) _)]; exact Int.one_mul _
  · obtain ⟨h1, h2, h3, h4⟩ := jbb hc
    obtain ⟨k, hk⟩ := joa (w := ρ 1 + 40) (by omega)
    show rB (dExp (ρ 1 + 40)) 0 (1 * 2 ^ (ρ 1 + 40).toNat) ((ρ 1 + 40) / 4 + 10).toNat = 0
    rw [hk, Px.rB_zero (Px.dExp_pos _) _]
  · rfl
  · exact Int.add_zero _
  · obtain ⟨h1, h2, h3, h4⟩ := jbb hc
    have := Px.div_pow (n := 1) (q := ρ 1) (w := ρ 1 + 40) h3 rfl; rw [Int.mul_one, Int.mul_one] at this; exact this
  · obtain ⟨h1, h2, h3, h4⟩ := jbb hc
    have := Px.div_pow_neg (n := 1) (q := ρ 1) (w := ρ 1 + 40) h3 rfl; rw [Int.mul_one, Int.mul_one] at this; exact this
  · show 0 - (0 - eX.den F0 ρ) = eX.den F0 ρ
    omega
theorem jr4 {s : List T} (h0 : ∀ {ρ : Nat → Int}, allT F0 ρ (pbF ++ s) → ρ 0 ≠ 0) : RsOK F0 (e2R s) := by
  refine ⟨fun r hr ρ hc => ?_, fun r hr => (by cases hr)⟩
  rcases List.mem_append.1 hr with hr | hr
  · rcases List.mem_append.1 hr with hr | hr
    · rcases List.mem_append.1 hr with hr | hr
      · exact jvt h0 hr hc
      · exact jvu hr hc
    · exact jvv hr hc
  · exact jd9 hr (fun x => Px.cmp_self x) ρ
theorem jr5 : RsOK F0 (e2R sgP) := jr4 fun h => by have := sg_P h; omega
theorem jr6 : RsOK F0 (e2R sgN) := jr4 fun h => by have := sg_N h; omega
def mlF : List T := [.le (.n 0) E0, .le E0 (.n 9)] ++ blF
theorem jr7 {ρ : Nat → Int} (h0 : ρ 0 ≠ 0) (h1 : -999 ≤ ρ 0) (h2 : ρ 0 ≤ 999) : allT F0 ρ mlF := by
  obtain ⟨u, j, e, o, hj, em, ee, -⟩ := Px.odd_part h0 h1 h2; refine ⟨jbg ?_, jbg ?_, jmu h0 h1 h2⟩
  · show 0 ≤ nE (ρ 0) 0
    omega
  · show nE (ρ 0) 0 ≤ 9
    omega
noncomputable def e2B {R : Rs} (hR : RsOK F0 R) : List (Ctr Tryz.prog F0) := el4 g0 ((dy1 g0).map (fun c => Ctr.fold (jef g0) (Ctr.nf hR (Ctr.fold (jef g0) (Ctr.nf hR (Ctr.fold (jef g0) c))))) ++ dy1 g0)
def atE (s : List T) : Spec := dsp 13 [i64 (.n 1), dA 200 false M0 E0, i64 (.v 1)] 2 (pbF ++ s) (.tup [.ag [.z 40 true eX, .z 140 true eX, .i .i64 (.v 1)], .sc (.i .i64 (.v 0)), .sc (.i .i64 (.n 0))])
def exL : List T := plL ++ mlF
theorem jxb (ρ : Nat → Int) (hp : allT F0 ρ (pbF ++ sgP)) : allT F0 ρ exL := by
  obtain ⟨h1, h2, h3, h4⟩ := jbb (jae hp); exact jaq (jiu sgP ρ hp) (jr7 (by have := sg_P hp; omega) h1 h2)
theorem jxc (ρ : Nat → Int) (hp : allT F0 ρ (pbF ++ sgN)) : allT F0 ρ exL := by
  obtain ⟨h1, h2, h3, h4⟩ := jbb (jae hp); exact jaq (jiu sgN ρ hp) (jr7 (by have := sg_N hp; omega) h1 h2)
theorem atEp : checkF (P := Tryz.prog) (e2B jr5) R0 [] (drawX (e2B jr5)) { atE sgP with fs := exL ++ (atE sgP).fs } = true := by kernel_rfl
theorem atEn : checkF (P := Tryz.prog) (e2B jr6) R0 [] (drawX (e2B jr6)) { atE sgN with fs := exL ++ (atE sgN).fs } = true := by kernel_rfl
noncomputable def cAtEp : Ctr Tryz.prog F0 := Ctr.ofL (jbz _) follows_any exL jxb atEp
noncomputable def cAtEn : Ctr Tryz.prog F0 := Ctr.ofL (jbz _) follows_any exL jxc atEn
end V
end
end
section
section
open Go.RowKit Go.Shelf
namespace V
def bQE : A := .one (.ag [.z 40 true eX, .z 140 true eX, .i .i64 (.v 1)])
def seR : Rs := { rs := [⟨[], ap1 4 eX, .n 1⟩, ⟨pbF, ap1 6 eX, .add (.v 1) (.n 1)⟩] ++ sameR [eX], ft := [] }
theorem jlb : RsOK F0 seR := by
  refine ⟨fun r hr ρ hc => ?_, fun r hr => (by cases hr)⟩
  rcases List.mem_append.1 hr with hr | hr
  · simp only [List.mem_cons, List.not_mem_nil, or_false] at hr
    rcases hr with rfl | rfl
    · show (2 ^ (ρ 1).toNat : Int).sign = 1
      exact Int.sign_eq_one_of_pos pw
    · obtain ⟨h1, h2, h3, h4⟩ := jbb hc
      have e := Px.nbits_mul (N := 1) (by decide) (ρ 1).toNat; rw [Nat.mul_one, show nbits 1 = 1 from jbk (n := 1) (by decide) (.inr (by decide))] at e
      show ((nbits (2 ^ (ρ 1).toNat : Int).natAbs : Nat) : Int) = ρ 1 + 1
      rw [Int.natAbs_pow, show Int.natAbs 2 = 2 from rfl, e]
      omega
  · exact jd9 hr (fun x => Px.cmp_self x) ρ
def sclE : Spec := dsp 14 [bQE] 2 pbF (.tup [.sc (.i .i64 (.n 0)), .sc (.b (.n 1))])
theorem sclEC : checkF (P := Tryz.prog) (scB jlb) R0 [] (drawX (scB jlb)) sclE = true := by kernel_rfl
noncomputable def cSclE : Ctr Tryz.prog F0 := Ctr.of (jbz _) follows_any sclEC
def plsE : Spec := dsp 16 [bQE] 2 pbF bQE
theorem plsEC : checkF (P := Tryz.prog) (scB jlb) R0 [] (drawX (scB jlb)) plsE = true := by kernel_rfl
noncomputable def cPlsE : Ctr Tryz.prog F0 := Ctr.of (jbz _) follows_any plsEC
def sE : T := .sub (.v 1) (.n 53)
def pE2 : T := p2 sE
def hE2 : T := p2 (.sub sE (.n 1))
def geR : Rs := { rs := [⟨gpF, .mul (ap2 1 eX pE2) pE2, eX⟩, ⟨[], .sub eX eX, .n 0⟩, ⟨[], ap2 1 (.n 0) pE2, .n 0⟩, ⟨[], ap2 5 pE2 (.n 0), .n 1⟩, ⟨[], ap2 5 (.n 0) pE2, .n (-1)⟩, ⟨[], ap2 5 hE2 (.n 0), .n 1⟩, ⟨[], ap2 5 (.n 0) hE2, .n (-1)⟩, ⟨[], .mul (.n 0) pE2, .n 0⟩, ⟨[], ap1 4 (.n 0), .n 0⟩, ⟨[], .sub (.n 0) (.n 0), .n 0⟩, ⟨[], .sub pE2 (.n 0), pE2⟩, ⟨[], ap2 5 (.n 0) (.n 0), .n 0⟩] ++ sameR [eX], ft := [] }
theorem jr8 : RsOK F0 geR := by
  refine ⟨fun r hr ρ hc => ?_, fun r hr => (by cases hr)⟩; have k1 : 0 < pE2.den F0 ρ := pw; have k2 : 0 < hE2.den F0 ρ := pw
  rcases List.mem_append.1 hr with hr | hr
  · simp only [List.mem_cons, List.not_mem_nil, or_false] at hr
    rcases hr with rfl | rfl | rfl | rfl | rfl | rfl | rfl | rfl | rfl | rfl | rfl | rfl
    · obtain ⟨h1, h2, h3, h4⟩ := jbb (jae hc)
      have h5 : (100 : Int) ≤ ρ 1 := jaa (jau hc).1; have := Px.cut_pow (s := ρ 1 - 53) (q := ρ 1) (n := 1) (by omega) (by omega); rw [Int.mul_one] at this; exact this
    · exact Int.sub_self _
    · exact Int.zero_ediv _
    · exact (Px.cmp_pos k1).1
    · exact (Px.cmp_pos k1).2
    · exact (Px.cmp_pos k2).1
    · exact (Px.cmp_pos k2).2
    · exact Int.zero_mul _
    · rfl
    · rfl
    · exact Int.sub_zero _
    · rfl
  · exact jd9 hr (fun x => Px.cmp_self x) ρ
def gapE : Spec := dsp 15 [bQE, i64 sE] 2 gpF (.tup [zV 0 (.n 0), zV 447 (.n 0), .sc (.i .i64 (.n 0))])
theorem gapEC : checkF (P := Tryz.prog) (gpB jr8) R0 [] (drawX (gpB jr8)) gapE = true := by kernel_rfl
noncomputable def cGapE : Ctr Tryz.prog F0 := Ctr.of (jbz _) follows_any gapEC
end V
end
end
section
section
open Go.RowKit Go.Shelf
open L (val dig nth)
namespace Px
theorem low_of {m : Int} (h0 : 0 ≤ m) : ofLow m = m - 52 := by unfold ofLow; omega
theorem jtp {u : Int} {j : Nat} (ho : u.natAbs % 2 = 1) (hj : j ≤ 9) (hu : u.natAbs ≤ 999) {N m : Nat} (hN : u.natAbs * 2 ^ j = N) (h9 : N ≤ 999) (hm : nbits N = m + 1) :
    oB1 u j = N * 2 ^ (52 - m) + (m + 1022) * 4503599627370496 + (if u < 0 then T63 else 0) ∧ oX1 u j = 0 ∧ m ≤ 9 ∧ 4503599627370496 ≤ N * 2 ^ (52 - m) ∧ N * 2 ^ (52 - m) < 9007199254740992 := by
  have hN0 : 0 < N := by rw [← hN]; exact Nat.mul_pos (by omega) (Nat.pow_pos (by omega))
  have hb := nbits_bd hN0 h9; have hm9 : m ≤ 9 := by omega
  have hn : (j : Int) + nbits u.natAbs - 1 = m := by
    have := nbits_mul (N := u.natAbs) (by omega) j; rw [Nat.mul_comm, hN, hm] at this
    omega
  have hd : (dig W u.natAbs).length ≤ 1 := (L.dig_len W_gt u.natAbs 1).2 (by rw [Nat.pow_one]; show _ < 18446744073709551616; omega); have hl : ofLow (m : Int) = m - 52 := low_of (by omega); obtain ⟨e1, e2⟩ := jrs (z := u) (x := (j : Int)) (m := (m : Int)) (by omega) (by omega) (by omega) hn (by unfold ofBad; rw [hl]; omega); refine ⟨?_, e2, hm9, ?_, ?_⟩
  · rw [e1]
    unfold ofPat; rw [hl, if_pos (by omega), show ((j : Int) - ((m : Int) - 52)).toNat = j + (52 - m) by omega, Nat.pow_add, ← Nat.mul_assoc, hN, show ((m : Int) + 1022).toNat = m + 1022 by omega]
  · have h1 : 2 ^ m ≤ N := by
      rcases Nat.lt_or_ge N (2 ^ m) with e | e
      · have := (jaw N m).2 e
        omega
      · exact e
    have h2 := Nat.mul_le_mul_right (2 ^ (52 - m)) h1; rw [← Nat.pow_add, show m + (52 - m) = 52 by omega] at h2; exact h2
  · have h1 : N < 2 ^ (m + 1) := by
      have := (jaw N (m + 1)).1 (by omega); exact this
    have h2 := Nat.mul_lt_mul_of_pos_right h1 (Nat.pow_pos (n := 52 - m) (a := 2) (by omega)); rw [← Nat.pow_add, show m + 1 + (52 - m) = 53 by omega] at h2; exact h2
theorem norm_odd {n : Int} (h0 : n ≠ 0) (h1 : -999 ≤ n) (h2 : n ≤ 999) : nM (nM n 0) (nE n 0) = nM n 0 ∧ nE (nM n 0) (nE n 0) = nE n 0 := by
  obtain ⟨u, j, e, o, hj, em, ee, hu⟩ := odd_part h0 h1 h2; rw [em, ee]; exact ⟨jk0 (by omega) (by omega) o, jk1 (by omega) (by omega) o⟩
theorem whole_pat {n : Int} (h0 : n ≠ 0) (h1 : -999 ≤ n) (h2 : n ≤ 999) {b : Nat} (hb : oB1 (nM n 0) (nE n 0) = b) :
    oX1 (nM n 0) (nE n 0) = 0 ∧ b < W ∧ (b : Int) / 4503599627370496 % 2048 = (nbits n.natAbs : Nat) + 1022 ∧ vM b = nM n 0 ∧ vE b = nE n 0 ∧ vX b = 0 := by
  obtain ⟨u, j, e, o, hj, em, ee, hu⟩ := odd_part h0 h1 h2; rw [em, ee] at hb ⊢
  have hN : u.natAbs * 2 ^ j = n.natAbs := by
    rw [e, Int.natAbs_mul, Int.natAbs_pow]
    rfl
  have hb0 := nbits_bd (N := n.natAbs) (by omega) (by omega); obtain ⟨m, hm⟩ : ∃ m, nbits n.natAbs = m + 1 := ⟨nbits n.natAbs - 1, by omega⟩; obtain ⟨p1, p2, p3, p4, p5⟩ := jtp o hj hu hN (by omega) hm; rw [hb] at p1; obtain ⟨f, hf⟩ : ∃ f, n.natAbs * 2 ^ (52 - m) = 4503599627370496 + f := ⟨n.natAbs * 2 ^ (52 - m) - 4503599627370496, by omega⟩; have T : T63 = 9223372036854775808 := rfl; have hW : W = 18446744073709551616 := rfl; have eF : pFld b = m + 1023 := by unfold pFld; rw [p1, hf, T]; split <;> omega
  have eR : pFrc b = f := by unfold pFrc; rw [p1, hf, T]; split <;> omega
  have eN : pNeg b = decide (u < 0) := by
    unfold pNeg; rw [p1, hf, T]
    split
    · rw [decide_eq_true (by omega), decide_eq_true (by assumption)]
    · rw [decide_eq_false (by omega), decide_eq_false (by assumption)]
  have eM : rM b = u * 2 ^ (j + (52 - m)) := by
    have k : ((f + 4503599627370496 : Nat) : Int) = (u.natAbs : Int) * 2 ^ (j + (52 - m)) := by
      rw [Int.pow_add, ← Int.mul_assoc, show (u.natAbs : Int) * 2 ^ j = (n.natAbs : Int) by rw [← hN]; push_cast; rfl, show ((n.natAbs : Int) * 2 ^ (52 - m)) = ((n.natAbs * 2 ^ (52 - m) : Nat) : Int) by push_cast; rfl, hf, Nat.add_comm]
    unfold rM; rw [eF, eR, eN, if_neg (by omega)]; unfold ival
    by_cases hs : u < 0
    · rw [decide_eq_true hs, if_pos rfl, k, show (u.natAbs : Int) = -u by omega, Int.neg_mul, Int.neg_neg]
    · rw [decide_eq_false hs, if_neg (by decide), k, show (u.natAbs : Int) = u by omega]
  have eE : rE b = (m : Int) - 52 := by
    unfold rE; rw [eF, if_neg (by omega)]
    omega
  refine ⟨p2, ?_, ?_, ?_, ?_, ?_⟩
  · rw [p1, hf, T, hW]
    split <;> omega
  · rw [hm]
    unfold pFld at eF
    omega
  · unfold vM
    rw [eF, if_neg (by omega), eM, eE]; exact jns (by omega) (by omega) o
  · unfold vE
    rw [eF, if_neg (by omega), eM, eE, jnt (by omega) (by omega) o]
    omega
  · unfold vX
    rw [eF, if_neg (by omega)]
end Px
namespace V
def B0 : T := ap2 72 M0 E0
def beR (s : List T) : Rs := { rs := [⟨nF ++ s, ap2 2 (ap2 1 B0 c52) (.n 2048), .add bl (.n 1022)⟩, ⟨nF ++ s, ap1 69 B0, M0⟩, ⟨nF ++ s, ap1 70 B0, E0⟩, ⟨nF ++ s, ap1 71 B0, .n 0⟩, ⟨nF ++ s, ap2 73 M0 E0, .n 0⟩, ⟨nF ++ s, ap2 56 M0 E0, M0⟩, ⟨nF ++ s, ap2 57 M0 E0, E0⟩], ft := [] }
theorem jtq {ρ : Nat → Int} {s : List T} (h : allT F0 ρ (nF ++ s)) : -999 ≤ ρ 0 ∧ ρ 0 ≤ 999 := jj5 (jae h)
theorem jr9 {ρ : Nat → Int} (h0 : ρ 0 ≠ 0) (h1 : -999 ≤ ρ 0) (h2 : ρ 0 ≤ 999) : B0.den F0 ρ = (oB1 (nM (ρ 0) 0) (nE (ρ 0) 0) : Nat) := by
  obtain ⟨e1, e2⟩ := Px.norm_odd h0 h1 h2; have e : B0.den F0 ρ = ((oB1 (nM (nM (ρ 0) 0) (nE (ρ 0) 0)) (nE (nM (ρ 0) 0) (nE (ρ 0) 0)) : Nat) : Int) := rfl; rw [e, e1, e2]
theorem jsa {s : List T} (h0 : ∀ {ρ : Nat → Int}, allT F0 ρ (nF ++ s) → ρ 0 ≠ 0) : RsOK F0 (beR s) := by
  refine ⟨fun r hr ρ hc => ?_, fun r hr => (by cases hr)⟩; simp only [beR, List.mem_cons, List.not_mem_nil, or_false] at hr
  rcases hr with rfl | rfl | rfl | rfl | rfl | rfl | rfl <;> obtain ⟨h1, h2⟩ := jtq hc <;> have h3 := h0 hc <;> have hB := jr9 h3 h1 h2 <;> obtain ⟨k1, k2, k3, k4, k5, k6⟩ := Px.whole_pat h3 h1 h2 rfl
  · show B0.den F0 ρ / 4503599627370496 % 2048 = (nbits (ρ 0).natAbs : Nat) + 1022
    rw [hB]; exact k3
  · show vM (B0.den F0 ρ).toNat = nM (ρ 0) 0
    rw [hB]; exact k4
  · show vE (B0.den F0 ρ).toNat = nE (ρ 0) 0
    rw [hB]; exact k5
  · show vX (B0.den F0 ρ).toNat = 0
    rw [hB]; exact k6
  · show oX1 (nM (nM (ρ 0) 0) (nE (ρ 0) 0)) (nE (nM (ρ 0) 0) (nE (ρ 0) 0)) = 0
    rw [(Px.norm_odd h3 h1 h2).1, (Px.norm_odd h3 h1 h2).2]; exact k1
  · exact (Px.norm_odd h3 h1 h2).1
  · exact (Px.norm_odd h3 h1 h2).2
theorem jvw : RsOK F0 (beR sgP) := jsa fun h => by have := sg_P h; omega
theorem jvx : RsOK F0 (beR sgN) := jsa fun h => by have := sg_N h; omega
end V
end
end
section
section
open Go.RowKit Go.Shelf
namespace V
noncomputable def btE {R : Rs} (hR : RsOK F0 R) : List (Ctr Tryz.prog F0) := pt1 g0 ((dy1 g0).map (fun c => Ctr.fold (jef g0) (Ctr.nf hR c)) ++ dy1 g0)
noncomputable def lkEP : List (Ctr Tryz.prog F0) := cAtEp :: cSclE :: cGapE :: cPlsE :: btE jvw
noncomputable def lkEN : List (Ctr Tryz.prog F0) := cAtEn :: cSclE :: cGapE :: cPlsE :: btE jvx
def q2e : T := .add (.v 1) (.n 160)
def lkSE (s : List T) : Spec := dsp 6 [i64 (.n 1), .one (.sc (.i .u64 B0)), i64 (.v 1)] 2 (lkF s) (.tup [.ag [.z 40 true (p2 q2e), .z 140 true (p2 q2e), .i .i64 q2e, .i .i64 (.v 0), .i .i64 (.v 0), .i .i64 (.sub q2e (.n 53)), .z 0 true (.n 0), .z 447 true (.n 0), .b (.n 1)], .sc (.i .i64 (.n 0))])
def lkL : List T := [.le (.n 0) B0, .le B0 (.n 18446744073709551615)] ++ blF
theorem jsb {ρ : Nat → Int} (h0 : ρ 0 ≠ 0) (h1 : -999 ≤ ρ 0) (h2 : ρ 0 ≤ 999) : allT F0 ρ lkL := by
  have hB := jr9 h0 h1 h2; obtain ⟨k1, k2, -⟩ := Px.whole_pat h0 h1 h2 rfl; have hW : W = 18446744073709551616 := rfl; refine ⟨jbg ?_, jbg ?_, jmu h0 h1 h2⟩
  · show 0 ≤ B0.den F0 ρ
    rw [hB]; exact Int.natCast_nonneg _
  · show B0.den F0 ρ ≤ 18446744073709551615
    rw [hB]
    omega
theorem jxd (ρ : Nat → Int) (h : allT F0 ρ (lkF sgP)) : allT F0 ρ lkL := by
  obtain ⟨h1, h2⟩ := jj5 (jae (jae h)); exact jsb (by have := sg_P h; omega) h1 h2
theorem jxe (ρ : Nat → Int) (h : allT F0 ρ (lkF sgN)) : allT F0 ρ lkL := by
  obtain ⟨h1, h2⟩ := jj5 (jae (jae h)); exact jsb (by have := sg_N h; omega) h1 h2
theorem lkEPC : checkF (P := Tryz.prog) lkEP R0 [] (drawX lkEP) { lkSE sgP with fs := lkL ++ (lkSE sgP).fs } = true := by kernel_rfl
theorem lkENC : checkF (P := Tryz.prog) lkEN R0 [] (drawX lkEN) { lkSE sgN with fs := lkL ++ (lkSE sgN).fs } = true := by kernel_rfl
noncomputable def cLkEP : Ctr Tryz.prog F0 := Ctr.ofL (jbz _) follows_any lkL jxd lkEPC
noncomputable def cLkEN : Ctr Tryz.prog F0 := Ctr.ofL (jbz _) follows_any lkL jxe lkENC
end V
end
end
section
section
open Go.RowKit Go.Shelf
namespace V
def nT : T := ap2 7 (.v 0) (.n 1000)
def mN : T := ap2 56 nT (.n 0)
def eN : T := ap2 57 nT (.n 0)
def tF : List T := [.le (.n (-999)) nT, .le nT (.n 999)]
def tP : List T := tF ++ [.le (.n 1) nT]
def tN : List T := tF ++ [.le nT (.n (-1))]
def tZ : List T := tF ++ [.le nT (.n 0), .le (.n 0) nT]
def lwR (s : List T) : Rs := { rs := [⟨s, ap2 73 mN eN, .n 0⟩], ft := [] }
theorem jsc {s : List T} (h0 : ∀ {ρ : Nat → Int}, allT F0 ρ s → nT.den F0 ρ ≠ 0 ∧ -999 ≤ nT.den F0 ρ ∧ nT.den F0 ρ ≤ 999) : RsOK F0 (lwR s) := by
  refine ⟨fun r hr ρ hc => ?_, fun r hr => (by cases hr)⟩; simp only [lwR, List.mem_cons, List.not_mem_nil, or_false] at hr; subst hr; obtain ⟨k0, k1, k2⟩ := h0 hc
  show oX1 (nM (nM (nT.den F0 ρ) 0) (nE (nT.den F0 ρ) 0)) (nE (nM (nT.den F0 ρ) 0) (nE (nT.den F0 ρ) 0)) = 0
  rw [(Px.norm_odd k0 k1 k2).1, (Px.norm_odd k0 k1 k2).2]; exact (Px.whole_pat k0 k1 k2 rfl).1
theorem jvy {ρ : Nat → Int} {s : List T} (h : allT F0 ρ (tF ++ s)) : -999 ≤ nT.den F0 ρ ∧ nT.den F0 ρ ≤ 999 := ⟨jaa (jae h).1, jaa (jae h).2.1⟩
theorem jvz : RsOK F0 (lwR tP) := jsc fun h => by
  have h1 : (1 : Int) ≤ nT.den F0 _ := jaa (jau h).1; have h2 := jvy h
  omega
theorem jv0 : RsOK F0 (lwR tN) := jsc fun h => by
  have h1 : nT.den F0 _ ≤ (-1 : Int) := jaa (jau h).1; have h2 := jvy h
  omega
def lwZ : Rs := { rs := [⟨tZ, ap2 72 mN eN, .n 0⟩, ⟨tZ, ap2 73 mN eN, .n 0⟩], ft := [] }
theorem jv1 : RsOK F0 lwZ := by
  refine ⟨fun r hr ρ hc => ?_, fun r hr => (by cases hr)⟩; have n0 : nM 0 0 = 0 := jey; have e0 : nE 0 0 = 0 := jb6 _; simp only [lwZ, List.mem_cons, List.not_mem_nil, or_false] at hr
  have k : ∀ {ρ : Nat → Int}, allT F0 ρ tZ → nT.den F0 ρ = 0 := fun h => by
    have h1 : nT.den F0 _ ≤ (0 : Int) := jaa (jau (l := tF) h).1; have h2 : (0 : Int) ≤ nT.den F0 _ := jaa (jau (l := tF) h).2.1
    omega
  rcases hr with rfl | rfl <;> have h3 := k hc
  · show ((oB1 (nM (nM (nT.den F0 ρ) 0) (nE (nT.den F0 ρ) 0)) (nE (nM (nT.den F0 ρ) 0) (nE (nT.den F0 ρ) 0)) : Nat) : Int) = 0
    rw [h3, n0, e0, n0, e0]
    rfl
  · show oX1 (nM (nM (nT.den F0 ρ) 0) (nE (nT.den F0 ρ) 0)) (nE (nM (nT.den F0 ρ) 0) (nE (nT.den F0 ρ) 0)) = 0
    rw [h3, n0, e0, n0, e0]
    rfl
noncomputable def lwT {R : Rs} (hR : RsOK F0 R) : List (Ctr Tryz.prog F0) := (dy1 g0).map (fun c => Ctr.fold (jef g0) (Ctr.nf hR c)) ++ dy1 g0
noncomputable def lwTP : List (Ctr Tryz.prog F0) := cLkP :: cLkEP :: c09 g0 :: lwT jvz
noncomputable def lwTN : List (Ctr Tryz.prog F0) := cLkN :: cLkEN :: c09 g0 :: lwT jv0
noncomputable def lwTZ : List (Ctr Tryz.prog F0) := cLkZ :: c09 g0 :: lwT jv1
def exS (s : List T) : Spec := dsp 3 [i64 (.v 0), i64 (.v 1)] 2 s (.one (.sc (.b (.n 1))))
def eL : List T := [.le (.n 0) eN, .le eN (.n 9)]
theorem jxf {ρ : Nat → Int} (h1 : -999 ≤ nT.den F0 ρ) (h2 : nT.den F0 ρ ≤ 999) : allT F0 ρ eL := by
  have e : eN.den F0 ρ = nE (nT.den F0 ρ) 0 := rfl
  have k : 0 ≤ eN.den F0 ρ ∧ eN.den F0 ρ ≤ 9 := by
    rw [e]
    by_cases h0 : nT.den F0 ρ = 0
    · rw [h0, show nE 0 0 = 0 from jb6 _]
      decide
    · obtain ⟨u, j, -, -, hj, -, ee, -⟩ := Px.odd_part h0 h1 h2
      omega
  exact ⟨jbg k.1, jbg k.2, trivial⟩
theorem exP : checkF (P := Tryz.prog) lwTP R0 [] (drawX lwTP) (exS (eL ++ tP)) = true := by kernel_rfl
theorem exN : checkF (P := Tryz.prog) lwTN R0 [] (drawX lwTN) (exS (eL ++ tN)) = true := by kernel_rfl
theorem exZ : checkF (P := Tryz.prog) lwTZ R0 [] (drawX lwTZ) (exS (eL ++ tZ)) = true := by kernel_rfl
theorem exact_v {w : World} (n m : Int) : Calls Tryz.prog 3 #[.int .i64 n, .int .i64 m] w fun e w' => e = .returned (.bool true) ∧ Below w.heap.size w w' := by
  have ha : hasA F0 (fun k => if k = 0 then n else m) id w [i64 (.v 0), i64 (.v 1)] [.int .i64 n, .int .i64 m] := ⟨_, _, rfl, rfl, ⟨_, _, rfl, rfl, rfl⟩⟩
  have fin : ∀ {e : Ending} {w' : World}, (Below w.heap.size w w' ∧ ∃ u, e = .returned u ∧ (A.one (.sc (.b (.n 1)))).has F0 (fun k => if k = 0 then n else m) id w' u) → e = .returned (.bool true) ∧ Below w.heap.size w w' := fun ⟨h1, u, h2, h3⟩ => by
    have h4 : [u] = [Value.bool true] := h3; rw [h2, List.head_eq_of_cons_eq h4]; exact ⟨rfl, h1⟩
  have eT : nT.den F0 (fun k => if k = 0 then n else m) = n.tmod 1000 := rfl
  have h1 : -999 ≤ nT.den F0 (fun k => if k = 0 then n else m) := by
    rw [eT]; have := Int.lt_tmod_of_pos n (b := 1000) (by decide)
    omega
  have h2 : nT.den F0 (fun k => if k = 0 then n else m) ≤ 999 := by
    rw [eT]; have := Int.tmod_lt_of_pos n (b := 1000) (by decide)
    omega
  have hE := jxf h1 h2; have hT : allT F0 (fun k => if k = 0 then n else m) tF := ⟨jbg h1, jbg h2, trivial⟩
  by_cases hp : 1 ≤ nT.den F0 (fun k => if k = 0 then n else m)
  · obtain ⟨-, -, k⟩ := jke (jbz _) (fun n w0 => jcl follows_any _ n w0) exP ha jft (jaq hE (jaq hT ⟨jbg hp, trivial⟩))
    exact k.mono fun e w' h => fin h
  · by_cases hn : nT.den F0 (fun k => if k = 0 then n else m) ≤ -1
    · obtain ⟨-, -, k⟩ := jke (jbz _) (fun n w0 => jcl follows_any _ n w0) exN ha jft (jaq hE (jaq hT ⟨jbg hn, trivial⟩))
      exact k.mono fun e w' h => fin h
    · obtain ⟨-, -, k⟩ := jke (jbz _) (fun n w0 => jcl follows_any _ n w0) exZ ha jft (jaq hE (jaq hT ⟨jbg (show nT.den F0 (fun k => if k = 0 then n else m) ≤ 0 by omega), jbg (show 0 ≤ nT.den F0 (fun k => if k = 0 then n else m) by omega), trivial⟩))
      exact k.mono fun e w' h => fin h
end V
end
end
end Go.Proofs.YtoklgpefpaclhaaGreat
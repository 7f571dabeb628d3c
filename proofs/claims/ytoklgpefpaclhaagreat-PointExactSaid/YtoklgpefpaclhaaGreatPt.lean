/- Plain: what is exact (hairlinelaw09.PointExact). V: elem.At of the logarithm to base 2, at powers of two. V: point.Scale, plus, Gap, Look of the logarithm to base 2, at powers of two. V: point.Look of the logarithm to base 2, at powers of two. -/
import Derived.Test.YtoklgpefpaclhaaGreatVg
import Derived.Test.YtoklgpefpaclhaaGreatEv
set_option linter.unusedVariables false
set_option linter.unusedSimpArgs false
namespace Go.Proofs.YtoklgpefpaclhaaGreat
section
section
open L (val dig nth)
namespace Px
theorem up0 {y : Int} (hy : 0 < y) : vUp 0 y = 0 := by rw [jkm hy]; simp
theorem lo0 {q y : Int} (hy : 0 < y) : vLo q 0 y = 0 := by unfold vLo; rw [Int.zero_mul, Int.neg_zero, up0 hy]; rfl
theorem hi0 {q y : Int} (hy : 0 < y) : vHi q 0 y = 0 := by unfold vHi; rw [Int.zero_mul, up0 hy]
theorem min40 : min4 0 0 0 0 = 0 := by decide
theorem max40 : max4 0 0 0 0 = 0 := by decide
theorem rA0 (d : Nat → Int) (T : Int) : ∀ k, rA d T 0 k = 0
  | 0 => rfl
  | k + 1 => by
    show rA d T 0 k * T / d (k + 1) = 0
    rw [rA0 d T k, Int.zero_mul, Int.zero_ediv]
theorem rB0 {d : Nat → Int} (hd : ∀ k, 0 < d (k + 1)) (T : Int) : ∀ k, rB d T 0 k = 0
  | 0 => rfl
  | k + 1 => by
    show vUp (rB d T 0 k * T) (d (k + 1)) = 0
    rw [rB0 hd T k, Int.zero_mul, up0 (hd k)]
theorem su0 {a : Nat → Int} (h : ∀ k, a k = 0) : ∀ n, su a n = 0
  | 0 => rfl
  | n + 1 => by rw [su, su0 h n, h n]; rfl
theorem jqd (q : Int) (k : Nat) : 0 < dPow q k := by
  unfold dPow; rw [Int.one_mul]; exact Int.pow_pos (by omega)
theorem atanhLo0 (q : Int) (n : Nat) : atanhLo 0 q n = 0 := by
  unfold atanhLo; rw [Int.zero_mul]; exact su0 (fun k => by unfold oA; rw [rA0, Int.zero_mul, Int.zero_ediv]) n
theorem oB0 (q : Int) (k : Nat) : oB (rB (dPow q) 0 0) k = 0 := by
  unfold oB; rw [rB0 (fun k => jqd q _), Int.zero_mul, up0 (jpq k)]
theorem atanhHi0 (q : Int) (n : Nat) : atanhHi 0 q n = 0 := by
  unfold atanhHi; rw [Int.zero_mul, su0 (oB0 q) n, oB0]
  rfl
theorem rA_zero (d : Nat → Int) (P : Int) (k : Nat) : rA d 0 P (k + 1) = 0 := by
  show rA d 0 P k * 0 / d (k + 1) = 0
  rw [Int.mul_zero, Int.zero_ediv]
theorem rB_zero {d : Nat → Int} (hd : ∀ k, 0 < d (k + 1)) (P : Int) (k : Nat) : rB d 0 P (k + 1) = 0 := by
  show vUp (rB d 0 P k * 0) (d (k + 1)) = 0
  rw [Int.mul_zero, up0 (hd k)]
theorem su_one {a : Nat → Int} (h : ∀ k, a (k + 1) = 0) : ∀ n, su a (n + 1) = a 0
  | 0 => by rw [su, su]; omega
  | n + 1 => by rw [su, su_one h n, h n]; omega
theorem dExp_pos (q : Int) (k : Nat) : 0 < dExp q (k + 1) := by
  have h1 := jkn q k; have h2 : (0 : Int) < 2 ^ q.toNat := Int.pow_pos (by omega)
  omega
theorem cM_one {x : Int} (h1 : -4000 ≤ x) (h2 : x ≤ 4000) : cM 1 x = 1 := by unfold cM; rw [if_neg (by omega)]
theorem jrv {x : Int} (h1 : -4000 ≤ x) (h2 : x ≤ 4000) : cE 1 x = x := by unfold cE; rw [if_neg (by omega)]
theorem jn7 {n : Int} (h1 : -999 ≤ n) (h2 : n ≤ 999) : pFld ((n + 1023) * 4503599627370496).toNat = (n + 1023).toNat ∧ pFrc ((n + 1023) * 4503599627370496).toNat = 0 ∧ pNeg ((n + 1023) * 4503599627370496).toNat = false := by
  obtain ⟨k, hk⟩ : ∃ k : Nat, n + 1023 = (k : Int) := ⟨(n + 1023).toNat, by omega⟩; rw [hk, show ((k : Int) * 4503599627370496).toNat = k * 4503599627370496 by omega, show ((k : Int)).toNat = k from rfl]; refine ⟨?_, ?_, ?_⟩
  · unfold pFld
    rw [Nat.mul_div_cancel _ (by decide)]
    omega
  · unfold pFrc
    exact Nat.mul_mod_left _ _
  · exact decide_eq_false (by omega)
theorem val_first {n : Int} (h1 : -999 ≤ n) (h2 : n ≤ 999) : vM ((n + 1023) * 4503599627370496).toNat = 1 ∧ vE ((n + 1023) * 4503599627370496).toNat = n ∧ vX ((n + 1023) * 4503599627370496).toNat = 0 := by
  obtain ⟨f1, f2, f3⟩ := jn7 h1 h2
  have hM : rM ((n + 1023) * 4503599627370496).toNat = 1 * 2 ^ 52 := by
    unfold rM; rw [f1, f2, f3, if_neg (by omega)]
    rfl
  have hE : rE ((n + 1023) * 4503599627370496).toNat = n - 52 := by
    unfold rE; rw [f1, if_neg (by omega)]
    omega
  refine ⟨?_, ?_, ?_⟩
  · unfold vM
    rw [f1, if_neg (by omega), hM, hE]; exact jns (by omega) (by omega) rfl
  · unfold vE
    rw [f1, if_neg (by omega), hM, hE, jnt (by omega) (by omega) rfl]
    omega
  · unfold vX
    rw [f1, if_neg (by omega)]
theorem lg_one {n : Int} (h1 : -4000 ≤ n) (h2 : n ≤ 4000) : lgN 1 n = n ∧ lgOk 1 n = true := by
  unfold lgN lgOk; rw [cM_one h1 h2, jrv h1 h2, if_neg (by decide), show nbits (1 : Int).natAbs = 1 from jbk (n := 1) (by decide) (.inr (by decide))]; exact ⟨by omega, rfl⟩
theorem jrw {n : Int} (h1 : -4000 ≤ n) (h2 : n ≤ 4000) : av 4000 1 n = 1 * 2 ^ (n + (4000 : Nat)).toNat := by
  unfold av sv; rw [cM_one h1 h2, jrv h1 h2]
theorem jxa {n : Int} (h1 : -4000 ≤ n) (h2 : n ≤ 4000) : av 4000 1 n ≠ 0 := by
  rw [jrw h1 h2, Int.one_mul]; exact Int.ne_of_gt (Int.pow_pos (by omega))
theorem shift_one {n p : Int} (h1 : -4000 ≤ n) (h2 : n ≤ 4000) (hp : p = -n) : pM (av 4000 1 n) = 1 ∧ pE (av 4000 1 n) (nearZ p - (4000 : Nat)) = 0 := by
  refine ⟨?_, ?_⟩
  · rw [← jsy]
    exact jk0 h1 h2 rfl
  · rw [show nearZ p - ((4000 : Nat) : Int) = -((4000 : Nat) : Int) + p by unfold nearZ; omega, jni, if_neg (jxa h1 h2), ← jsz (Nat.le_refl 4000), jk1 h1 h2 rfl]
    omega
theorem point_one {w : Int} (h1 : 0 ≤ w) (h2 : w ≤ 4000) : vFloor 4000 (av 4000 1 0) (nearZ w) = 2 ^ w.toNat ∧ vCeil 4000 (av 4000 1 0) (nearZ w) = 2 ^ w.toNat := by
  have e : nearZ w = w := by unfold nearZ; omega
  have hp : ((2 : Int) ^ 4000) ≠ 0 := Int.ne_of_gt (Int.pow_pos (by omega))
  have ea : av 4000 1 0 = 2 ^ 4000 := by
    rw [jrw (by omega) (by omega), Int.one_mul]
    rfl
  refine ⟨?_, ?_⟩
  · unfold vFloor
    rw [e, if_pos h1, ea, Int.mul_ediv_cancel_left _ hp]
  · unfold vCeil vFloor
    rw [e, if_pos h1, ea, Int.neg_mul, ← Int.mul_neg, Int.mul_ediv_cancel_left _ hp, Int.neg_neg]
def lnPos (q : Nat) : Bool := Nat.ble 65536 (Co.lnLo (q + 40 + 16) * 2)
theorem jn8 : Co.allB lnPos 301 = true := by kernel_rfl
theorem ln_pos {w : Int} (h0 : 40 ≤ w) (h1 : w ≤ 340) : 0 < lnLoZ w ∧ 0 < lnHiZ w ∧ lnLoZ w ≤ lnHiZ w := by
  obtain ⟨q, rfl⟩ : ∃ q : Nat, w = (q : Int) := ⟨w.toNat, by omega⟩; obtain ⟨k, rfl⟩ : ∃ k : Nat, q = k + 40 := ⟨q - 40, by omega⟩; have h2 := Nat.le_of_ble_eq_true (Co.allB_ok jn8 k (by omega)); obtain ⟨q, hq⟩ : ∃ q : Nat, k + 40 = q := ⟨_, rfl⟩; rw [hq] at h0 h1 h2 ⊢; have h3 := jwj q (by omega); rw [jmf] at h3; have h4 : lnLoZ q = (Co.lnLo (q + 16) : Int) * 2 / 65536 := by unfold lnLoZ; rw [jmf, s16]
  have h5 : lnHiZ q = 0 - (0 - atanhHi (1 * 2 ^ ((q : Int) + 16).toNat / 3 + 1) (q + 16) (((q : Int) + 16) / 3 + 2).toNat * 2) / 65536 := by unfold lnHiZ; rw [s16]
  rw [h4, h5]
  generalize atanhHi _ _ _ = y at *
  omega
theorem div_pow {n q w : Int} (h0 : 0 ≤ q) (hw : w = q + 40) : 2 ^ w.toNat * n / 2 ^ (w - q).toNat = 2 ^ q.toNat * n := by
  rw [hw, show (q + 40 - q).toNat = 40 by omega, show (q + 40).toNat = q.toNat + 40 by omega, Int.pow_add, Int.mul_right_comm, Int.mul_ediv_cancel _ (Int.ne_of_gt (Int.pow_pos (by omega)))]
theorem div_pow_neg {n q w : Int} (h0 : 0 ≤ q) (hw : w = q + 40) : (0 - 2 ^ w.toNat * n) / 2 ^ (w - q).toNat = 0 - 2 ^ q.toNat * n := by
  have := div_pow (n := -n) h0 hw; rw [Int.mul_neg, Int.mul_neg] at this; rw [Int.zero_sub, Int.zero_sub]; exact this
theorem cmp_self (x : Int) : cmpZ x x = 0 := by unfold cmpZ; rw [if_neg (by omega), if_neg (by omega)]
theorem nbits_mul {N : Nat} (h : 0 < N) (k : Nat) : nbits (2 ^ k * N) = nbits N + k := by
  have h1 := (jaw N (nbits N)).1 (Nat.le_refl _)
  have h0 : 0 < nbits N := by
    rcases Nat.eq_zero_or_pos (nbits N) with e | e
    · rw [e] at h1; omega
    · exact e
  have h2 : 2 ^ (nbits N - 1) ≤ N := by
    rcases Nat.lt_or_ge N (2 ^ (nbits N - 1)) with e | e
    · have := (jaw N (nbits N - 1)).2 e
      omega
    · exact e
  refine jbk ?_ (.inr ?_)
  · rw [Nat.pow_add, Nat.mul_comm]
    exact Nat.mul_lt_mul_of_pos_right h1 (Nat.pow_pos (by omega))
  · rw [show nbits N + k - 1 = k + (nbits N - 1) by omega, Nat.pow_add]
    exact Nat.mul_le_mul_left _ h2
theorem nbits_bd {N : Nat} (h : 0 < N) (h9 : N ≤ 999) : 1 ≤ nbits N ∧ nbits N ≤ 10 := by
  refine ⟨?_, (jaw N 10).2 (by omega)⟩; have h1 := (jaw N (nbits N)).1 (Nat.le_refl _)
  rcases Nat.eq_zero_or_pos (nbits N) with e | e
  · rw [e] at h1; omega
  · exact e
theorem abs_pow (q n : Int) : (2 ^ q.toNat * n).natAbs = 2 ^ q.toNat * n.natAbs := by
  rw [Int.natAbs_mul, Int.natAbs_pow]
  rfl
theorem cut_pow {s q n : Int} (h0 : 0 ≤ s) (h1 : s ≤ q) : 2 ^ q.toNat * n / 2 ^ s.toNat * 2 ^ s.toNat = 2 ^ q.toNat * n := by
  rw [show q.toNat = s.toNat + (q - s).toNat by omega, Int.pow_add, Int.mul_assoc, Int.mul_ediv_cancel_left _ (Int.ne_of_gt (Int.pow_pos (by omega))), Int.mul_comm]
theorem cut_pow_neg {s q n : Int} (h0 : 0 ≤ s) (h1 : s ≤ q) : (0 - 2 ^ q.toNat * n) / 2 ^ s.toNat * 2 ^ s.toNat = 0 - 2 ^ q.toNat * n := by
  have := cut_pow (n := -n) h0 h1; rw [Int.mul_neg] at this; rw [Int.zero_sub]; exact this
theorem cmp_pos {x : Int} (h : 0 < x) : cmpZ x 0 = 1 ∧ cmpZ 0 x = -1 := by
  unfold cmpZ; rw [if_neg (by omega), if_pos h, if_pos h]; exact ⟨rfl, rfl⟩
end Px
end
end
section
section
open Go.RowKit Go.Shelf
namespace V
abbrev F0 : Nat → List Int → Int := FD g0
def pbF : List T := [.le (.n (-999)) (.v 0), .le (.v 0) (.n 999), .le (.n 0) (.v 1), .le (.v 1) (.n 300)]
theorem jbb {ρ : Nat → Int} (h : allT F0 ρ pbF) : -999 ≤ ρ 0 ∧ ρ 0 ≤ 999 ∧ 0 ≤ ρ 1 ∧ ρ 1 ≤ 300 := by
  obtain ⟨h1, h2, h3, h4, -⟩ := h; exact ⟨jaa h1, jaa h2, jaa h3, jaa h4⟩
def wT : T := .add (.v 1) (.n 40)
def wX : T := p2 wT
def wN : T := .sub (.n 0) wX
def wW : T := .add wX wX
def wZ : T := .mul wX (.v 0)
def qZ : T := .mul (p2 (.v 1)) (.v 0)
def l48 : T := ap1 48 wT
def l49 : T := ap1 49 wT
def w3T : T := .add (ap2 1 wT (.n 3)) (.n 2)
def sameR (l : List T) : List Rule := l.map fun x => ⟨[], ap2 5 x x, .n 0⟩
theorem jd9 {F : Nat → List Int → Int} {l : List T} {r : Rule} (hr : r ∈ sameR l) (hF : ∀ x : Int, F 5 [x, x] = 0) (ρ : Nat → Int) : r.l.den F ρ = r.r.den F ρ := by
  obtain ⟨x, -, rfl⟩ := List.mem_map.1 hr; exact hF _
def oneR : List Rule := [
  ⟨pbF, ap2 67 (.n 1) (.v 0), .n 1⟩, ⟨pbF, ap2 58 (.n 1) (.v 0), .v 0⟩, ⟨pbF, ap2 68 (.n 1) (.v 0), .n 1⟩, ⟨pbF, ap2 56 (.n 1) (.v 0), .n 1⟩, ⟨pbF, ap2 57 (.n 1) (.v 0), .v 0⟩,
  ⟨pbF, ap2 64 (.n 1) (.v 0), .n 1⟩, ⟨pbF, ap3 63 (.n 1) (.v 0) (.sub (.n 0) (.v 0)), .n 0⟩, ⟨pbF, ap3 59 (.n 1) (.n 0) wT, wX⟩, ⟨pbF, ap3 60 (.n 1) (.n 0) wT, wX⟩]
def divR : List Rule := [
  ⟨[], .add wX wN, .n 0⟩, ⟨pbF, ap5 76 (.n 0) (.n 0) wW wW wT, .n 0⟩, ⟨pbF, ap5 77 (.n 0) (.n 0) wW wW wT, .n 0⟩, ⟨pbF, ap5 76 (.n 0) (.n 0) l48 l49 wT, .n 0⟩, ⟨pbF, ap5 77 (.n 0) (.n 0) l48 l49 wT, .n 0⟩,
  ⟨[], ap3 34 wT (.n 0) w3T, .n 0⟩, ⟨[], ap3 35 wT (.n 0) w3T, .n 0⟩]
def castR : List Rule := [
  ⟨pbF, ap2 1 wZ (p2 (.sub wT (.v 1))), qZ⟩, ⟨pbF, ap2 1 (.sub (.n 0) wZ) (p2 (.sub wT (.v 1))), .sub (.n 0) qZ⟩, ⟨[], .sub (.n 0) (.sub (.n 0) qZ), qZ⟩]
def plR : Rs := { rs := oneR ++ divR ++ castR ++ sameR [wX, wN, wW, wZ, qZ], ft := [] }
theorem jtm {r : Rule} (hr : r ∈ oneR) {ρ : Nat → Int} (hc : allT F0 ρ r.cs) : r.l.den F0 ρ = r.r.den F0 ρ := by
  simp only [oneR, List.mem_cons, List.not_mem_nil, or_false] at hr
  rcases hr with rfl | rfl | rfl | rfl | rfl | rfl | rfl | rfl | rfl <;> obtain ⟨h1, h2, h3, h4⟩ := jbb hc
  · show (cM 1 (ρ 0)).sign = 1
    rw [Px.cM_one (by omega) (by omega)]; rfl
  · exact (Px.lg_one (n := ρ 0) (by omega) (by omega)).1
  · show b2i (lgOk 1 (ρ 0)) = 1
    rw [(Px.lg_one (by omega) (by omega)).2]; rfl
  · exact jk0 (z := 1) (x := ρ 0) (by omega) (by omega) rfl
  · exact jk1 (z := 1) (x := ρ 0) (by omega) (by omega) rfl
  · exact (Px.shift_one (n := ρ 0) (by omega) (by omega) (p := 0 - ρ 0) (by omega)).1
  · exact (Px.shift_one (n := ρ 0) (by omega) (by omega) (p := 0 - ρ 0) (by omega)).2
  · exact (Px.point_one (w := ρ 1 + 40) (by omega) (by omega)).1
  · exact (Px.point_one (w := ρ 1 + 40) (by omega) (by omega)).2
theorem jrx {ρ : Nat → Int} : 0 < wW.den F0 ρ := by
  show (0 : Int) < 2 ^ (ρ 1 + 40).toNat + 2 ^ (ρ 1 + 40).toNat
  have : (0 : Int) < 2 ^ (ρ 1 + 40).toNat := Int.pow_pos (by omega)
  omega
theorem jtn {r : Rule} (hr : r ∈ divR) {ρ : Nat → Int} (hc : allT F0 ρ r.cs) : r.l.den F0 ρ = r.r.den F0 ρ := by
  have hw := jrx (ρ := ρ); have z4 : min4 0 0 0 0 = 0 := Px.min40; have y4 : max4 0 0 0 0 = 0 := Px.max40; simp only [divR, List.mem_cons, List.not_mem_nil, or_false] at hr
  rcases hr with rfl | rfl | rfl | rfl | rfl | rfl | rfl
  · show wX.den F0 ρ + (0 - wX.den F0 ρ) = 0
    omega
  · show min4 (vLo _ 0 (wW.den F0 ρ)) (vLo _ 0 (wW.den F0 ρ)) (vLo _ 0 (wW.den F0 ρ)) (vLo _ 0 (wW.den F0 ρ)) = 0
    rw [Px.lo0 hw, z4]
  · show max4 (vHi _ 0 (wW.den F0 ρ)) (vHi _ 0 (wW.den F0 ρ)) (vHi _ 0 (wW.den F0 ρ)) (vHi _ 0 (wW.den F0 ρ)) = 0
    rw [Px.hi0 hw, y4]
  · obtain ⟨h1, h2, h3, h4⟩ := jbb hc
    obtain ⟨k1, k2, k3⟩ := Px.ln_pos (w := ρ 1 + 40) (by omega) (by omega)
    show min4 (vLo _ 0 (lnLoZ (ρ 1 + 40))) (vLo _ 0 (lnHiZ (ρ 1 + 40))) (vLo _ 0 (lnLoZ (ρ 1 + 40))) (vLo _ 0 (lnHiZ (ρ 1 + 40))) = 0
    rw [Px.lo0 k1, Px.lo0 k2, z4]
  · obtain ⟨h1, h2, h3, h4⟩ := jbb hc
    obtain ⟨k1, k2, k3⟩ := Px.ln_pos (w := ρ 1 + 40) (by omega) (by omega)
    show max4 (vHi _ 0 (lnLoZ (ρ 1 + 40))) (vHi _ 0 (lnHiZ (ρ 1 + 40))) (vHi _ 0 (lnLoZ (ρ 1 + 40))) (vHi _ 0 (lnHiZ (ρ 1 + 40))) = 0
    rw [Px.hi0 k1, Px.hi0 k2, y4]
  · exact Px.atanhLo0 _ _
  · exact Px.atanhHi0 _ _
theorem jqe {r : Rule} (hr : r ∈ castR) {ρ : Nat → Int} (hc : allT F0 ρ r.cs) : r.l.den F0 ρ = r.r.den F0 ρ := by
  simp only [castR, List.mem_cons, List.not_mem_nil, or_false] at hr
  rcases hr with rfl | rfl | rfl
  · obtain ⟨h1, h2, h3, h4⟩ := jbb hc
    exact Px.div_pow h3 rfl
  · obtain ⟨h1, h2, h3, h4⟩ := jbb hc
    exact Px.div_pow_neg h3 rfl
  · show 0 - (0 - qZ.den F0 ρ) = qZ.den F0 ρ
    omega
theorem jvq : RsOK F0 plR := by
  refine ⟨fun r hr ρ hc => ?_, fun r hr => (by cases hr)⟩
  rcases List.mem_append.1 hr with hr | hr
  · rcases List.mem_append.1 hr with hr | hr
    · rcases List.mem_append.1 hr with hr | hr
      · exact jtm hr hc
      · exact jtn hr hc
    · exact jqe hr hc
  · exact jd9 hr (fun x => Px.cmp_self x) ρ
def plL : List T := [.le (ap2 5 (.mul (.n 0) (ap1 0 (.n 1))) (.mul (.n 1) wX)) (.n 0), .le (.n 0) (ap1 4 (.n 0)), rightL (.n 0) (.n 0), rightL wW wW, .lt (.n 0) (.mul (ap1 4 wW) (ap1 4 wW)), rightL l48 l49, .lt (.n 0) (.mul (ap1 4 l48) (ap1 4 l49))]
theorem jiu (s : List T) (ρ : Nat → Int) (hp : allT F0 ρ (pbF ++ s)) : allT F0 ρ plL := by
  obtain ⟨h1, h2, h3, h4⟩ := jbb (jae hp); obtain ⟨k1, k2, k3⟩ := Px.ln_pos (w := ρ 1 + 40) (by omega) (by omega); have hw := jrx (ρ := ρ); have hx : (0 : Int) < 2 ^ (ρ 1 + 40).toNat := Int.pow_pos (by omega); refine ⟨jbg ?_, jbg (show (0 : Int) ≤ (0 : Int).sign by decide), jbr (Int.le_refl _), jbr (Int.le_refl _), jt6 ?_, jbr k3, jt6 ?_, trivial⟩
  · show cmpZ (0 * 2 ^ (1 : Int).toNat) (1 * 2 ^ (ρ 1 + 40).toNat) ≤ 0
    rw [jcd]
    omega
  · show 0 < (wW.den F0 ρ).sign * (wW.den F0 ρ).sign
    rw [Int.sign_eq_one_of_pos hw]; decide
  · show 0 < (lnLoZ (ρ 1 + 40)).sign * (lnHiZ (ρ 1 + 40)).sign
    rw [Int.sign_eq_one_of_pos k1, Int.sign_eq_one_of_pos k2]; decide
noncomputable def plB : List (Ctr Tryz.prog F0) := (dy1 g0).map (fun c => Ctr.fold (jef g0) (Ctr.nf jvq c)) ++ dy1 g0
noncomputable def plE : List (Ctr Tryz.prog F0) := el4 g0 plB
def sgP : List T := [.le (.n 1) (.v 0)]
def sgN : List T := [.le (.v 0) (.n (-1))]
def sgZ : List T := [.le (.v 0) (.n 0), .le (.n 0) (.v 0)]
def atL (s : List T) : Spec := dsp 13 [i64 (.n 3), dA 200 false (.n 1) (.v 0), i64 (.v 1)] 2 (pbF ++ s) (.tup [.ag [.z 435 true qZ, .z 435 true qZ, .i .i64 (.v 1)], .sc (.i .i64 (.n 0)), .sc (.i .i64 (.n 0))])
theorem atLp : checkF (P := Tryz.prog) plE R0 [] (drawX plE) { atL sgP with fs := plL ++ (atL sgP).fs } = true := by kernel_rfl
theorem atLn : checkF (P := Tryz.prog) plE R0 [] (drawX plE) { atL sgN with fs := plL ++ (atL sgN).fs } = true := by kernel_rfl
theorem atLz : checkF (P := Tryz.prog) plE R0 [] (drawX plE) { atL sgZ with fs := plL ++ (atL sgZ).fs } = true := by kernel_rfl
noncomputable def cAtp : Ctr Tryz.prog F0 := Ctr.ofL (jbz _) follows_any plL (jiu sgP) atLp
noncomputable def cAtn : Ctr Tryz.prog F0 := Ctr.ofL (jbz _) follows_any plL (jiu sgN) atLn
noncomputable def cAtz : Ctr Tryz.prog F0 := Ctr.ofL (jbz _) follows_any plL (jiu sgZ) atLz
end V
end
end
section
section
open Go.RowKit Go.Shelf
namespace V
def bl : T := ap1 6 (.v 0)
def nZ : T := .sub (.n 0) qZ
def blF : List T := [.le (.n 1) bl, .le bl (.n 10)]
theorem jn9 {ρ : Nat → Int} : qZ.den F0 ρ = 2 ^ (ρ 1).toNat * ρ 0 := rfl
theorem sg_P {ρ : Nat → Int} {l : List T} (h : allT F0 ρ (l ++ sgP)) : 1 ≤ ρ 0 := jaa (jau h).1
theorem sg_N {ρ : Nat → Int} {l : List T} (h : allT F0 ρ (l ++ sgN)) : ρ 0 ≤ -1 := jaa (jau h).1
theorem jmu {ρ : Nat → Int} (h0 : ρ 0 ≠ 0) (h1 : -999 ≤ ρ 0) (h2 : ρ 0 ≤ 999) : allT F0 ρ blF := by
  obtain ⟨k1, k2⟩ := Px.nbits_bd (N := (ρ 0).natAbs) (by omega) (by omega); exact ⟨jbg (show (1 : Int) ≤ (nbits (ρ 0).natAbs : Nat) by omega), jbg (show ((nbits (ρ 0).natAbs : Nat) : Int) ≤ 10 by omega), trivial⟩
theorem pw {q : Int} : (0 : Int) < 2 ^ q.toNat := Int.pow_pos (by omega)
def scR (s : List T) (g : Int) : Rs := { rs := [⟨pbF ++ s, ap1 4 qZ, .n g⟩, ⟨pbF ++ s, ap1 6 qZ, .add bl (.v 1)⟩, ⟨pbF ++ s, ap1 6 nZ, .add bl (.v 1)⟩] ++ sameR [qZ, nZ], ft := [] }
theorem jry {ρ : Nat → Int} (h0 : ρ 0 ≠ 0) (h1 : 0 ≤ ρ 1) : ((nbits (qZ.den F0 ρ).natAbs : Nat) : Int) = ((nbits (ρ 0).natAbs : Nat) : Int) + ρ 1 ∧ ((nbits (nZ.den F0 ρ).natAbs : Nat) : Int) = ((nbits (ρ 0).natAbs : Nat) : Int) + ρ 1 := by
  have e : (nZ.den F0 ρ).natAbs = (qZ.den F0 ρ).natAbs := by
    show (0 - qZ.den F0 ρ).natAbs = _
    omega
  rw [e, jn9, Px.abs_pow, Px.nbits_mul (by omega)]
  omega
theorem jrz {s : List T} {g : Int} (h0 : ∀ {ρ : Nat → Int}, allT F0 ρ (pbF ++ s) → (ρ 0).sign = g ∧ ρ 0 ≠ 0) : RsOK F0 (scR s g) := by
  refine ⟨fun r hr ρ hc => ?_, fun r hr => (by cases hr)⟩
  rcases List.mem_append.1 hr with hr | hr
  · simp only [List.mem_cons, List.not_mem_nil, or_false] at hr
    rcases hr with rfl | rfl | rfl <;> obtain ⟨k1, k2⟩ := h0 hc <;> obtain ⟨h1, h2, h3, h4⟩ := jbb (jae hc)
    · show (qZ.den F0 ρ).sign = g
      rw [jn9, Int.sign_mul, Int.sign_eq_one_of_pos pw, Int.one_mul, k1]
    · exact (jry k2 h3).1
    · exact (jry k2 h3).2
  · exact jd9 hr (fun x => Px.cmp_self x) ρ
theorem jk8 : RsOK F0 (scR sgP 1) := jrz fun h => ⟨Int.sign_eq_one_of_pos (by have := sg_P h; omega), by have := sg_P h; omega⟩
theorem jk9 : RsOK F0 (scR sgN (-1)) := jrz fun h => ⟨Int.sign_eq_neg_one_of_neg (by have := sg_N h; omega), by have := sg_N h; omega⟩
noncomputable def scB {R : Rs} (hR : RsOK F0 R) : List (Ctr Tryz.prog F0) := pt1 g0 ((dy1 g0).map (Ctr.nf hR) ++ dy1 g0)
def bQ4 (z : T) : A := bA 435 true z z (.v 1)
def sclS (s : List T) : Spec := { f := 14, ps := [bQ4 qZ], bx := [], np := 2, fs := pbF ++ s, res := .tup [.sc (.i .i64 (.sub bl (.n 1))), .sc (.b (.n 1))], post := blF }
theorem blP (ρ : Nat → Int) (h : allT F0 ρ (pbF ++ sgP)) : allT F0 ρ blF := by
  obtain ⟨h1, h2, h3, h4⟩ := jbb (jae h); exact jmu (by have := sg_P h; omega) h1 h2
theorem blN (ρ : Nat → Int) (h : allT F0 ρ (pbF ++ sgN)) : allT F0 ρ blF := by
  obtain ⟨h1, h2, h3, h4⟩ := jbb (jae h); exact jmu (by have := sg_N h; omega) h1 h2
theorem sclP : checkF (P := Tryz.prog) (scB jk8) R0 [] (drawX (scB jk8)) { sclS sgP with fs := blF ++ (sclS sgP).fs } = true := by kernel_rfl
theorem sclN : checkF (P := Tryz.prog) (scB jk9) R0 [] (drawX (scB jk9)) { sclS sgN with fs := blF ++ (sclS sgN).fs } = true := by kernel_rfl
noncomputable def cSclP : Ctr Tryz.prog F0 := Ctr.ofL (jbz _) follows_any blF blP sclP
noncomputable def cSclN : Ctr Tryz.prog F0 := Ctr.ofL (jbz _) follows_any blF blN sclN
def plsS (s : List T) (z : T) : Spec := dsp 16 [bQ4 qZ] 2 (pbF ++ s) (bQ4 z)
theorem plsP : checkF (P := Tryz.prog) (scB jk8) R0 [] (drawX (scB jk8)) (plsS sgP qZ) = true := by kernel_rfl
theorem plsN : checkF (P := Tryz.prog) (scB jk9) R0 [] (drawX (scB jk9)) (plsS sgN nZ) = true := by kernel_rfl
noncomputable def cPlsP : Ctr Tryz.prog F0 := Ctr.of (jbz _) follows_any plsP
noncomputable def cPlsN : Ctr Tryz.prog F0 := Ctr.of (jbz _) follows_any plsN
def sS : T := .add (.sub (.v 1) (.n 53)) (.sub bl (.n 1))
def pS : T := p2 sS
def hS : T := p2 (.sub sS (.n 1))
def gpF : List T := pbF ++ [.le (.n 100) (.v 1)]
def gpR (z : T) (s : List T) : Rs := { rs := [⟨gpF ++ s, .mul (ap2 1 z pS) pS, z⟩, ⟨[], .sub z z, .n 0⟩, ⟨[], ap2 1 (.n 0) pS, .n 0⟩, ⟨[], ap2 5 pS (.n 0), .n 1⟩, ⟨[], ap2 5 (.n 0) pS, .n (-1)⟩, ⟨[], ap2 5 hS (.n 0), .n 1⟩, ⟨[], ap2 5 (.n 0) hS, .n (-1)⟩, ⟨[], .mul (.n 0) pS, .n 0⟩, ⟨[], ap1 4 (.n 0), .n 0⟩, ⟨[], .sub (.n 0) (.n 0), .n 0⟩, ⟨[], .sub pS (.n 0), pS⟩, ⟨[], ap2 5 (.n 0) (.n 0), .n 0⟩] ++ sameR [z], ft := [] }
theorem jr0 {z : T} {s : List T} (hz : ∀ {ρ : Nat → Int}, allT F0 ρ (gpF ++ s) → z.den F0 ρ / pS.den F0 ρ * pS.den F0 ρ = z.den F0 ρ) : RsOK F0 (gpR z s) := by
  refine ⟨fun r hr ρ hc => ?_, fun r hr => (by cases hr)⟩; have k1 : 0 < pS.den F0 ρ := pw; have k2 : 0 < hS.den F0 ρ := pw
  rcases List.mem_append.1 hr with hr | hr
  · simp only [List.mem_cons, List.not_mem_nil, or_false] at hr
    rcases hr with rfl | rfl | rfl | rfl | rfl | rfl | rfl | rfl | rfl | rfl | rfl | rfl
    · exact hz hc
    · exact Int.sub_self _
    · exact Int.zero_ediv _
    · exact (Px.cmp_pos k1).1
    · exact (Px.cmp_pos k1).2
    · exact (Px.cmp_pos k2).1
    · exact (Px.cmp_pos k2).2
    · exact Int.zero_mul _
    · rfl
    · rfl
    · exact Int.sub_zero _
    · rfl
  · exact jd9 hr (fun x => Px.cmp_self x) ρ
theorem jvr {ρ : Nat → Int} {s : List T} (h : allT F0 ρ (gpF ++ s)) (h0 : ρ 0 ≠ 0) : 0 ≤ sS.den F0 ρ ∧ sS.den F0 ρ ≤ ρ 1 := by
  obtain ⟨h1, h2, h3, h4⟩ := jbb (jae (jae h)); have h5 : (100 : Int) ≤ ρ 1 := jaa (jau (jae h)).1; obtain ⟨k1, k2⟩ := Px.nbits_bd (N := (ρ 0).natAbs) (by omega) (by omega); have e : sS.den F0 ρ = ρ 1 - 53 + (((nbits (ρ 0).natAbs : Nat) : Int) - 1) := rfl; rw [e]
  omega
theorem jr1 : RsOK F0 (gpR qZ sgP) := jr0 fun {ρ} h => by
  obtain ⟨k1, k2⟩ := jvr h (by have := sg_P h; omega); exact Px.cut_pow k1 k2
theorem jr2 : RsOK F0 (gpR nZ sgN) := jr0 fun {ρ} h => by
  obtain ⟨k1, k2⟩ := jvr h (by have := sg_N h; omega); exact Px.cut_pow_neg k1 k2
noncomputable def gpB {R : Rs} (hR : RsOK F0 R) : List (Ctr Tryz.prog F0) := pt1 g0 ((dy1 g0).map (Ctr.nf hR) ++ dy1 g0)
def gapS2 (z : T) (s : List T) : Spec := dsp 15 [bQ4 z, i64 sS] 2 (gpF ++ s) (.tup [zV 0 (.n 0), zV 447 (.n 0), .sc (.i .i64 (.n 0))])
theorem gapP : checkF (P := Tryz.prog) (gpB jr1) R0 [] (drawX (gpB jr1)) { gapS2 qZ sgP with fs := blF ++ (gapS2 qZ sgP).fs } = true := by kernel_rfl
theorem gapN : checkF (P := Tryz.prog) (gpB jr2) R0 [] (drawX (gpB jr2)) { gapS2 nZ sgN with fs := blF ++ (gapS2 nZ sgN).fs } = true := by kernel_rfl
theorem gbP (ρ : Nat → Int) (h : allT F0 ρ (gpF ++ sgP)) : allT F0 ρ blF := by
  obtain ⟨h1, h2, h3, h4⟩ := jbb (jae (jae h)); exact jmu (by have := sg_P h; omega) h1 h2
theorem gbN (ρ : Nat → Int) (h : allT F0 ρ (gpF ++ sgN)) : allT F0 ρ blF := by
  obtain ⟨h1, h2, h3, h4⟩ := jbb (jae (jae h)); exact jmu (by have := sg_N h; omega) h1 h2
noncomputable def cGapP : Ctr Tryz.prog F0 := Ctr.ofL (jbz _) follows_any blF gbP gapP
noncomputable def cGapN : Ctr Tryz.prog F0 := Ctr.ofL (jbz _) follows_any blF gbN gapN
end V
end
end
section
section
open Go.RowKit Go.Shelf
namespace V
def nF : List T := [.le (.n (-999)) (.v 0), .le (.v 0) (.n 999)]
theorem jj5 {ρ : Nat → Int} (h : allT F0 ρ nF) : -999 ≤ ρ 0 ∧ ρ 0 ≤ 999 := ⟨jaa h.1, jaa h.2.1⟩
def c52 : T := .n 4503599627370496
def n23 : T := .add (.v 0) (.n 1023)
def bF0 : T := .mul n23 c52
def bitR : Rs := { rs := [⟨[], ap2 1 bF0 c52, n23⟩, ⟨nF, ap2 2 n23 (.n 2048), n23⟩, ⟨nF, ap1 69 bF0, .n 1⟩, ⟨nF, ap1 70 bF0, .v 0⟩, ⟨nF, ap1 71 bF0, .n 0⟩], ft := [] }
theorem jto : RsOK F0 bitR := by
  refine ⟨fun r hr ρ hc => ?_, fun r hr => (by cases hr)⟩; simp only [bitR, List.mem_cons, List.not_mem_nil, or_false] at hr
  rcases hr with rfl | rfl | rfl | rfl | rfl
  · show (ρ 0 + 1023) * 4503599627370496 / 4503599627370496 = ρ 0 + 1023
    omega
  · obtain ⟨h1, h2⟩ := jj5 hc
    show (ρ 0 + 1023) % 2048 = ρ 0 + 1023
    omega
  · obtain ⟨h1, h2⟩ := jj5 hc
    exact (Px.val_first h1 h2).1
  · obtain ⟨h1, h2⟩ := jj5 hc
    exact (Px.val_first h1 h2).2.1
  · obtain ⟨h1, h2⟩ := jj5 hc
    exact (Px.val_first h1 h2).2.2
noncomputable def bitB : List (Ctr Tryz.prog F0) := pt1 g0 ((dy1 g0).map (fun c => Ctr.fold (jef g0) (Ctr.nf jto c)) ++ dy1 g0)
def scZ : Rs := { rs := [⟨pbF ++ sgZ, ap1 4 qZ, .n 0⟩] ++ sameR [qZ], ft := [] }
theorem jr3 : RsOK F0 scZ := by
  refine ⟨fun r hr ρ hc => ?_, fun r hr => (by cases hr)⟩
  rcases List.mem_append.1 hr with hr | hr
  · simp only [List.mem_cons, List.not_mem_nil, or_false] at hr
    subst hr; have h1 : ρ 0 ≤ 0 := jaa (jau hc).1; have h2 : 0 ≤ ρ 0 := jaa (jau hc).2.1
    show (qZ.den F0 ρ).sign = 0
    rw [jn9, show ρ 0 = 0 by omega, Int.mul_zero]
    rfl
  · exact jd9 hr (fun x => Px.cmp_self x) ρ
def sclSZ : Spec := dsp 14 [bQ4 qZ] 2 (pbF ++ sgZ) (.tup [.sc (.i .i64 (.n 0)), .sc (.b (.n 0))])
theorem sclZ : checkF (P := Tryz.prog) (scB jr3) R0 [] (drawX (scB jr3)) sclSZ = true := by kernel_rfl
noncomputable def cSclZ : Ctr Tryz.prog F0 := Ctr.of (jbz _) follows_any sclZ
noncomputable def lkP : List (Ctr Tryz.prog F0) := cAtp :: cSclP :: cGapP :: cPlsP :: bitB
noncomputable def lkN : List (Ctr Tryz.prog F0) := cAtn :: cSclN :: cGapN :: cPlsN :: bitB
noncomputable def lkZ : List (Ctr Tryz.prog F0) := cAtz :: cSclZ :: bitB
def lkF (s : List T) : List T := nF ++ [.le (.n 1) (.v 1), .le (.v 1) (.n 128)] ++ s
def cnd : T := .lt (.n 0) (.sub bl (.n 1))
def q2a : T := .sub (.add (.v 1) (.n 160)) (.n 0)
def q2b : T := .sub (.add (.v 1) (.n 160)) (.sub bl (.n 1))
def lLo : T := .ite cnd (.mul (p2 q2a) (.v 0)) (.mul (p2 q2b) (.v 0))
def lS (q : T) : T := .add (.sub q (.n 53)) (.sub bl (.n 1))
def lkS (s : List T) : Spec := dsp 6 [i64 (.n 3), .one (.sc (.i .u64 bF0)), i64 (.v 1)] 2 (lkF s) (.tup [.ag [.z 435 true lLo, .z 435 true lLo, .i .i64 (.ite cnd q2a q2b), .i .i64 (.n 0), .i .i64 (.add (.sub bl (.n 1)) (.n 0)), .i .i64 (.ite cnd (lS q2a) (lS q2b)), .z 0 true (.n 0), .z 447 true (.n 0), .b (.n 1)], .sc (.i .i64 (.n 0))])
theorem lkPC : checkF (P := Tryz.prog) lkP R0 [] (drawX lkP) (lkS sgP) = true := by kernel_rfl
theorem lkNC : checkF (P := Tryz.prog) lkN R0 [] (drawX lkN) (lkS sgN) = true := by kernel_rfl
noncomputable def cLkP : Ctr Tryz.prog F0 := Ctr.of (jbz _) follows_any lkPC
noncomputable def cLkN : Ctr Tryz.prog F0 := Ctr.of (jbz _) follows_any lkNC
def lLz : T := .mul (p2 (.n 300)) (.v 0)
def lkSZ : Spec := dsp 6 [i64 (.n 3), .one (.sc (.i .u64 bF0)), i64 (.v 1)] 2 (lkF sgZ) (.tup [.ag [.z 435 true lLz, .z 435 true lLz, .i .i64 (.n 300), .i .i64 (.n 0), .i .i64 (.n 0), .i .i64 (.n 0), .z 0 true (.n 0), .z 0 true (.n 0), .b (.n 1)], .sc (.i .i64 (.n 0))])
theorem lkZC : checkF (P := Tryz.prog) lkZ R0 [] (drawX lkZ) lkSZ = true := by kernel_rfl
noncomputable def cLkZ : Ctr Tryz.prog F0 := Ctr.of (jbz _) follows_any lkZC
end V
end
end
end Go.Proofs.YtoklgpefpaclhaaGreat
/- V: hairlinelaw09.PointBetween. -/
import Derived.Test.YtdglddpigeamaaaGreatVs
set_option linter.unusedVariables false
set_option linter.unusedSimpArgs false
namespace Go.Proofs.YtdglddpigeamaaaGreat
open Go.RowKit Go.Shelf L
namespace V
section
variable (h : Nat → List Int → Int)
noncomputable def pb1 : List (Ctr Tryz.prog (FD (hE h))) :=
  c09 (hE h) ::
  Ctr.lem (jag (by kernel_rfl)) (gapOK h) ::
  Ctr.lem (jag (by kernel_rfl)) (limbsOK (hE h) 2 (by decide)) ::
  dy1 (hE h)
end
def gF2 : List T := gF ++ [.le (.n (-9223372036854775808)) (.v 4), .le (.v 4) (.n 9223372036854775807)]
def btwS : Spec := { f := 5, ps := [aB, i64 (.v 3), i64 (.v 4)], bx := [], np := 5, fs := gF2, res := .one (.sc (.b (.n 1))), post := [] }
def bL : T := ap2 7 (.v 0) (.n ((W ^ 2 : Nat) : Int))
def bH : T := ap2 7 (.v 1) (.n ((W ^ 2 : Nat) : Int))
def bQ : T := ap2 2 (.v 2) (.n 256)
def bS : T := ap2 2 (.v 3) (.n 128)
def bK : T := ap2 2 (.v 4) (.n 256)
def bT : T := .mul (.n 1) (ap1 0 bS)
def bX (lo hi : T) : T := .add lo (ap2 1 (.mul (.sub hi lo) bK) (.n 255))
def bRm (lo hi : T) : T := ap2 2 (bX lo hi) bT
def bE (g : Nat) (lo hi : T) : T := ap4 g lo hi bQ bS
def bC (lo hi r : T) : T := .and (.eq (bE 82 lo hi) (.n 0)) (.and (.le (ap2 5 (bE 80 lo hi) r) (.n 0)) (.and (.le (ap2 5 r (bE 81 lo hi)) (.n 0)) (.and (.le (ap2 5 (.mul (bE 81 lo hi) (ap1 0 (.n 1))) bT) (.n 0)) (.le (.n 0) (ap1 4 (bE 80 lo hi))))))
def bI (lo hi : T) : T := .ite (.lt (.n 0) (ap2 5 (.mul (bRm lo hi) (ap1 0 (.n 1))) bT)) (bC lo hi (.sub bT (bRm lo hi))) (bC lo hi (bRm lo hi))
def btwR : A := .one (.sc (.b (.ite (.lt (.n 0) (ap2 5 bL bH)) (bI bH bL) (bI bL bH))))
theorem btwX (h : Nat → List Int → Int) : in12 (inlX (pb1 h) btwS.f btwS.fs btwS.st.bx btwS.ps) = some ([], btwR) := by kernel_rfl
section
variable {h : Nat → List Int → Int} {ρ : Nat → Int}
theorem jym {lo hi r : T} {a b q s x : Int} (ha : lo.den (FD (hE h)) ρ = a) (hb : hi.den (FD (hE h)) ρ = b) (hq : bQ.den (FD (hE h)) ρ = q) (hs : bS.den (FD (hE h)) ρ = s) (hr : r.den (FD (hE h)) ρ = x)
    (k1 : gEr a b q s = 0) (k2 : gLs a b q s ≤ x) (k3 : x ≤ gMs a b q s) (k4 : 2 * gMs a b q s ≤ 2 ^ s.toNat) (k5 : 0 ≤ gLs a b q s) : (bC lo hi r).bd (FD (hE h)) ρ = true := by
  unfold bC; rw [jbd, jbd, jbd, jbd, jcs, bd_le, bd_le, bd_le, bd_le]
  show ((gEr (lo.den (FD (hE h)) ρ) (hi.den (FD (hE h)) ρ) (bQ.den (FD (hE h)) ρ) (bS.den (FD (hE h)) ρ) == 0) && (decide (cmpZ (gLs (lo.den (FD (hE h)) ρ) (hi.den (FD (hE h)) ρ) (bQ.den (FD (hE h)) ρ) (bS.den (FD (hE h)) ρ)) (r.den (FD (hE h)) ρ) ≤ 0) &&
    (decide (cmpZ (r.den (FD (hE h)) ρ) (gMs (lo.den (FD (hE h)) ρ) (hi.den (FD (hE h)) ρ) (bQ.den (FD (hE h)) ρ) (bS.den (FD (hE h)) ρ)) ≤ 0) && (decide (cmpZ (gMs (lo.den (FD (hE h)) ρ) (hi.den (FD (hE h)) ρ) (bQ.den (FD (hE h)) ρ) (bS.den (FD (hE h)) ρ) * 2) (1 * 2 ^ (bS.den (FD (hE h)) ρ).toNat) ≤ 0) &&
      decide (0 ≤ (gLs (lo.den (FD (hE h)) ρ) (hi.den (FD (hE h)) ρ) (bQ.den (FD (hE h)) ρ) (bS.den (FD (hE h)) ρ)).sign))))) = true
  rw [ha, hb, hq, hs, hr]; simp only [Bool.and_eq_true, beq_iff_eq, decide_eq_true_eq, jh2, (jgr _).2.2]; exact ⟨k1, k2, k3, by omega, k5⟩
theorem jwg {a b k : Int} (h : a ≤ b) (h0 : 0 ≤ k) (h1 : k ≤ 255) : a ≤ a + (b - a) * k / 255 ∧ a + (b - a) * k / 255 ≤ b := by
  have e1 : 0 ≤ (b - a) * k := Int.mul_nonneg (by omega) h0; have e2 : (b - a) * k ≤ (b - a) * 255 := Int.mul_le_mul_of_nonneg_left h1 (by omega)
  omega
theorem jyn {lo hi : T} {a b : Int} (ha : lo.den (FD (hE h)) ρ = a) (hb : hi.den (FD (hE h)) ρ = b) (hab : a ≤ b) : (bI lo hi).bd (FD (hE h)) ρ = true := by
  obtain ⟨q, hq⟩ : ∃ q, bQ.den (FD (hE h)) ρ = q := ⟨_, rfl⟩; obtain ⟨s, hs⟩ : ∃ s, bS.den (FD (hE h)) ρ = s := ⟨_, rfl⟩; obtain ⟨k, hk⟩ : ∃ k, bK.den (FD (hE h)) ρ = k := ⟨_, rfl⟩
  have q1 : 0 ≤ q ∧ q < 256 := by
    rw [← hq]
    show 0 ≤ ρ 2 % 256 ∧ ρ 2 % 256 < 256
    omega
  have s1 : 0 ≤ s ∧ s < 128 := by
    rw [← hs]
    show 0 ≤ ρ 3 % 128 ∧ ρ 3 % 128 < 128
    omega
  have k1 : 0 ≤ k ∧ k < 256 := by
    rw [← hk]
    show 0 ≤ ρ 4 % 256 ∧ ρ 4 % 256 < 256
    omega
  have hin : gIn a b q s := ⟨by omega, by omega, hab, by omega, by omega⟩; have ht := jlp s.toNat; have hx := jwg hab k1.1 (show k ≤ 255 by omega)
  have hrr : (bRm lo hi).den (FD (hE h)) ρ = (a + (b - a) * k / 255) % (2 ^ s.toNat) := by
    show (lo.den (FD (hE h)) ρ + (hi.den (FD (hE h)) ρ - lo.den (FD (hE h)) ρ) * bK.den (FD (hE h)) ρ / 255) % (1 * 2 ^ (bS.den (FD (hE h)) ρ).toNat) = _
    rw [ha, hb, hk, hs, Int.one_mul]
  have htt : bT.den (FD (hE h)) ρ = 2 ^ s.toNat := by
    show 1 * 2 ^ (bS.den (FD (hE h)) ρ).toNat = _
    rw [hs, Int.one_mul]
  have hbt := jon (lo := a) (hi := b) (t := 2 ^ s.toNat) (h := 2 ^ (s - 1).toNat) (x := a + (b - a) * k / 255) (decide (s = 0)) ht (fun e => jm1 s1.1 (of_decide_eq_false e)) (fun e => by rw [of_decide_eq_true e]; rfl) hx.1 hx.2 _ rfl; have e0 : gEr a b q s = 0 := by unfold gEr; rw [if_pos hin]
  have e1 : gLs a b q s = gLeast a b (2 ^ s.toNat) := by unfold gLs; rw [if_pos hin]
  have e2 : gMs a b q s = (if decide (s = 0) = true then (if nearI (2 ^ s.toNat) b < nearI (2 ^ s.toNat) a then nearI (2 ^ s.toNat) a else nearI (2 ^ s.toNat) b) else gMost a b (2 ^ s.toNat) (2 ^ (s - 1).toNat)) := by
    unfold gMs gMx; rw [if_pos hin]
    by_cases h0 : s = 0
    · rw [if_pos h0, if_pos (decide_eq_true h0)]
    · rw [if_neg h0, if_neg (by simpa using h0)]
  rw [← e1, ← e2] at hbt; obtain ⟨m1, m2, m3, m4⟩ := hbt
  have hc : (T.lt (.n 0) (ap2 5 (.mul (bRm lo hi) (ap1 0 (.n 1))) bT)).bd (FD (hE h)) ρ = decide (2 ^ s.toNat < 2 * ((a + (b - a) * k / 255) % (2 ^ s.toNat))) := by
    rw [bd_lt]
    show decide (0 < cmpZ ((bRm lo hi).den (FD (hE h)) ρ * 2) (bT.den (FD (hE h)) ρ)) = _
    rw [hrr, htt]; refine decide_eq_decide.2 ?_; rw [jh1]
    omega
  unfold bI T.bd; rw [ja0, hc]
  by_cases hd : 2 ^ s.toNat < 2 * ((a + (b - a) * k / 255) % (2 ^ s.toNat))
  · rw [decide_eq_true hd, if_pos rfl]
    rw [if_pos hd] at m1 m2; refine jym (r := .sub bT (bRm lo hi)) ha hb hq hs ?_ e0 m1 m2 m3 m4; rw [jdw, hrr, htt]
  · rw [decide_eq_false hd, if_neg (by simp)]
    rw [if_neg hd] at m1 m2; exact jym (r := bRm lo hi) ha hb hq hs hrr e0 m1 m2 m3 m4
theorem jwh : (T.ite (.lt (.n 0) (ap2 5 bL bH)) (bI bH bL) (bI bL bH)).bd (FD (hE h)) ρ = true := by
  have hc : (T.lt (.n 0) (ap2 5 bL bH)).bd (FD (hE h)) ρ = decide (bH.den (FD (hE h)) ρ < bL.den (FD (hE h)) ρ) := by
    rw [bd_lt]; exact decide_eq_decide.2 (jh1 _ _)
  unfold T.bd; rw [ja0, hc]
  by_cases hd : bH.den (FD (hE h)) ρ < bL.den (FD (hE h)) ρ
  · rw [decide_eq_true hd, if_pos rfl]
    exact jyn rfl rfl (by omega)
  · rw [decide_eq_false hd, if_neg (by simp)]
    exact jyn rfl rfl (by omega)
end
theorem btwOK (h : Nat → List Int → Int) : SpecOK Tryz.prog (FD (hE h)) btwS :=
  jez (sp := btwS) follows_any (jag (by kernel_rfl)) (btwX h) rfl fun ρ _ => by
    show (T.ite (.lt (.n 0) (ap2 5 bL bH)) (bI bH bL) (bI bL bH)).bd (FD (hE h)) ρ = (T.n 1).bd (FD (hE h)) ρ
    rw [jwh]
    rfl
def ρ5 (a b c d f : Int) : Nat → Int
  | 0 => a
  | 1 => b
  | 2 => c
  | 3 => d
  | _ => f
theorem between_v {w : World} {n : Bool} {A : Option Addr} {l c : Nat} {m : Bool} {B : Option Addr} {j d : Nat} {L M : List Nat} {x s k : Int} (hN : Nums w 0 (.slice A l c) L) (hM : Nums w 0 (.slice B j d) M)
    (hx : -9223372036854775808 ≤ x ∧ x ≤ 9223372036854775807) (hs : -9223372036854775808 ≤ s ∧ s ≤ 9223372036854775807) (hk : -9223372036854775808 ≤ k ∧ k ≤ 9223372036854775807) :
    Calls Tryz.prog 5 #[.agg #[.bool n, .slice A l c, .bool m, .slice B j d, .int .i64 x], .int .i64 s, .int .i64 k] w fun e w' => e = .returned (.bool true) ∧ Below w.heap.size w w' := by
  have ha : hasA (FD (hE zz)) (ρ5 (ival n (val W L)) (ival m (val W M)) x s k) id w btwS.ps [.agg #[.bool n, .slice A l c, .bool m, .slice B j d, .int .i64 x], .int .i64 s, .int .i64 k] :=
    ⟨_, _, rfl, juz hN hM rfl rfl rfl, _, _, rfl, rfl, _, _, rfl, rfl, rfl⟩
  have hf : allT (FD (hE zz)) (ρ5 (ival n (val W L)) (ival m (val W M)) x s k) btwS.fs := ⟨jbu hx.1, jbu hx.2, jbu hs.1, jbu hs.2, jbu hk.1, jbu hk.2, trivial⟩; obtain ⟨-, g⟩ := btwOK zz ha jjm hf; refine g.mono fun e w' ⟨h1, u, h2, h3⟩ => ⟨?_, h1⟩
  have h4 : [u] = [Value.bool true] := h3; rw [h2, List.head_eq_of_cons_eq h4]
end V
end Go.Proofs.YtdglddpigeamaaaGreat

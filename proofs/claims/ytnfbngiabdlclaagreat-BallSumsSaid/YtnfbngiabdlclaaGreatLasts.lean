/- Floor and Ceil stand below and above a value. Plain facts. The place of a value's top bit. Plain facts. What is near is not above, and the next one is. Plain facts. Integer and dyad arguments opened to their cells. -/
import Derived.Test.YtnfbngiabdlclaaGreatEvs
import Derived.Test.YtnfbngiabdlclaaGreatCons
import Derived.ProofKit
import Derived.OpenShut
import Derived.Lib.SmallJoins
section
set_option linter.unusedVariables false
namespace Go.Proofs.YtnfbngiabdlclaaGreat
open Go.RowKit
open L (val dig nth)

theorem cmpZ_nonpos {a b : Int} (h : a ≤ b) : cmpZ a b ≤ 0 := by
  unfold cmpZ; split
  · omega
  · rw [if_neg (by omega)]; omega
theorem cmpZ_neg {a b : Int} (h : a < b) : cmpZ a b = -1 := by unfold cmpZ; rw [if_pos h]
theorem cmpZ_zero {a b : Int} : cmpZ a b = 0 ↔ a = b := by
  constructor
  · intro h
    rcases Int.lt_trichotomy a b with h1 | h1 | h1
    · rw [cmpZ_neg h1] at h; omega
    · exact h1
    · unfold cmpZ at h; rw [if_neg (by omega), if_pos h1] at h; omega
  · rintro rfl; exact cmpZ_self _
theorem floor_sv {K J : Nat} {V p : Int} (hKJ : K ≤ J) (hp : 0 ≤ p - K + J) : vFloor K V p = sv J V (p - K) / 2 ^ J := by
  have hq : ∀ (t : Int) (i j : Nat), t * 2 ^ i / 2 ^ (i + j) = t / 2 ^ j := by
    intro t i j
    rw [Int.pow_add, Int.mul_comm t]
    exact Int.mul_ediv_mul_of_pos _ _ (two_pow_int i)
  unfold vFloor sv
  by_cases h : 0 ≤ p
  · rw [if_pos h, show (p - K + J).toNat = p.toNat + (J - K) from by omega, Int.pow_add, ← Int.mul_assoc]
    conv => rhs; rw [show J = (J - K) + K from by omega]
    rw [show J - K + K - K = J - K from by omega, hq]
  · rw [if_neg h]
    conv => rhs; rw [show J = (p - K + J).toNat + (K + (-p).toNat) from by omega]
    rw [show (p - K + ((p - K + J).toNat + (K + (-p).toNat) : Nat)).toNat = (p - K + J).toNat from by omega, hq]
theorem ceil_sv {K J : Nat} {V p : Int} (hKJ : K ≤ J) (hp : 0 ≤ p - K + J) : vCeil K V p = -(-sv J V (p - K) / 2 ^ J) := by
  unfold vCeil; rw [floor_sv hKJ hp, sv_neg]
section
variable {X D f c : Int} (hD : 0 < D) (hf : f = X / D) (hc : c = -(-X / D))
include hD hf hc
theorem fl_le : f * D ≤ X ∧ X ≤ c * D ∧ 0 ≤ c - f ∧ c - f ≤ 1 ∧ (c - f = 0 ↔ f * D = X) ∧ X < f * D + D ∧ c * D < X + D := by
  have h1 := Int.mul_ediv_add_emod X D
  have h2 := Int.emod_nonneg X (show D ≠ 0 by omega)
  have h3 := Int.emod_lt_of_pos X hD
  have h4 := Int.mul_ediv_add_emod (-X) D
  have h5 := Int.emod_nonneg (-X) (show D ≠ 0 by omega)
  have h6 := Int.emod_lt_of_pos (-X) hD
  rw [← hf, Int.mul_comm] at h1
  rw [show -X / D = -c from by omega, Int.mul_neg, Int.mul_comm] at h4
  have h7 : (c - f) * D = X % D + -X % D := by rw [Int.sub_mul]; omega
  have h8 : 0 ≤ c - f := by
    rcases Int.lt_or_le (c - f) 0 with h | h
    · have : (c - f) * D < 0 := Int.mul_neg_of_neg_of_pos h hD
      omega
    · exact h
  have h9 : c - f ≤ 1 := by
    rcases Int.lt_or_le 1 (c - f) with h | h
    · have : 2 * D ≤ (c - f) * D := Int.mul_le_mul_of_nonneg_right (by omega) (by omega)
      omega
    · exact h
  refine ⟨by omega, by omega, h8, h9, ?_, by omega, by omega⟩
  constructor
  · intro h; rw [h, Int.zero_mul] at h7; omega
  · intro h
    have h10 : (c - f) * D < 1 * D := by omega
    have := Int.lt_of_mul_lt_mul_right h10 (by omega)
    omega
end
section
variable {K J : Nat} {lo hi V p : Int}
theorem InV.shift (h : InV K lo hi V) (hp : 0 ≤ p - K + J) (hl : 0 ≤ lo + p + J) : InV J (lo + p) (hi + p) (sv J V (p - K)) := by
  obtain ⟨a, b, ⟨u, hu⟩, c⟩ := h
  have hpos : 0 ≤ hi + p + J := by omega
  refine ⟨hl, hpos, ⟨u, ?_⟩, ?_⟩
  · rw [hu]; unfold sv
    rw [Int.mul_assoc, ← Int.pow_add]; congr 2; omega
  · rw [sv_natAbs, show (hi + p + J).toNat = (hi + K).toNat + (p - K + J).toNat from by omega, Nat.pow_add]
    exact Nat.mul_lt_mul_of_pos_right c (Nat.two_pow_pos _)
theorem InV.of_near {X L : Int} {h : Int} (hh : 0 ≤ h) (hX : X.natAbs < 2 ^ (h + J).toNat) (hL : (L - X).natAbs < 2 ^ J) : L.natAbs < 2 ^ (h + 1 + J).toNat := by
  have h1 : 2 ^ J ≤ 2 ^ (h + J).toNat := Nat.pow_le_pow_right (by omega) (by omega)
  rw [show (h + 1 + (J : Int)).toNat = (h + J).toNat + 1 from by omega, Nat.pow_succ]
  omega
theorem InV.floor (h : InV K lo hi V) (hKJ : K ≤ J) (hp : 0 ≤ p - K + J) (hl : 0 ≤ lo + p + J) (hh : 0 ≤ hi + p) : InV J 0 (hi + p + 1) (sv J (vFloor K V p) 0) ∧ InV J 0 (hi + p + 1) (sv J (vCeil K V p) 0) := by
  have hX := h.shift hp hl
  have hD : (0 : Int) < 2 ^ J := two_pow_int J
  have hfl := fl_le (X := sv J V (p - K)) hD (floor_sv hKJ hp) (ceil_sv hKJ hp)
  have hs : ∀ u, sv J u 0 = u * 2 ^ J := by intro u; unfold sv; rw [show (0 + (J : Int)).toNat = J from by omega]
  have hDn : ((2 : Int) ^ J) = ((2 ^ J : Nat) : Int) := natpow J
  refine ⟨⟨by omega, by omega, ⟨_, rfl⟩, ?_⟩, ⟨by omega, by omega, ⟨_, rfl⟩, ?_⟩⟩
  · exact InV.of_near hh hX.2.2.2 (by rw [hs]; omega)
  · exact InV.of_near hh hX.2.2.2 (by rw [hs]; omega)
end
end Go.Proofs.YtnfbngiabdlclaaGreat
end
section
set_option linter.unusedVariables false
namespace Go.Proofs.YtnfbngiabdlclaaGreat
open Go.RowKit
open L (val dig nth)

theorem sv_one (K : Nat) (n : Int) : sv K 1 n = ((2 ^ (n + K).toNat : Nat) : Int) := by unfold sv; rw [Int.one_mul, natpow]
section
variable {K J : Nat} {V V' lo hi : Int}
theorem InV.lg (h : InV K lo hi V) (h0 : V ≠ 0) : lo ≤ Proofs.YtnfbngiabdlclaaGreat.lg K V ∧ Proofs.YtnfbngiabdlclaaGreat.lg K V < hi := by
  obtain ⟨a, b, ⟨u, hu⟩, c⟩ := h
  refine ⟨(lg_le h0 a).2 ?_, (lg_lt h0 b).2 c⟩
  rw [hu, sv_natAbs]
  have : u ≠ 0 := by rintro rfl; exact h0 (by rw [hu, sv_zero])
  exact Nat.le_mul_of_pos_left _ (by omega)
theorem lg_low (h0 : V ≠ 0) (hn : 0 ≤ lg K V + K) : 2 ^ (lg K V + K).toNat ≤ V.natAbs := (lg_le h0 hn).1 (Int.le_refl _)
theorem lg_high (h0 : V ≠ 0) (hn : 0 ≤ lg K V + K) : V.natAbs < 2 ^ (lg K V + 1 + K).toNat := (lg_lt h0 (by omega)).1 (by omega)
theorem lg_mul (h0 : V ≠ 0) (h0' : V' ≠ 0) (hn : 0 ≤ lg K V + K) (hn' : 0 ≤ lg J V' + J) : lg (K + J) (V * V') = lg K V + lg J V' ∨ lg (K + J) (V * V') = lg K V + lg J V' + 1 := by
  have hp : V * V' ≠ 0 := fun h => by rcases Int.mul_eq_zero.1 h with h | h; exact h0 h; exact h0' h
  have h1 := Nat.mul_le_mul (lg_low h0 hn) (lg_low h0' hn')
  have h2 := Nat.mul_lt_mul'' (lg_high h0 hn) (lg_high h0' hn')
  rw [← Int.natAbs_mul, ← Nat.pow_add] at h1 h2
  have e1 : lg K V + lg J V' ≤ lg (K + J) (V * V') := (lg_le hp (by omega)).2 (by rw [show (lg K V + lg J V' + ((K + J : Nat) : Int)).toNat = (lg K V + K).toNat + (lg J V' + J).toNat from by omega]; exact h1)
  have e2 : lg (K + J) (V * V') < lg K V + lg J V' + 2 := (lg_lt hp (by omega)).2 (by rw [show (lg K V + lg J V' + 2 + ((K + J : Nat) : Int)).toNat = (lg K V + 1 + K).toNat + (lg J V' + 1 + J).toNat from by omega]; exact h2)
  omega
/-- A power of two against a value without its sign. -/
theorem lg_cmp1 (h0 : V ≠ 0) (hn : 0 ≤ lg K V + K) {T : Int} (hT : T = V.natAbs) : cmpZ (sv K 1 (lg K V)) T ≤ 0 := by
  refine cmpZ_nonpos ?_
  have := lg_low h0 hn
  rw [sv_one, hT]; omega
theorem lg_cmp2 (h0 : V ≠ 0) (hn : 0 ≤ lg K V + K) {T : Int} (hT : T = V.natAbs) : cmpZ T (sv K 1 (lg K V + 1)) = -1 := by
  refine cmpZ_neg ?_
  have := lg_high h0 hn
  rw [sv_one, hT]; omega
end
end Go.Proofs.YtnfbngiabdlclaaGreat
end
section
set_option linter.unusedVariables false
namespace Go.Proofs.YtnfbngiabdlclaaGreat
open Go.RowKit
open L (val dig nth)

theorem floor_low {K : Nat} {V p : Int} (h : p ≤ K) : vFloor K V p = V / 2 ^ (K - p).toNat := by
  have hq : ∀ (t : Int) (i j : Nat), t * 2 ^ i / 2 ^ (i + j) = t / 2 ^ j := by
    intro t i j
    rw [Int.pow_add, Int.mul_comm t]
    exact Int.mul_ediv_mul_of_pos _ _ (two_pow_int i)
  unfold vFloor
  by_cases h0 : 0 ≤ p
  · rw [if_pos h0]
    conv => lhs; rw [show K = p.toNat + (K - p).toNat from by omega]
    exact hq _ _ _
  · rw [if_neg h0]; congr 2; omega
section
variable {z x V : Int} {n : Int}
/-- Near refuses just what is not between. -/
theorem near_out (hV : av 4000 z x = V) (h : V < sv 4000 1 (-1022) ∨ sv 4000 1 1024 ≤ V) : nrB z x = 0 ∧ nrX z x = 1 := by
  have hb : nrBad z x := by
    unfold nrBad
    rw [lgOk_eq 4000, hV, sign_eq 4000, hV]
    by_cases h0 : V = 0
    · left; simp [h0]
    · by_cases hn : V < 0
      · right; left; rw [Int.sign_eq_neg_one_of_neg hn]; omega
      · right; right
        rw [lgN_eq (K := 4000) (by omega) z x (by rw [hV]; exact h0), hV]
        rcases h with h | h
        · left
          refine (lg_lt h0 (by omega)).2 ?_
          rw [sv_one] at h; omega
        · right
          have : 1024 ≤ lg 4000 V := (lg_le h0 (by omega)).2 (by rw [sv_one] at h; omega)
          omega
  unfold nrB nrX
  rw [if_pos hb, if_pos hb]
  exact ⟨rfl, rfl⟩
/-- The pattern of a value between. -/
theorem near_mid (hV : av 4000 z x = V) (h1 : sv 4000 1 (-1022) ≤ V) (h2 : V < sv 4000 1 1024) :
    nrX z x = 0 ∧ nrB z x < 9218868437227405312 ∧ pNorm (nrB z x) = true ∧ av 4000 (vM (nrB z x)) (vE (nrB z x)) ≤ V ∧ V < av 4000 (vM (nrB z x)) (vE (nrB z x)) + sv 4000 1 (nn (nrB z x) - 52) := by
  have hpos : 0 < V := by have := sv_one_pos 4000 (-1022); omega
  have h0 : V ≠ 0 := by omega
  obtain ⟨n, hn⟩ : ∃ n, lg 4000 V = n := ⟨_, rfl⟩
  have hn1 : -1022 ≤ n := by rw [← hn]; exact (lg_le h0 (by omega)).2 (by rw [sv_one] at h1; omega)
  have hn2 : n < 1024 := by rw [← hn]; exact (lg_lt h0 (by omega)).2 (by rw [sv_one] at h2; omega)
  have hlg : lgN z x = n := by rw [lgN_eq (K := 4000) (by omega) z x (by rw [hV]; exact h0), hV, hn]
  have hbad : ¬ nrBad z x := by
    unfold nrBad
    rw [lgOk_eq 4000, hV, sign_eq 4000, hV, hlg, Int.sign_eq_one_of_pos hpos]
    simp only [ne_eq, h0, not_false_eq_true, decide_true, Bool.true_eq_false, false_or, not_or]
    omega
  have hnz : nearZ (52 - n) = 52 - n := by unfold nearZ; omega
  have hcb := cE_bounds z x
  obtain ⟨M, hM⟩ : ∃ M, nrM z x = M := ⟨_, rfl⟩
  have hMV : M = V / 2 ^ (n - 52 + 4000).toNat := by
    rw [← hM]; unfold nrM
    rw [hlg, hnz, scF_sv 4000 _ _ _ (by omega)]
    show vFloor 4000 (av 4000 z x) (52 - n) = _
    rw [hV, floor_low (by omega)]
    congr 2; omega
  obtain ⟨D, hD⟩ : ∃ D : Int, (2 : Int) ^ (n - 52 + 4000).toNat = D := ⟨_, rfl⟩
  rw [hD] at hMV
  have hDp : 0 < D := by rw [← hD]; exact two_pow_int _
  have hsvD : ∀ u : Int, sv 4000 u (n - 52) = u * D := by intro u; unfold sv; rw [← hD]; rfl
  have hfl := fl_le (X := V) (D := D) (f := M) (c := -(-V / D)) hDp hMV rfl
  have hlo := lg_low (K := 4000) h0 (by rw [hn]; omega)
  have hhi := lg_high (K := 4000) h0 (by rw [hn]; omega)
  have e52 : ((2 ^ (n + (4000 : Nat)).toNat : Nat) : Int) = 4503599627370496 * D := by
    rw [show (n + ((4000 : Nat) : Int)).toNat = 52 + (n - 52 + 4000).toNat from by omega, Nat.pow_add, Int.natCast_mul, ← hD, natpow (n - 52 + 4000).toNat]; rfl
  have e53 : ((2 ^ (n + 1 + (4000 : Nat)).toNat : Nat) : Int) = 9007199254740992 * D := by
    rw [show (n + 1 + ((4000 : Nat) : Int)).toNat = 53 + (n - 52 + 4000).toNat from by omega, Nat.pow_add, Int.natCast_mul, ← hD, natpow (n - 52 + 4000).toNat]; rfl
  rw [hn] at hlo hhi
  have hM1 : 4503599627370496 ≤ M := by rw [hMV]; exact Int.le_ediv_of_mul_le hDp (by omega)
  have hM2 : M < 9007199254740992 := by rw [hMV]; exact Int.ediv_lt_of_lt_mul hDp (by omega)
  obtain ⟨m, rfl⟩ : ∃ m : Nat, M = m := ⟨M.toNat, by omega⟩
  obtain ⟨b, hb⟩ : ∃ b : Nat, b = m - 4503599627370496 + (n + 1023).toNat * 4503599627370496 := ⟨_, rfl⟩
  have hbl : b < 9218868437227405312 := by omega
  obtain ⟨f1, f2, f3⟩ := lo_fld hbl
  have hfld : pFld b = (n + 1023).toNat := by omega
  have hfrc : pFrc b = m - 4503599627370496 := by unfold pFrc; omega
  have hrF : rF b = m := by unfold rF; rw [if_neg (by omega), hfrc]; omega
  have hrE : rE b = n - 52 := by unfold rE; rw [if_neg (by omega), hfld]; omega
  have hrM : rM b = m := by rw [rM_eq, f3, hrF]; rfl
  have hZ : nrZ z x = vM b := by unfold nrZ; rw [hM, hlg, vM_eq b f2, hrM]; unfold nM; rw [cM_in (by omega) (by omega)]
  have hY : nrY z x = vE b := by
    unfold nrY; rw [hM, hlg, vE_eq b f2, hrM, hrE]; unfold nE
    rw [cM_in (by omega) (by omega), cE_in (by omega) (by omega) (by omega)]
  have hbk := back b (by unfold W; omega) f2
  have hB : nrB z x = b := by
    unfold nrB; rw [if_neg hbad, hZ, hY]
    rcases hbk.2 with h | ⟨h, -⟩
    · exact h
    · rw [T63_eq] at h; omega
  have hX : nrX z x = 0 := by unfold nrX; rw [if_neg hbad, hZ, hY]; exact hbk.1
  have hnn : nn b = n := by rw [nn_eq hbl, if_neg (by omega), hfld]; omega
  rw [hB, hX, hnn, hsvD, lo_value 4000 (Nat.le_refl _) hbl, hrF, hrE, hsvD, Int.one_mul]
  refine ⟨rfl, hbl, ?_, hfl.1, hfl.2.2.2.2.2.1⟩
  unfold pNorm; rw [decide_eq_true]; omega
end
end Go.Proofs.YtnfbngiabdlclaaGreat
end
section
set_option linter.unusedVariables false
namespace Go.Proofs.YtnfbngiabdlclaaGreat
open Go.RowKit Go.ChangeShapes Go.WideShapes
open L (val dig nth)

theorem bounds_limb {n : Int} (h : (Lit.int .u64 n).wf = true) : 0 ≤ n ∧ n < 18446744073709551616 := by
  have := bounds_u64 h
  omega
section
variable {H : Type} {enc : TypeId × Value → H} {w : World} {base : Nat} {spare : Nat → Bool} {held : Bool}
set_option maxRecDepth 100000 in
/-- A slice of limbs that came in. -/
theorem open_limbs {fuel : Nat} {c : Value} {x : DataW H × List MemPlace} (h : DataW.trod enc Tryz.prog w base spare held fuel 23 [c] = some x) : ∃ A l k L, c = .slice A l k ∧ Nums w 0 (.slice A l k) L := by
  rcases open_ints Tryz.underlying23 Tryz.underlying73 (by kernel_rfl) h with ⟨hcs, -⟩ | ⟨a, len, cap, zs, hcs, -, hl, hm, hz, -, hcell, hwz⟩
  · injection hcs with hcs
    subst hcs
    exact ⟨none, 0, 0, [], rfl, Nums.nil _ _⟩
  · injection hcs with hcs
    subst hcs
    have hzl : len ≤ zs.length := by rw [hz]; split <;> omega
    refine ⟨some a, len, cap, (zs.take len).map Int.toNat, rfl, ?_⟩
    have hlen : ((zs.take len).map Int.toNat).length = len := by simp; omega
    refine ⟨some a, cap, by rw [hlen], ⟨by omega, fun h0 => absurd h0 (Nat.lt_irrefl 0)⟩, by simpa only [maxLen] using hm, ?_, ?_⟩
    · intro y hy
      obtain ⟨n, hn, rfl⟩ := List.mem_map.1 hy
      have := bounds_limb (hwz n (List.mem_of_mem_take hn))
      unfold W; omega
    · intro h0
      rw [hlen] at h0
      have h00 := hcell 0 (by omega)
      have hspot : (a.add 0).spot = none := World.cell?_spot h00
      obtain ⟨b, off, spot⟩ := a
      have hs : spot = none := by simpa [Addr.add] using hspot
      subst hs
      refine ⟨b, off, rfl, Nat.zero_le _, ?_, ?_⟩
      · have := World.block_lt_of_cell? _ _ h00
        simpa [Addr.add] using this
      · intro i hi
        rw [hlen] at hi
        have hi' := hcell i (by omega)
        have hadd : (⟨b, off, none⟩ : Addr).add i = ⟨b, off + i, none⟩ := by unfold Addr.add; split <;> simp_all
        rw [hadd] at hi'
        rw [hi']
        have hb := bounds_limb (hwz (zs.getD i 0) (by rw [List.getD_eq_getElem?_getD, List.getElem?_eq_getElem (by omega)]; exact List.getElem_mem _))
        congr 2
        rw [L.nth_def, List.getD_eq_getElem?_getD (l := List.map _ _), List.getElem?_map, List.getElem?_take_of_lt hi, List.getElem?_eq_getElem (by omega)]
        rw [List.getD_eq_getElem?_getD, List.getElem?_eq_getElem (by omega)] at hb ⊢
        simp only [Option.map_some, Option.getD_some] at hb ⊢
        omega

set_option maxRecDepth 100000 in
/-- A dyad that came in. -/
theorem open_dyad {r : Reach} {b0 : Nat} {v : Value} {d : DataW H} {p : List MemPlace} (hv : Value.okWide Tryz.prog w r b0 34 v) (h : DataW.Trod enc Tryz.prog w base spare held 34 v d p) :
    ∃ n A l k x, v = .agg #[.bool n, .slice A l k, .int .i64 x] ∧ (∃ L, Nums w 0 (.slice A l k) L) ∧ (Lit.int .i64 x).wf = true := by
  obtain ⟨cs, rfl, hsz⟩ := okWide_struct Tryz.underlying34 hv
  obtain ⟨l⟩ := cs
  have hl3 : l.length = 3 := hsz
  obtain ⟨c0, c1, c2, rfl⟩ : ∃ a b c, l = [a, b, c] := by
    match l, hl3 with
    | [a, b, c], _ => exact ⟨a, b, c, rfl⟩
  obtain ⟨fuel, hf⟩ := h
  obtain ⟨xs, n, -, -, -, hlen, hg⟩ := DataW.trod_struct Tryz.underlying34 hf
  have g0 := hg 0 _ rfl
  have g1 := hg 1 _ rfl
  clear hg
  have hl2 : xs.length = 2 := hlen
  obtain ⟨y0, y1, rfl⟩ : ∃ a b, xs = [a, b] := by
    match xs, hl2 with
    | [a, b], _ => exact ⟨a, b, rfl⟩
  have g0' : DataW.trod enc Tryz.prog w base spare held n 25 [c0, c1] = some y0 := g0
  have g1' : DataW.trod enc Tryz.prog w base spare held n 3 [c2] = some y1 := g1
  clear g0 g1
  obtain ⟨xs', n', -, -, -, hlen', hg'⟩ := DataW.trod_struct Tryz.underlying25 g0'
  have i0 := hg' 0 _ rfl
  have i1 := hg' 1 _ rfl
  clear hg'
  have hl2' : xs'.length = 2 := hlen'
  obtain ⟨u0, u1, rfl⟩ : ∃ a b, xs' = [a, b] := by
    match xs', hl2' with
    | [a, b], _ => exact ⟨a, b, rfl⟩
  have i0' : DataW.trod enc Tryz.prog w base spare held n' 4 [c0] = some u0 := i0
  have i1' : DataW.trod enc Tryz.prog w base spare held n' 23 [c1] = some u1 := i1
  clear i0 i1
  obtain ⟨A, ll, k, L, rfl, hL⟩ := open_limbs i1'
  obtain ⟨b, e0, -⟩ := DataW.trod_bool Tryz.underlying4 i0'
  obtain ⟨x, e1, -, wx⟩ := DataW.trod_int Tryz.underlying3 g1'
  simp at e0 e1
  subst e0 e1
  exact ⟨b, A, ll, k, x, rfl, ⟨L, hL⟩, wx⟩
end
end Go.Proofs.YtnfbngiabdlclaaGreat
end

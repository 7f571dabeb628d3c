/- bits: Of. -/
import Derived.Test.YtnkembnachhicaaPat2
set_option linter.unusedVariables false
namespace Go.Proofs.Ytnkembnachhicaa
open Go.RowKit
open L (val dig nth)

/-- The pattern of a dyad in its normal form (z, x), of the power m below it. -/
def ofLow (m : Int) : Int := max (m - 52) (-1074)
def ofBad (z x m : Int) : Prop := 1023 < m ∨ x < ofLow m ∨ 1 < (dig W z.natAbs).length
instance (z x m : Int) : Decidable (ofBad z x m) := by unfold ofBad; infer_instance
/-- The sign's place. -/
def T63 : Nat := 9223372036854775808
theorem T63_eq : T63 = 9223372036854775808 := rfl
def ofPat (z x m : Int) : Nat := z.natAbs * 2 ^ (x - ofLow m).toNat + (if -1022 ≤ m then (m + 1022).toNat * 4503599627370496 else 0) + (if z < 0 then T63 else 0)
def oB1 (z x : Int) : Nat := if lgOk z x = false then 0 else if ofBad z x (lgN z x) then 0 else ofPat z x (lgN z x)
def oX1 (z x : Int) : Int := if lgOk z x = false then 0 else if ofBad z x (lgN z x) then 1 else 0

theorem or63 (a : Nat) (ha : a < 9223372036854775808) : bits .or .u64 (a : Int) 9223372036854775808 = ((a + T63 : Nat) : Int) := by
  rw [T63_eq]
  have h := bits_or_u64_nat a 9223372036854775808 (by omega) (by omega)
  have e := or_add a 1 63 (by omega)
  rw [Nat.one_mul] at e
  rw [show (2 ^ 63 : Nat) = 9223372036854775808 from rfl] at e
  rw [e] at h
  exact h
theorem ret_pair {a b : Int} {v : Value} (h : a = b) : Ending.returned (.tuple #[.int .u64 a, v]) = .returned (.tuple #[.int .u64 b, v]) := by rw [h]
theorem set3 {w : World} {r : Nat} {t : TypeId} {a b c : Value} (h : Blk w r t #[a, b, c]) (x y u : Value) : ∃ W2, W2 = ((w.setCell ⟨r, 0, none⟩ x).setCell ⟨r, 1, none⟩ y).setCell ⟨r, 2, none⟩ u ∧ Blk W2 r t #[x, y, u] ∧
    Below r w W2 ∧ (∀ B v l, r < B → Nums w B v l → Nums W2 B v l) ∧ W2.heap.size = w.heap.size := by
  refine ⟨_, rfl, ?_, (((Below.refl _ _).setCell (p := ⟨r, 0, none⟩) (Nat.le_refl _) x).setCell (p := ⟨r, 1, none⟩) (Nat.le_refl _) y).setCell (p := ⟨r, 2, none⟩) (Nat.le_refl _) u, fun B v l hr hn => nums_low3 hn hr _ _ _, by simp⟩
  have := ((h.set_ 0 x).set_ 1 y).set_ 2 u
  simpa using this
theorem pE_bounds {z x : Int} {k : Nat} (hz : z.natAbs < W ^ k) (hx : -10000 ≤ x ∧ x ≤ 10000) : -10000 ≤ pE z x ∧ pE z x ≤ 10000 + 64 * k := by
  unfold pE
  rw [W_pow] at hz
  have := tz_le _ _ hz
  split <;> omega
theorem nE_bounds {z x : Int} {k : Nat} (hz : z.natAbs < W ^ k) : -10000 ≤ nE z x ∧ nE z x ≤ 10000 + 64 * k := by
  have h := cE_bounds z x
  exact pE_bounds (Nat.lt_of_le_of_lt (cM_le z x) hz) (by omega)
theorem pM_lt {z : Int} {k : Nat} (hz : z.natAbs < W ^ k) : (pM z).natAbs < W ^ k := Nat.lt_of_le_of_lt (Int.natAbs_ediv_le_natAbs _ _) hz
theorem nM_lt {z x : Int} {k : Nat} (hz : z.natAbs < W ^ k) : (nM z x).natAbs < W ^ k := pM_lt (Nat.lt_of_le_of_lt (cM_le z x) hz)

set_option maxRecDepth 100000 in
theorem of_pat_calls (w : World) (n : Bool) (B : Nat) (v : Value) (l : List Nat) (x : Int) (h : Nums w B v l) (hl : l.length ≤ 30000) (hx0 : -9223372036854775808 ≤ x) (hx1 : x ≤ 9223372036854775807) :
    Calls Try.prog 24 #[.agg #[.bool n, v, .int .i64 x]] w fun e w' => Below w.heap.size w w' ∧
      e = .returned (.tuple #[.int .u64 (oB1 (nM (ival n (val W l)) x) (nE (ival n (val W l)) x) : Nat), .int .i64 (oX1 (nM (ival n (val W l)) x) (nE (ival n (val W l)) x))]) := by
  have h0 := h
  have HLT := hide h.lt
  obtain ⟨A, cap, rfl, -, -, -, hc⟩ := h
  obtain ⟨W0, hW, hbx, hB0, hs⟩ := start1 w 26 #[.bool n, .slice A l.length cap, .int .i64 x]
  have h1 := h0.up hB0
  have hs2 : w.heap.size < W0.heap.size := by omega
  clear hs hc
  obtain ⟨z0, HZ0⟩ : ∃ z, Hid (ival n (val W l) = z) := ⟨_, hide rfl⟩
  obtain ⟨c0, c1, c2, c3, c4, c5⟩ := hbx.three
  go_enter Try.func24, Try.ntmps24
  go_upto_region 1 with (fail)
  rw [← hW]
  clear hW
  have HP := norm_dyad_calls W0 n B _ l x h1 (by omega) hx0 hx1
  obtain ⟨z, HZ⟩ : ∃ z, Hid (nM z0 x = z) := ⟨_, hide rfl⟩
  obtain ⟨y, HY⟩ : ∃ y, Hid (nE z0 x = y) := ⟨_, hide rfl⟩
  rw [HZ0.out, HZ.out, HY.out] at HP
  go_wp2_with fail
  refine HP.mono ?_
  rintro e w1 ⟨hb1, u, d, rfl, hu, hd⟩
  obtain ⟨A1, cap1, rfl⟩ := hu.form
  have hbx1 := hbx.below hb1 hs2
  obtain ⟨e0, e1, e2, e3, e4, e5⟩ := hbx1.three
  clear HP
  have hzl : z0.natAbs < W ^ l.length := by rw [← HZ0.out]; exact natAbs_lt HLT.out
  have hyb := nE_bounds (x := x) hzl
  rw [HY.out] at hyb
  have hdl : d.length ≤ l.length := by
    rw [hd.len, ← HZ.out]; exact nM_lt hzl
  have hv : Hid (ival (decide (z < 0)) (val W d) = z) := hide (by rw [hd.val, ival_self])
  have HDC := hide hd
  obtain ⟨w2, hW2, hbx2, hB2, hkeep, hs3⟩ := set3 hbx1 (.bool (decide (z < 0))) (.slice A1 d.length cap1) (.int .i64 y)
  have s1 := hb1.size
  have hu2 := hkeep _ _ _ hs2 hu
  clear hzl hd hkeep
  go_upto_region 2 with (fail)
  rw [← hW2]
  clear hW2
  have HS3 := hide hs3
  have hs4 : W0.heap.size ≤ w2.heap.size := by omega
  have HB2 := hide ((hB0.trans (hb1.mono (by omega))).trans hB2)
  clear hs3
  obtain ⟨f0, f1, f2, -, -, -⟩ := hbx2.three
  have HP := log_dyad_calls w2 (decide (z < 0)) _ _ d y hu2 (by omega) (by omega) (by omega)
  obtain ⟨m, HM⟩ : ∃ m, Hid (lgN z y = m) := ⟨_, hide rfl⟩
  obtain ⟨ok, HO⟩ : ∃ ok, Hid (lgOk z y = ok) := ⟨_, hide rfl⟩
  rw [hv.out, HM.out, HO.out] at HP
  go_wp2_with fail
  refine HP.mono ?_
  rintro e w3 ⟨hb3, rfl⟩
  clear HP
  cases ok with
  | false =>
    have E1 : Hid (oB1 z y = 0) := hide (by unfold oB1; rw [if_pos HO.out])
    have E2 : Hid (oX1 z y = 0) := hide (by unfold oX1; rw [if_pos HO.out])
    go_wp2_with fail
    go_ret2
    refine ⟨HB2.out.trans (hb3.mono (by omega)), ?_⟩
    rw [HZ0.out, HZ.out, HY.out, E1.out, E2.out]
    rfl
  | true =>
    have hbx3 := hbx2.below hb3 (by omega)
    have hu3 := hu2.below hb3
    obtain ⟨g0, g1, g2, -, -, -⟩ := hbx3.three
    have hz0 : cM z y ≠ 0 := by have := HO.out; unfold lgOk at this; simpa using this
    have hcm : ¬ (y < -4000 ∨ 4000 < y ∨ z = 0) := by
      intro h; apply hz0; unfold cM; rw [if_pos h]
    have hm : m = y + nbits z.natAbs - 1 := by
      rw [← HM.out]; unfold lgN
      rw [if_neg hz0]; unfold cM cE; rw [if_neg hcm, if_neg hcm]
    have hy1 : -4000 ≤ y := by omega
    have hy2 : y ≤ 4000 := by omega
    have hzn : z ≠ 0 := by omega
    obtain ⟨N, HN⟩ : ∃ N, Hid (z.natAbs = N) := ⟨_, hide rfl⟩
    rw [HN.out] at hm
    have hNp : N ≠ 0 := by have := HN.out; omega
    have hnb := nbits_pos hNp
    have hnb2 : nbits N ≤ 64 * d.length := by
      rw [nbits_le, ← HN.out, ← HDC.out.val, ← W_pow]; exact L.val_lt d hu.lt
    have hmb1 : -4000 ≤ m := by omega
    have hmb2 : m ≤ 4000 + 64 * 30000 := by omega
    have HMN := hide hm
    have HNB2 := hide hnb2
    have HDL : Hid ((dig W z.natAbs).length = d.length) := hide (by rw [show d = dig W z.natAbs from HDC.out])
    clear hm hnb2 hcm hz0 hyb
    have hwm : IntKind.i64.wrap (m - 52) = m - 52 := IntWalk.i64_in _ (by omega)
    obtain ⟨low, HL⟩ : ∃ low, Hid (max (m - 52) (-1074) = low) := ⟨_, hide rfl⟩
    have HLO : Hid (ofLow m = low) := hide HL.out
    have hlb1 : -1074 ≤ low := by have := HL.out; omega
    have hlb2 : low ≤ 4000 + 64 * 30000 := by have := HL.out; omega
    go_upto_region 6 with (fail)
    rw [HL.out]
    have HBB := hide (HB2.out.trans (hb3.mono (by omega)))
    by_cases hbad : ofBad z y m
    · have E1 : Hid (oB1 z y = 0) := hide (by unfold oB1; rw [if_neg (by rw [HO.out]; simp), HM.out, if_pos hbad])
      have E2 : Hid (oX1 z y = 1) := hide (by unfold oX1; rw [if_neg (by rw [HO.out]; simp), HM.out, if_pos hbad])
      have hb' : 1023 < m ∨ y < low ∨ (1 : Int) < (d.length : Int) := by
        unfold ofBad at hbad
        rw [HLO.out, HDL.out] at hbad
        omega
      clear hbad
      have hall : Hid (Below w.heap.size w w3) := HBB
      by_cases h1 : 1023 < m
      · go_wp2_with fail
        go_ret2
        refine ⟨HBB.out, ?_⟩
        rw [HZ0.out, HZ.out, HY.out, E1.out, E2.out]
        rfl
      · by_cases h2 : y < low
        · go_wp2_with fail
          go_ret2
          refine ⟨HBB.out, ?_⟩
          rw [HZ0.out, HZ.out, HY.out, E1.out, E2.out]
          rfl
        · have h3 : (1 : Int) < (d.length : Int) := by omega
          clear hb'
          go_wp2_with fail
          go_ret2
          refine ⟨HBB.out, ?_⟩
          rw [HZ0.out, HZ.out, HY.out, E1.out, E2.out]
          rfl
    · have hg : m ≤ 1023 ∧ low ≤ y ∧ d.length ≤ 1 := by
        unfold ofBad at hbad
        rw [HLO.out, HDL.out] at hbad
        omega
      have E1 : Hid (oB1 z y = ofPat z y m) := hide (by unfold oB1; rw [if_neg (by rw [HO.out]; simp), HM.out, if_neg hbad])
      have E2 : Hid (oX1 z y = 0) := hide (by unfold oX1; rw [if_neg (by rw [HO.out]; simp), HM.out, if_neg hbad])
      clear hbad
      obtain ⟨hm1, hly, hdl1⟩ := hg
      have hNW : N < W := by
        have := HDC.out
        have h1 : z.natAbs < W ^ 1 := Nat.lt_of_lt_of_le (by rw [← this.val]; exact L.val_lt d hu.lt) (Nat.pow_le_pow_right W_pos hdl1)
        rw [Nat.pow_one, HN.out] at h1
        exact h1
      have hd1 := canon_one (d := d) (N := N) (by rw [← HN.out]; exact HDC.out) hNp hNW
      subst hd1
      obtain ⟨s, hs⟩ : ∃ s : Nat, y - low = s := ⟨(y - low).toNat, by omega⟩
      have HS := hide hs
      have hs63 : s ≤ 63 := by
        have := HMN.out
        have := HL.out
        omega
      have hws : IntKind.i64.wrap (y - low) = (s : Int) := by rw [IntWalk.i64_in _ (by omega)]; exact hs
      have hws2 : IntKind.u64.wrap (s : Int) = (s : Int) := by rw [IntKind.wrap_u64]; omega
      have hlt53 : N * 2 ^ s < 9007199254740992 := by
        have h1 : N < 2 ^ nbits N := (nbits_le N (nbits N)).1 (Nat.le_refl _)
        have h2 : N * 2 ^ s < 2 ^ nbits N * 2 ^ s := Nat.mul_lt_mul_of_pos_right h1 (Nat.two_pow_pos _)
        rw [← Nat.pow_add] at h2
        have h3 : 2 ^ (nbits N + s) ≤ 2 ^ 53 := Nat.pow_le_pow_right (by omega) (by
          have := HMN.out
          have := HL.out
          omega)
        rw [show (2 : Nat) ^ 53 = 9007199254740992 from rfl] at h3
        omega
      have hshl := shl_wrap N s
      rw [Nat.mod_eq_of_lt (show N * 2 ^ s < W from by unfold W; omega)] at hshl
      obtain ⟨A9, cap9, hAeq, -, -, -, hcell⟩ := hu3
      injection hAeq with hAeq hxx hcapeq
      subst hAeq hcapeq
      obtain ⟨b1, o1, rfl, -, -, hcell1⟩ := hcell (by simp)
      have hcl := hcell1 0 (by simp)
      simp only [Nat.add_zero] at hcl
      have hcl' : w3.cell? ⟨b1, o1, none⟩ = some (.int .u64 (N : Int)) := by rw [hcl]; simp [L.nth]
      clear hcell1 hcell hcl hs
      go_upto_region 8 with (fail)
      go_quiet (fail)
      go_upto_region 9 with (fail)
      obtain ⟨p, HPp⟩ : ∃ p : Nat, Hid (N * 2 ^ s = p) := ⟨_, hide rfl⟩
      have hp : (N : Int) * 2 ^ s = (p : Nat) := by rw [natpow, ← Int.natCast_mul, HPp.out]
      rw [HPp.out] at hlt53
      rw [hp]
      have hcn : ∀ nq, (w3.drewN nq).cell? ⟨w.heap.size, 0, none⟩ = some (.bool (decide (z < 0))) := fun nq => g0
      have HPAT : Hid (ofPat z y m = p + (if -1022 ≤ m then (m + 1022).toNat * 4503599627370496 else 0) + (if z < 0 then T63 else 0)) := hide (by
        unfold ofPat; rw [HN.out, HLO.out, HS.out, Int.toNat_natCast, HPp.out])
      clear hp hshl hcl' hws hws2
      by_cases hge : -1022 ≤ m
      · obtain ⟨k, hk⟩ : ∃ k : Nat, m + 1022 = k := ⟨(m + 1022).toNat, by omega⟩
        have hk2 : k ≤ 2045 := by omega
        have hor0 := or63 (p + k * 4503599627370496) (by omega)
        rw [show ((p + k * 4503599627370496 : Nat) : Int) = (p : Int) + (m + 1022) * 4503599627370496 from by omega] at hor0
        obtain ⟨q, HQ⟩ : ∃ q : Int, Hid (((p + k * 4503599627370496 + T63 : Nat) : Int) = q) := ⟨_, hide rfl⟩
        have hor : bits .or .u64 ((p : Int) + (m + 1022) * 4503599627370496) 9223372036854775808 = q := hor0.trans HQ.out
        clear hor0
        have HKm : Hid (m + 1022 = (k : Int)) := hide hk
        have HK : Hid ((m + 1022).toNat = k) := hide (by omega)
        clear hk
        by_cases hneg : z < 0
        · have hdz : decide (z < 0) = true := decide_eq_true hneg
          rw [hdz] at hcn
          have HF : Hid (oB1 z y = p + k * 4503599627370496 + T63) := hide (by rw [E1.out, HPAT.out, if_pos hge, if_pos hneg, HK.out])
          go_wp2_with fail
          go_ret2
          refine ⟨bdrewN HBB.out _, ?_⟩
          rw [HZ0.out, HZ.out, HY.out, HF.out, E2.out]
          exact ret_pair HQ.out.symm
        · have hdz : decide (z < 0) = false := decide_eq_false hneg
          rw [hdz] at hcn
          have HF : Hid (oB1 z y = p + k * 4503599627370496) := hide (by rw [E1.out, HPAT.out, if_pos hge, if_neg hneg, HK.out, Nat.add_zero])
          clear hor
          go_wp2_with fail
          go_ret2
          refine ⟨bdrewN HBB.out _, ?_⟩
          rw [HZ0.out, HZ.out, HY.out, HF.out, E2.out]
          have := HKm.out
          exact ret_pair (by first | (simp; omega) | simp | omega)
      · have hor0 := or63 p (by omega)
        obtain ⟨q, HQ⟩ : ∃ q : Int, Hid (((p + T63 : Nat) : Int) = q) := ⟨_, hide rfl⟩
        have hor : bits .or .u64 (p : Int) 9223372036854775808 = q := hor0.trans HQ.out
        clear hor0
        by_cases hneg : z < 0
        · have hdz : decide (z < 0) = true := decide_eq_true hneg
          rw [hdz] at hcn
          have HF : Hid (oB1 z y = p + T63) := hide (by rw [E1.out, HPAT.out, if_neg hge, if_pos hneg, Nat.add_zero])
          go_wp2_with fail
          go_ret2
          refine ⟨bdrewN HBB.out _, ?_⟩
          rw [HZ0.out, HZ.out, HY.out, HF.out, E2.out]
          exact ret_pair HQ.out.symm
        · have hdz : decide (z < 0) = false := decide_eq_false hneg
          rw [hdz] at hcn
          have HF : Hid (oB1 z y = p) := hide (by rw [E1.out, HPAT.out, if_neg hge, if_neg hneg]; rfl)
          clear hor
          go_wp2_with fail
          go_ret2
          refine ⟨bdrewN HBB.out _, ?_⟩
          rw [HZ0.out, HZ.out, HY.out, HF.out, E2.out]
          exact ret_pair (by first | (simp; omega) | simp | omega)
end Go.Proofs.Ytnkembnachhicaa

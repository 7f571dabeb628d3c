/- bits: Near. -/
import Derived.Test.YtnkembnachhicaaPat3
import Derived.Test.YtnkembnachhicaaVal
set_option linter.unusedVariables false
namespace Go.Proofs.Ytnkembnachhicaa
open Go.RowKit
open L (val dig nth)

/-- Near's pattern, of a dyad that is handed in. -/
def nrBad (z x : Int) : Prop := lgOk z x = false ∨ (cM z x).sign < 0 ∨ lgN z x < -1022 ∨ 1023 < lgN z x
instance (z x : Int) : Decidable (nrBad z x) := by unfold nrBad; infer_instance
/-- The floor that Near takes, and its exponent. -/
def nrM (z x : Int) : Int := scF (cM z x) (cE z x + nearZ (52 - lgN z x))
def nrZ (z x : Int) : Int := nM (nrM z x) (lgN z x - 52)
def nrY (z x : Int) : Int := nE (nrM z x) (lgN z x - 52)
def nrB (z x : Int) : Nat := if nrBad z x then 0 else oB1 (nM (nrZ z x) (nrY z x)) (nE (nrZ z x) (nrY z x))
def nrX (z x : Int) : Int := if nrBad z x then 1 else oX1 (nM (nrZ z x) (nrY z x)) (nE (nrZ z x) (nrY z x))

theorem lgN_bounds {z x : Int} {k : Nat} (hz : z.natAbs < W ^ k) : -4000 ≤ lgN z x ∧ lgN z x ≤ 4000 + 64 * k := by
  have hb := cE_bounds z x
  unfold lgN
  split
  · omega
  · next h0 =>
    have h1 := nbits_pos (n := (cM z x).natAbs) (by omega)
    have h2 : nbits (cM z x).natAbs ≤ 64 * k := by
      rw [nbits_le, ← W_pow]; exact Nat.lt_of_le_of_lt (cM_le z x) hz
    omega
theorem scF_len {d : List Nat} {m e : Int} {k : Nat} (hd : Canon d (scF m e).natAbs) (hm : m.natAbs < W ^ k) (he : e ≤ 8000) : d.length ≤ k + 125 := by
  unfold scF at hd
  split at hd
  · exact len_mul2 (t := 125) hd hm (by omega)
  · have := len_div2 hd hm; omega

set_option maxRecDepth 100000 in
theorem near_pat_calls (w : World) (n : Bool) (B : Nat) (v : Value) (l : List Nat) (x : Int) (h : Nums w B v l) (hl : l.length ≤ 9000) (hx0 : -9223372036854775808 ≤ x) (hx1 : x ≤ 9223372036854775807) :
    Calls Try.prog 49 #[.agg #[.bool n, v, .int .i64 x]] w fun e w' => Below w.heap.size w w' ∧
      e = .returned (.tuple #[.int .u64 (nrB (ival n (val W l)) x : Nat), .int .i64 (nrX (ival n (val W l)) x)]) := by
  have h0 := h
  have HLT := hide h.lt
  obtain ⟨A, cap, rfl, -, -, -, hc⟩ := h
  obtain ⟨W0, hW, hbx, hB0, hs⟩ := start1 w 26 #[.bool n, .slice A l.length cap, .int .i64 x]
  have h1 := h0.up hB0
  have hs2 : w.heap.size < W0.heap.size := by omega
  clear hs hc
  obtain ⟨z0, HZ0⟩ : ∃ z, Hid (ival n (val W l) = z) := ⟨_, hide rfl⟩
  rw [HZ0.out]
  obtain ⟨c0, c1, c2, c3, c4, c5⟩ := hbx.three
  go_enter Try.func49, Try.ntmps49
  go_upto_region 1 with (fail)
  rw [← hW]
  clear hW
  have HP := log_dyad_calls W0 n B _ l x h1 (by omega) hx0 hx1
  obtain ⟨m, HM⟩ : ∃ m, Hid (lgN z0 x = m) := ⟨_, hide rfl⟩
  obtain ⟨ok, HO⟩ : ∃ ok, Hid (lgOk z0 x = ok) := ⟨_, hide rfl⟩
  rw [HZ0.out, HM.out, HO.out] at HP
  go_wp2_with fail
  refine HP.mono ?_
  rintro e w1 ⟨hb1, rfl⟩
  clear HP
  have hzl : Hid (z0.natAbs < W ^ l.length) := hide (by rw [← HZ0.out]; exact natAbs_lt HLT.out)
  have hmb := lgN_bounds (x := x) hzl.out
  rw [HM.out] at hmb
  obtain ⟨hm1, hm2⟩ := hmb
  have hbx1 := hbx.below hb1 hs2
  have hu1 := h1.below hb1
  have s1 := hb1.size
  have HB1 := hide (hB0.trans (hb1.mono (by omega)))
  obtain ⟨e0, e1, e2, e3, e4, e5⟩ := hbx1.three
  cases ok with
  | false =>
    have E1 : Hid (nrB z0 x = 0) := hide (by unfold nrB; rw [if_pos (.inl HO.out)])
    have E2 : Hid (nrX z0 x = 1) := hide (by unfold nrX; rw [if_pos (.inl HO.out)])
    go_wp2_with fail
    go_ret2
    refine ⟨HB1.out, ?_⟩
    rw [E1.out, E2.out]
    rfl
  | true =>
    have HP := sign_dyad_calls w1 n B _ l x hu1 (by omega) hx0 hx1
    obtain ⟨s, HS⟩ : ∃ s, Hid ((cM z0 x).sign = s) := ⟨_, hide rfl⟩
    rw [HZ0.out, HS.out] at HP
    go_wp2_with fail
    refine HP.mono ?_
    rintro e w2 ⟨hb2, rfl⟩
    clear HP
    have hbx2 := hbx1.below hb2 (by omega)
    have hu2 := hu1.below hb2
    have s2 := hb2.size
    have HB2 := hide (HB1.out.trans (hb2.mono (by omega)))
    obtain ⟨f0, f1, f2, -, -, -⟩ := hbx2.three
    by_cases hbad : nrBad z0 x
    · have E1 : Hid (nrB z0 x = 0) := hide (by unfold nrB; rw [if_pos hbad])
      have E2 : Hid (nrX z0 x = 1) := hide (by unfold nrX; rw [if_pos hbad])
      have hb' : s < 0 ∨ m < -1022 ∨ 1023 < m := by
        unfold nrBad at hbad
        rw [HO.out, HS.out, HM.out] at hbad
        simpa using hbad
      clear hbad
      by_cases h1 : s < 0
      · go_wp2_with fail
        go_ret2
        refine ⟨HB2.out, ?_⟩
        rw [E1.out, E2.out]
        rfl
      · by_cases h2 : m < -1022
        · go_wp2_with fail
          go_ret2
          refine ⟨HB2.out, ?_⟩
          rw [E1.out, E2.out]
          rfl
        · have h3 : 1023 < m := by omega
          clear hb'
          go_wp2_with fail
          go_ret2
          refine ⟨HB2.out, ?_⟩
          rw [E1.out, E2.out]
          rfl
    · have hg : 0 ≤ s ∧ -1022 ≤ m ∧ m ≤ 1023 := by
        unfold nrBad at hbad
        rw [HO.out, HS.out, HM.out] at hbad
        simp only [not_or] at hbad
        omega
      have E1 : Hid (nrB z0 x = oB1 (nM (nrZ z0 x) (nrY z0 x)) (nE (nrZ z0 x) (nrY z0 x))) := hide (by unfold nrB; rw [if_neg hbad])
      have E2 : Hid (nrX z0 x = oX1 (nM (nrZ z0 x) (nrY z0 x)) (nE (nrZ z0 x) (nrY z0 x))) := hide (by unfold nrX; rw [if_neg hbad])
      clear hbad
      obtain ⟨hg1, hg2, hg3⟩ := hg
      obtain ⟨z1, HZ1⟩ : ∃ z, Hid (nrM z0 x = z) := ⟨_, hide rfl⟩
      have HP := floor_dyad_calls w2 n B _ l x (52 - m) hu2 (by omega) hx0 hx1
      have HZ1' : Hid (scF (cM z0 x) (cE z0 x + nearZ (52 - m)) = z1) := hide (by rw [← HZ1.out, ← HM.out]; rfl)
      rw [HZ0.out, HZ1'.out] at HP
      go_wp2_with fail
      refine HP.mono ?_
      rintro e w3 ⟨hb3, u3, d3, rfl, hu3, hd3⟩
      clear HP
      have s3 := hb3.size
      have HB3 := hide (HB2.out.trans (hb3.mono (by omega)))
      have hd3l : d3.length ≤ l.length + 125 := by
        have hcb := cE_bounds z0 x
        have hnb := nearZ_bounds (52 - m)
        exact scF_len (e := cE z0 x + nearZ (52 - m)) (by rw [HZ1'.out]; exact hd3) (Nat.lt_of_le_of_lt (cM_le z0 x) hzl.out) (by omega)
      have HV3 : Hid (ival (decide (z1 < 0)) (val W d3) = z1) := hide (by rw [hd3.val, ival_self])
      obtain ⟨A3, cap3, rfl⟩ := hu3.form
      have HP := of_dyad_calls w3 (decide (z1 < 0)) _ _ d3 (m - 52) hu3 (by omega) (by omega) (by omega)
      obtain ⟨z2, HZ2⟩ : ∃ z, Hid (nrZ z0 x = z) := ⟨_, hide rfl⟩
      obtain ⟨y2, HY2⟩ : ∃ z, Hid (nrY z0 x = z) := ⟨_, hide rfl⟩
      have HZ2' : Hid (nM z1 (m - 52) = z2) := hide (by rw [← HZ2.out, ← HM.out, ← HZ1.out]; rfl)
      have HY2' : Hid (nE z1 (m - 52) = y2) := hide (by rw [← HY2.out, ← HM.out, ← HZ1.out]; rfl)
      rw [HV3.out, HZ2'.out, HY2'.out] at HP
      go_wp2_with fail
      refine HP.mono ?_
      rintro e w4 ⟨hb4, u4, d4, rfl, hu4, hd4⟩
      clear HP
      have s4 := hb4.size
      have HB4 := hide (HB3.out.trans (hb4.mono (by omega)))
      have hz1 : Hid (z1.natAbs < W ^ d3.length) := hide (by rw [← HV3.out]; exact natAbs_lt hu3.lt)
      have hd4l : d4.length ≤ d3.length := by rw [hd4.len, ← HZ2'.out]; exact nM_lt hz1.out
      have HV4 : Hid (ival (decide (z2 < 0)) (val W d4) = z2) := hide (by rw [hd4.val, ival_self])
      obtain ⟨A4, cap4, rfl⟩ := hu4.form
      have hyb := nE_bounds (x := m - 52) hz1.out
      rw [HY2'.out] at hyb
      have HP := of_pat_calls w4 (decide (z2 < 0)) _ _ d4 y2 hu4 (by omega) (by omega) (by omega)
      obtain ⟨rb, HRB⟩ : ∃ z, Hid (oB1 (nM z2 y2) (nE z2 y2) = z) := ⟨_, hide rfl⟩
      obtain ⟨rx, HRX⟩ : ∃ z, Hid (oX1 (nM z2 y2) (nE z2 y2) = z) := ⟨_, hide rfl⟩
      rw [HV4.out, HRB.out, HRX.out] at HP
      go_wp2_with fail
      refine HP.mono ?_
      rintro e w5 ⟨hb5, rfl⟩
      clear HP
      go_wp2_with fail
      go_ret2
      refine ⟨HB4.out.trans (hb5.mono (by omega)), ?_⟩
      rw [E1.out, E2.out, HZ2.out, HY2.out, HRB.out, HRX.out]
      rfl
end Go.Proofs.Ytnkembnachhicaa

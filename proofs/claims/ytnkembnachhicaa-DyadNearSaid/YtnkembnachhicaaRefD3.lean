/- The document's dyads: raised lower. -/
import Derived.Test.YtnkembnachhicaaRefD2
set_option linter.unusedVariables false
set_option linter.unusedSimpArgs false
namespace Go.Proofs.Ytnkembnachhicaa
open Go.RowKit
open L (val dig nth)

theorem clampN_nat {m : Nat} (h : m ≤ 8192) : clampN (m : Int) = m := by unfold clampN; omega
/-- z' times 2^m is P. -/
def UpTo (P z' : Int) (m : Nat) : Prop := z' * 2 ^ m = P
theorem UpTo.step {P z' : Int} {m c : Nat} (h : UpTo P z' m) (hc : c ≤ m) : UpTo P (z' * 2 ^ c) (m - c) := by
  unfold UpTo at *
  rw [Int.mul_assoc, ← Int.pow_add, show c + (m - c) = m from by omega]; exact h
theorem UpTo.lt {P z' : Int} {m k : Nat} (h : UpTo P z' m) (hk : P.natAbs < W ^ k) : z'.natAbs < W ^ k := by
  unfold UpTo at h
  have e := congrArg Int.natAbs h
  rw [Int.natAbs_mul, natAbs_pow] at e
  exact Nat.lt_of_le_of_lt (by rw [← e]; exact Nat.le_mul_of_pos_right _ (Nat.two_pow_pos _)) hk
/-- The box of an integer, and of the result, that a loop works at. -/
def AtBox2 (w wr : World) (B r : Nat) (z' : Int) : Prop := ∃ A c d, Blk wr r 24 #[.bool (decide (z' < 0)), .slice A d.length c] ∧ Nums wr B (.slice A d.length c) d ∧ Canon d z'.natAbs ∧
  Blk wr (r + 1) 24 #[.bool false, .slice none 0 0] ∧ Below w.heap.size w wr ∧ B ≤ wr.heap.size

set_option maxHeartbeats 2000000 in
set_option maxRecDepth 100000 in
theorem raisedR_calls (w : World) (n : Bool) (B : Nat) (v : Value) (l : List Nat) (z P : Int) (m k : Nat) (h : Nums w B v l) (hd0 : Canon l z.natAbs) (hn : n = decide (z < 0)) (hP : z * 2 ^ m = P) (hPk : P.natAbs < W ^ k) (hk : k ≤ 50000) (hm : m ≤ 1000000) :
    Calls Try.prog 85 #[.agg #[.bool n, v], .int .i64 m] w fun e w' => Below w.heap.size w w' ∧ RetZ w.heap.size P e w' := by
  subst hn
  have h0 := h
  obtain ⟨A, cap, rfl, -, -, -, hc⟩ := h
  obtain ⟨W0, hW, hbx, hrs, hB0, hs⟩ := start_11 w 24 24 (.bool (decide (z < 0))) (.slice A l.length cap) (.bool false) (.slice none 0 0)
  have h1 := h0.up hB0
  have hs2 : w.heap.size + 1 < W0.heap.size := by omega
  have hne1 : ¬ (w.heap.size = w.heap.size + 1) := by omega
  have hne2 : ¬ (w.heap.size + 1 = w.heap.size) := by omega
  clear hs hc
  have HPK := hide hPk
  have HU0 : UpTo P z m := hP
  have HHM := hide hm
  clear hP hPk
  obtain ⟨c, HC⟩ : ∃ c, Hid (clampN 8000 = c) := ⟨_, hide rfl⟩
  have HC8 : Hid (c = 8000) := hide (by rw [← HC.out]; rfl)
  go_enter Try.func85, Try.ntmps85
  go_upto_region 1 with (fail)
  rw [← hW]
  clear hW
  go_wp2_with fail
  have HA0 : AtBox2 w W0 0 w.heap.size z := ⟨A, cap, l, hbx, h1.mono (Nat.zero_le _), hd0, hrs, hB0, Nat.zero_le _⟩
  clear hbx hrs hd0 h0 h1
  go_loopw [1] (fun s wr => ∃ (j : Nat) (z' : Int), s = .int .i64 j ∧ j ≤ m ∧ UpTo P z' j ∧ AtBox2 w wr 0 w.heap.size z') (fun s _ => (intOf s).toNat)
  case atStart => exact ⟨m, z, rfl, Nat.le_refl _, HU0, HA0⟩
  case round =>
    obtain ⟨j, z', rfl, hjm, hup, A2, c2, d2, hbx3, hu3, hd3, hrs3, hb3, hbs3⟩ := hrel
    obtain ⟨wo, rfl⟩ : ∃ wo : World, wo = wr := ⟨_, rfl⟩
    have hj6 : j ≤ 1000000 := by have := HHM.out; omega
    have hd2l : d2.length ≤ k := by rw [hd3.len]; exact hup.lt HPK.out
    have HUP := hide hup
    have HB3 := hide hb3
    have hwo : w.heap.size + 1 < wo.heap.size := hrs3.lt
    obtain ⟨i0, i1, i2, i3⟩ := hbx3.two
    by_cases h8 : 8000 < j
    · have HPS := zshlR_calls wo (decide (z' < 0)) _ _ d2 8000 hu3 (by omega) (by omega) (by omega)
      rw [hd3.val, ival_self, HC.out] at HPS
      obtain ⟨zz, HZZ⟩ : ∃ q, Hid (z' * 2 ^ c = q) := ⟨_, hide rfl⟩
      rw [HZZ.out] at HPS
      have h8' : (8000 : Int) < (j : Int) := by omega
      clear hup hd3 hb3
      go_wp2_with fail
      refine HPS.mono ?_
      rintro e w5 ⟨hb5, u5, d5, rfl, hu5, hd5⟩
      obtain ⟨A5, c5, rfl⟩ := hu5.form
      have hbx5 := hbx3.below hb5 hbx3.lt
      have hrs5 := hrs3.below hb5 hrs3.lt
      have s5 := hb5.size
      clear i0 i1 i2 i3 HPS
      obtain ⟨i0, i1, i2, i3⟩ := hbx5.two
      obtain ⟨w6, hW6, hbx6, hf6, hk6, hs6, hB6⟩ := set2_all hbx5 (.bool (decide (zz < 0))) (.slice A5 d5.length c5)
      have hrs6 := hf6 _ _ _ (by omega) hrs5
      have hu6 := hk6 _ _ _ (by omega) hu5
      have HB6 := hide (hB6 _ _ (HB3.out.trans (hb5.mono HB3.out.size)) (Nat.le_refl _))
      clear hB6 hk6 hf6 hs6
      go_upto_region 3 with (fail)
      rw [← hW6]
      clear hW6 i0 i1 i2 i3
      go_wp2_with fail
      go_roundw
      case rel => exact ⟨j - 8000, zz, by rw [show (j : Int) - 8000 = ((j - 8000 : Nat) : Int) from by omega], by omega, by have := HUP.out.step (c := c) (by rw [HC8.out]; omega); rwa [HZZ.out, HC8.out] at this, A5, c5, d5, hbx6, hu6.mono (Nat.zero_le _), hd5, hrs6, HB6.out, Nat.zero_le _⟩
      case measure => simp [intOf]; omega
    · have HPS := zshlR_calls wo (decide (z' < 0)) _ _ d2 j hu3 (by omega) (by omega) (by omega)
      rw [hd3.val, ival_self, clampN_nat (by omega), show z' * 2 ^ j = P from HUP.out] at HPS
      have h8' : ¬ (8000 : Int) < (j : Int) := by omega
      clear hup hd3 hb3
      go_wp2_with fail
      refine HPS.mono ?_
      rintro e w5 ⟨hb5, u5, d5, rfl, hu5, hd5⟩
      obtain ⟨A5, c5, rfl⟩ := hu5.form
      have hrs5 := hrs3.below hb5 hrs3.lt
      have s5 := hb5.size
      clear i0 i1 i2 i3 HPS
      obtain ⟨i0, i1, i2, i3⟩ := hrs5.two
      go_wp2_with fail
      refine bodyPost_ret (results_int rfl _ _ _ _ _ _ rfl ((hrs5.set_ 0 _).set_ 1 _)) rfl ⟨below2 (HB3.out.trans (hb5.mono HB3.out.size)) (by omega) _ _, ?_⟩
      exact retZ2 (by omega) (by omega) hu5 hd5 _ _

theorem up_lt {z : Int} {k c t : Nat} (hz : z.natAbs < W ^ k) (hc : c ≤ 64 * t) : (z * 2 ^ c).natAbs < W ^ (k + t) := by
  have := len_mul2 (d := dig W (z * 2 ^ c).natAbs) (k := k) (n := c) (t := t) (z := z) rfl hz hc
  rwa [L.dig_len W_gt] at this
set_option maxRecDepth 100000 in
theorem lowerR_calls (w : World) (n : Bool) (B : Nat) (v : Value) (l : List Nat) (z x R : Int) (h : Nums w B v l) (hd0 : Canon l z.natAbs) (hn : n = decide (z < 0)) (hl : l.length ≤ 10000) (hx0 : -8192 ≤ x) (hx1 : x ≤ 100000) (hR : scF z x = R) :
    Calls Try.prog 69 #[.agg #[.bool n, v], .int .i64 x] w fun e w' => Below w.heap.size w w' ∧ RetZ w.heap.size R e w' := by
  have h0 := h
  have hlt0 := h.lt
  obtain ⟨A, cap, rfl, -, -, -, hc⟩ := h
  obtain ⟨W0, hW, hbx, hrs, hB0, hs⟩ := start_11 w 24 24 (.bool n) (.slice A l.length cap) (.bool false) (.slice none 0 0)
  have h1 := h0.up hB0
  have hs2 : w.heap.size + 1 < W0.heap.size := by omega
  clear hs hc
  obtain ⟨c0, c1, -, -⟩ := hbx.two
  have hzl : z.natAbs < W ^ l.length := by rw [← hd0.val]; exact L.val_lt l hlt0
  by_cases hx : 0 ≤ x
  · obtain ⟨m, rfl⟩ : ∃ m : Nat, x = m := ⟨x.toNat, by omega⟩
    have hP : z * 2 ^ m = R := by rw [← hR]; unfold scF; rw [if_pos hx, Int.toNat_natCast]
    have HP := raisedR_calls W0 n B _ l z R m (l.length + 1563) h1 hd0 hn hP (by rw [← hP]; exact up_lt hzl (by omega)) (by omega) (by omega)
    clear hP hR hn hd0 hzl
    go_enter Try.func69, Try.ntmps69
    go_upto_region 1 with (fail)
    rw [← hW]
    clear hW hlt0
    go_wp2_with fail
    refine HP.mono ?_
    rintro e w1 ⟨hb1, u, d, rfl, hu, hd⟩
    obtain ⟨A1, cap1, rfl⟩ := hu.form
    have hrs1 := hrs.below hb1 hrs.lt
    have s1 := hb1.size
    obtain ⟨g0, g1, g2, g3⟩ := hrs1.two
    go_wp2_with fail
    refine bodyPost_ret (results_int rfl _ _ _ _ _ _ rfl ((hrs1.set_ 0 _).set_ 1 _)) rfl ⟨below2 (hB0.trans (hb1.mono hB0.size)) (by omega) _ _, ?_⟩
    exact retZ2 (by omega) hs2 hu hd _ _
  · have hx' : x < 0 := by omega
    have HP := zshrR_calls W0 n B _ l (-x) h1 (by omega) (by omega) (by omega)
    have hcl : clampN (-x) = (-x).toNat := by unfold clampN; omega
    rw [hd0.val, hn, ival_self, hcl, show z / 2 ^ (-x).toNat = R from by rw [← hR]; unfold scF; rw [if_neg hx]] at HP
    rw [← hn] at HP
    have hww : IntKind.i64.wrap (-x) = -x := IntWalk.i64_in _ (by omega)
    clear hR hn hd0 hzl hcl hx
    go_enter Try.func69, Try.ntmps69
    go_upto_region 1 with (fail)
    rw [← hW]
    clear hW hlt0
    go_wp2_with fail
    refine HP.mono ?_
    rintro e w1 ⟨hb1, u, d, rfl, hu, hd⟩
    obtain ⟨A1, cap1, rfl⟩ := hu.form
    have hrs1 := hrs.below hb1 hrs.lt
    have s1 := hb1.size
    obtain ⟨g0, g1, g2, g3⟩ := hrs1.two
    go_wp2_with fail
    refine bodyPost_ret (results_int rfl _ _ _ _ _ _ rfl ((hrs1.set_ 0 _).set_ 1 _)) rfl ⟨below2 (hB0.trans (hb1.mono hB0.size)) (by omega) _ _, ?_⟩
    exact retZ2 (by omega) hs2 hu hd _ _
end Go.Proofs.Ytnkembnachhicaa

/- dyad: Neg, Shift, Floor, Ceil. dyad: level, Cmp, Add, Sub, Mul. dyad: Cmp, Add, Sub, Mul. -/
import Derived.Test.YtnfbngiabdlclaaGreatDyadA
section
set_option linter.unusedVariables false
namespace Go.Proofs.YtnfbngiabdlclaaGreat
open Go.RowKit
open L (val dig nth)

/-- An integer times a power of two, rounded down, and up. -/
def scF (m e : Int) : Int := if 0 ≤ e then m * 2 ^ e.toNat else m / 2 ^ (-e).toNat
def scC (m e : Int) : Int := if 0 ≤ e then m * 2 ^ e.toNat else -((-m) / 2 ^ (-e).toNat)

set_option maxRecDepth 100000 in
theorem floor_dyad_calls (w : World) (n : Bool) (B : Nat) (v : Value) (l : List Nat) (x k : Int) (h : Nums w B v l) (hl : l.length ≤ 9000) (hx0 : -9223372036854775808 ≤ x) (hx1 : x ≤ 9223372036854775807) :
    Calls Tryz.prog 55 #[.agg #[.bool n, v, .int .i64 x], .int .i64 k] w fun e w' => Below w.heap.size w w' ∧ RetZ w.heap.size (scF (cM (ival n (val W l)) x) (cE (ival n (val W l)) x + nearZ k)) e w' := by
  have h0 := h
  obtain ⟨A, cap, rfl, -, -, -, hc⟩ := h
  obtain ⟨W0, hW, hbx, hrs, hB0, hs⟩ := start2 w 34 25 #[.bool n, .slice A l.length cap, .int .i64 x] #[.bool false, .slice none 0 0]
  have h1 := h0.up hB0
  have hs2 : w.heap.size + 1 < W0.heap.size := by omega
  clear hs hc
  obtain ⟨c0, c1, c2, -, -, -⟩ := hbx.three
  go_enter Tryz.func55, Tryz.ntmps55
  go_upto_region 1 with (fail)
  rw [← hW]
  clear hW
  go_wp2_with fail
  refine (counts_calls _ n B _ l x h1 (by omega) hx0 hx1).mono ?_
  rintro e w1 ⟨hb1, m, u, d, rfl, hu, hdl, hdv⟩
  obtain ⟨q, HQ⟩ : ∃ q, Hid (cE (ival n (val W l)) x = q) := ⟨_, hide rfl⟩
  have hq := cE_bounds (ival n (val W l)) x
  obtain ⟨z, HZ⟩ : ∃ z, Hid (cM (ival n (val W l)) x = z) := ⟨_, hide rfl⟩
  rw [HQ.out] at hq ⊢
  rw [HZ.out] at hdv
  have HDV := hide hdv
  obtain ⟨A1, cap1, rfl⟩ := hu.form
  obtain ⟨w2, hW2, hbn, hB2, hs2'⟩ := start1 w1 25 #[.bool m, .slice A1 d.length cap1]
  clear hdv
  go_upto_region 2 with (fail)
  rw [← hW2]
  clear hW2
  obtain ⟨e0, e1, -, -⟩ := hbn.two
  have hu2 := hu.below hB2
  have s1 := hb1.size
  have hrs2 := (hrs.below hb1 (by omega)).below hB2 (by omega)
  have HB2 := hide ((hB0.trans (hb1.mono (by omega))).trans (hB2.mono (by omega)))
  obtain ⟨k', HK⟩ : ∃ k', Hid (nearZ k = k') := ⟨_, hide rfl⟩
  have hkb := nearZ_bounds k
  rw [HK.out] at hkb
  have hwk : IntKind.i64.wrap (q + k') = q + k' := IntWalk.i64_in _ (by omega)
  go_wp2_with fail
  refine (near_calls _ k).mono ?_
  rintro e w3 ⟨rfl, rfl⟩
  rw [HK.out]
  obtain ⟨e', HE'⟩ : ∃ e', Hid (q + k' = e') := ⟨_, hide rfl⟩
  have heb : -8000 ≤ e' ∧ e' ≤ 8000 := by have := HE'.out; omega
  clear hwk
  go_upto_region 3 with (fail)
  rw [HE'.out]
  by_cases hpos : 0 ≤ e'
  · obtain ⟨c, rfl⟩ := Int.eq_ofNat_of_zero_le hpos
    go_wp2_with fail
    obtain ⟨y, HY⟩ : ∃ y, Hid (z * 2 ^ c = y) := ⟨_, hide rfl⟩
    have HP := up_calls w2 m 0 _ d c hu2 (by omega) (by omega)
    rw [HDV.out, HY.out] at HP
    refine HP.mono ?_
    rintro e w4 ⟨hb4, u4, d4, rfl, hu4, hd4⟩
    have hrs4 := hrs2.below hb4 (by omega)
    obtain ⟨A4, cap4, rfl⟩ := hu4.form
    obtain ⟨j0, j1, j2, j3⟩ := hrs4.two
    clear HP
    go_wp2_with fail
    have s4 := hb4.size
    rw [HZ.out, HQ.out, HK.out, HE'.out, show scF z (c : Int) = y from by unfold scF; rw [if_pos hpos, Int.toNat_natCast, HY.out]]
    refine bodyPost_ret (results_int rfl _ _ _ _ _ _ rfl ((hrs4.set_ 0 _).set_ 1 _)) rfl ⟨below2 (HB2.out.trans (hb4.mono (by omega))) (by omega) _ _, ?_⟩
    exact ⟨_, d4, rfl, (nums_low2 hu4 (by omega) _ _).mono (by omega), hd4⟩
  · obtain ⟨c, hc⟩ : ∃ c : Nat, -e' = c := ⟨(-e').toNat, by omega⟩
    have hwn : IntKind.i64.wrap (-e') = (c : Int) := by rw [IntWalk.i64_in _ (by omega)]; exact hc
    have HC := hide hc
    have hcb : c ≤ 8000 := by omega
    clear hc
    go_wp2_with fail
    obtain ⟨y, HY⟩ : ∃ y, Hid (z / 2 ^ c = y) := ⟨_, hide rfl⟩
    have HP := down_calls w2 m 0 _ d c hu2 (by omega) (by omega)
    rw [HDV.out, HY.out] at HP
    refine HP.mono ?_
    rintro e w4 ⟨hb4, u4, d4, rfl, hu4, hd4⟩
    have hrs4 := hrs2.below hb4 (by omega)
    obtain ⟨A4, cap4, rfl⟩ := hu4.form
    obtain ⟨j0, j1, j2, j3⟩ := hrs4.two
    clear HP
    go_wp2_with fail
    have s4 := hb4.size
    rw [HZ.out, HQ.out, HK.out, HE'.out, show scF z e' = y from by unfold scF; rw [if_neg (by omega), HC.out, Int.toNat_natCast, HY.out]]
    refine bodyPost_ret (results_int rfl _ _ _ _ _ _ rfl ((hrs4.set_ 0 _).set_ 1 _)) rfl ⟨below2 (HB2.out.trans (hb4.mono (by omega))) (by omega) _ _, ?_⟩
    exact ⟨_, d4, rfl, (nums_low2 hu4 (by omega) _ _).mono (by omega), hd4⟩

set_option maxRecDepth 100000 in
theorem ceil_dyad_calls (w : World) (n : Bool) (B : Nat) (v : Value) (l : List Nat) (x k : Int) (h : Nums w B v l) (hl : l.length ≤ 9000) (hx0 : -9223372036854775808 ≤ x) (hx1 : x ≤ 9223372036854775807) :
    Calls Tryz.prog 56 #[.agg #[.bool n, v, .int .i64 x], .int .i64 k] w fun e w' => Below w.heap.size w w' ∧ RetZ w.heap.size (scC (cM (ival n (val W l)) x) (cE (ival n (val W l)) x + nearZ k)) e w' := by
  have h0 := h
  obtain ⟨A, cap, rfl, -, -, -, hc⟩ := h
  obtain ⟨W0, hW, hbx, hrs, hB0, hs⟩ := start2 w 34 25 #[.bool n, .slice A l.length cap, .int .i64 x] #[.bool false, .slice none 0 0]
  have h1 := h0.up hB0
  have hs2 : w.heap.size + 1 < W0.heap.size := by omega
  clear hs hc
  obtain ⟨c0, c1, c2, -, -, -⟩ := hbx.three
  go_enter Tryz.func56, Tryz.ntmps56
  go_upto_region 1 with (fail)
  rw [← hW]
  clear hW
  go_wp2_with fail
  refine (counts_calls _ n B _ l x h1 (by omega) hx0 hx1).mono ?_
  rintro e w1 ⟨hb1, m, u, d, rfl, hu, hdl, hdv⟩
  obtain ⟨q, HQ⟩ : ∃ q, Hid (cE (ival n (val W l)) x = q) := ⟨_, hide rfl⟩
  have hq := cE_bounds (ival n (val W l)) x
  obtain ⟨z, HZ⟩ : ∃ z, Hid (cM (ival n (val W l)) x = z) := ⟨_, hide rfl⟩
  rw [HQ.out] at hq ⊢
  rw [HZ.out] at hdv
  have HDV := hide hdv
  obtain ⟨A1, cap1, rfl⟩ := hu.form
  obtain ⟨w2, hW2, hbn, hB2, hs2'⟩ := start1 w1 25 #[.bool m, .slice A1 d.length cap1]
  clear hdv
  go_upto_region 2 with (fail)
  rw [← hW2]
  clear hW2
  obtain ⟨e0, e1, -, -⟩ := hbn.two
  have hu2 := hu.below hB2
  have s1 := hb1.size
  have hrs2 := (hrs.below hb1 (by omega)).below hB2 (by omega)
  have HB2 := hide ((hB0.trans (hb1.mono (by omega))).trans (hB2.mono (by omega)))
  obtain ⟨k', HK⟩ : ∃ k', Hid (nearZ k = k') := ⟨_, hide rfl⟩
  have hkb := nearZ_bounds k
  rw [HK.out] at hkb
  have hwk : IntKind.i64.wrap (q + k') = q + k' := IntWalk.i64_in _ (by omega)
  go_wp2_with fail
  refine (near_calls _ k).mono ?_
  rintro e w3 ⟨rfl, rfl⟩
  rw [HK.out]
  obtain ⟨e', HE'⟩ : ∃ e', Hid (q + k' = e') := ⟨_, hide rfl⟩
  have heb : -8000 ≤ e' ∧ e' ≤ 8000 := by have := HE'.out; omega
  clear hwk
  go_upto_region 3 with (fail)
  rw [HE'.out]
  by_cases hpos : 0 ≤ e'
  · obtain ⟨c, rfl⟩ := Int.eq_ofNat_of_zero_le hpos
    go_wp2_with fail
    obtain ⟨y, HY⟩ : ∃ y, Hid (z * 2 ^ c = y) := ⟨_, hide rfl⟩
    have HP := up_calls w2 m 0 _ d c hu2 (by omega) (by omega)
    rw [HDV.out, HY.out] at HP
    refine HP.mono ?_
    rintro e w4 ⟨hb4, u4, d4, rfl, hu4, hd4⟩
    have hrs4 := hrs2.below hb4 (by omega)
    obtain ⟨A4, cap4, rfl⟩ := hu4.form
    obtain ⟨j0, j1, j2, j3⟩ := hrs4.two
    clear HP
    go_wp2_with fail
    have s4 := hb4.size
    rw [HZ.out, HQ.out, HK.out, HE'.out, show scC z (c : Int) = y from by unfold scC; rw [if_pos hpos, Int.toNat_natCast, HY.out]]
    refine bodyPost_ret (results_int rfl _ _ _ _ _ _ rfl ((hrs4.set_ 0 _).set_ 1 _)) rfl ⟨below2 (HB2.out.trans (hb4.mono (by omega))) (by omega) _ _, ?_⟩
    exact ⟨_, d4, rfl, (nums_low2 hu4 (by omega) _ _).mono (by omega), hd4⟩
  · obtain ⟨c, hc⟩ : ∃ c : Nat, -e' = c := ⟨(-e').toNat, by omega⟩
    have hwn : IntKind.i64.wrap (-e') = (c : Int) := by rw [IntWalk.i64_in _ (by omega)]; exact hc
    have HC := hide hc
    have hcb : c ≤ 8000 := by omega
    clear hc
    go_wp2_with fail
    refine (zneg_calls _ m 0 _ d hu2 (by omega)).mono ?_
    obtain ⟨y, HY⟩ : ∃ y, Hid (-z = y) := ⟨_, hide rfl⟩
    rw [HDV.out, HY.out]
    rintro e w3 ⟨hb3, u3, d3, rfl, hu3, hd3⟩
    have hrs3 := hrs2.below hb3 (by omega)
    obtain ⟨A3, cap3, rfl⟩ := hu3.form
    have hl3 : d3.length ≤ l.length := Nat.le_trans (by
      rw [hd3.len, ← HY.out, Int.natAbs_neg, ← HDV.out]; exact natAbs_lt hu.lt) hdl
    have hv3 : ival (decide (y < 0)) (val W d3) = y := by rw [hd3.val, ival_self]
    have HV3 := hide hv3
    clear hv3
    have s3 := hb3.size
    go_wp2_with fail
    obtain ⟨y2, HY2⟩ : ∃ y2, Hid (y / 2 ^ c = y2) := ⟨_, hide rfl⟩
    have HP := down_calls w3 (decide (y < 0)) _ _ d3 c hu3 (by omega) (by omega)
    rw [HV3.out, HY2.out] at HP
    refine HP.mono ?_
    rintro e w4 ⟨hb4, u4, d4, rfl, hu4, hd4⟩
    have hrs4 := hrs3.below hb4 (by omega)
    obtain ⟨A4, cap4, rfl⟩ := hu4.form
    have hl4 : d4.length ≤ d3.length := by
      have := natAbs_lt (n := decide (y < 0)) hu3.lt
      rw [HV3.out] at this
      exact len_div2 (HY2.out ▸ hd4) this
    have hv4 : ival (decide (y2 < 0)) (val W d4) = y2 := by rw [hd4.val, ival_self]
    have HV4 := hide hv4
    clear hv4 HP
    have s4 := hb4.size
    go_wp2_with fail
    have HP := zneg_calls w4 (decide (y2 < 0)) _ _ d4 hu4 (by omega)
    obtain ⟨y3, HY3⟩ : ∃ y3, Hid (-y2 = y3) := ⟨_, hide rfl⟩
    rw [HV4.out, HY3.out] at HP
    refine HP.mono ?_
    rintro e w5 ⟨hb5, u5, d5, rfl, hu5, hd5⟩
    have hrs5 := hrs4.below hb5 (by omega)
    obtain ⟨A5, cap5, rfl⟩ := hu5.form
    obtain ⟨j0, j1, j2, j3⟩ := hrs5.two
    clear HP
    go_wp2_with fail
    have s5 := hb5.size
    rw [HZ.out, HQ.out, HK.out, HE'.out, show scC z e' = y3 from by unfold scC; rw [if_neg (by omega), HC.out, Int.toNat_natCast, HY.out, HY2.out, HY3.out]]
    refine bodyPost_ret (results_int rfl _ _ _ _ _ _ rfl ((hrs5.set_ 0 _).set_ 1 _)) rfl ⟨below2 (((HB2.out.trans (hb3.mono (by omega))).trans (hb4.mono (by omega))).trans (hb5.mono (by omega))) (by omega) _ _, ?_⟩
    exact ⟨_, d5, rfl, (nums_low2 hu5 (by omega) _ _).mono (by omega), hd5⟩
end Go.Proofs.YtnfbngiabdlclaaGreat
end
section
set_option linter.unusedVariables false
namespace Go.Proofs.YtnfbngiabdlclaaGreat
open Go.RowKit
open L (val dig nth)

theorem start4 (w : World) (t t' t'' t3 : TypeId) (a b c d : Array Value) : ∃ W0, W0 = (((w.alloc (.cells a t)).alloc (.cells b t')).alloc (.cells c t'')).alloc (.cells d t3) ∧ Blk W0 w.heap.size t a ∧ Blk W0 (w.heap.size + 1) t' b ∧
    Blk W0 (w.heap.size + 2) t'' c ∧ Blk W0 (w.heap.size + 3) t3 d ∧ Below w.heap.size w W0 ∧ W0.heap.size = w.heap.size + 4 := by
  obtain ⟨W1, h1, b1, b2, b3, hb, hs⟩ := start3 w t t' t'' a b c
  obtain ⟨W2, h2, b4, hb2, hs2⟩ := start1 W1 t3 d
  refine ⟨W2, by rw [h2, h1], b1.below hb2 (by omega), b2.below hb2 (by omega), b3.below hb2 (by omega), by rw [← hs]; exact b4, hb.trans (hb2.mono (by omega)), by omega⟩

/-- Two integers with one exponent are handed back. -/
def RetL (B : Nat) (X Y low : Int) (e : Ending) (w : World) : Prop :=
  ∃ u1 d1 u2 d2, e = .returned (.tuple #[.agg #[.bool (decide (X < 0)), u1], .agg #[.bool (decide (Y < 0)), u2], .int .i64 low]) ∧ Nums w B u1 d1 ∧ Canon d1 X.natAbs ∧ Nums w B u2 d2 ∧ Canon d2 Y.natAbs
/-- An integer raised from its exponent to a lower one. -/
def lift (z x low : Int) : Int := cM z x * 2 ^ (cE z x - low).toNat
def lowE (z x z' x' : Int) : Int := min (cE z x) (cE z' x')

end Go.Proofs.YtnfbngiabdlclaaGreat
end
section
set_option linter.unusedVariables false
namespace Go.Proofs.YtnfbngiabdlclaaGreat
open Go.RowKit
open L (val dig nth)

theorem cM_le (z x : Int) : (cM z x).natAbs ≤ z.natAbs := by unfold cM; split <;> simp
theorem lift_len {d : List Nat} {z x low : Int} {k : Nat} (hd : Canon d (lift z x low).natAbs) (hz : z.natAbs < W ^ k) (hlow : -4000 ≤ low) : d.length ≤ k + 125 := by
  have hb := cE_bounds z x
  exact len_mul2 (t := 125) hd (Nat.lt_of_le_of_lt (cM_le z x) hz) (by omega)
theorem lowE_bounds (z x z' x' : Int) : -4000 ≤ lowE z x z' x' ∧ lowE z x z' x' ≤ 4000 := by
  have := cE_bounds z x
  have := cE_bounds z' x'
  unfold lowE; omega
theorem two_lt {a b c k j : Nat} (h : a ≤ b + c) (hb : b < W ^ k) (hc : c < W ^ k) (hk : k < j) : a < W ^ j := by
  have h1 : W ^ (k + 1) ≤ W ^ j := Nat.pow_le_pow_right W_pos hk
  have h2 : 2 * W ^ k ≤ W ^ (k + 1) := by rw [Nat.pow_succ, Nat.mul_comm]; exact Nat.mul_le_mul_left _ W_gt
  omega

end Go.Proofs.YtnfbngiabdlclaaGreat
end

/- zed: Cmp, Shr, Of: integers. -/
import Derived.Test.YtnkembnachhicaaZed3
set_option linter.unusedVariables false
namespace Go.Proofs.Ytnkembnachhicaa
open Go.RowKit
open L (val dig nth)

theorem bdrewN {B : Nat} {a w : World} (h : Below B a w) (n : Nat) : Below B a (w.drewN n) := ⟨h.os, h.tape, h.output, h.size, h.block⟩

def cmpZ (x y : Int) : Int := if x < y then -1 else if y < x then 1 else 0
theorem sign_cases (x : Int) : x.sign = -1 ∧ x < 0 ∨ x.sign = 0 ∧ x = 0 ∨ x.sign = 1 ∧ 0 < x := by
  rcases Int.lt_trichotomy x 0 with h | h | h
  · exact .inl ⟨Int.sign_eq_neg_one_of_neg h, h⟩
  · exact .inr (.inl ⟨by rw [h]; rfl, h⟩)
  · exact .inr (.inr ⟨Int.sign_eq_one_of_pos h, h⟩)
theorem cmpZ_lt {x y : Int} (h : x.sign < y.sign) : cmpZ x y = -1 := by
  unfold cmpZ
  rcases sign_cases x with h1 | h1 | h1 <;> rcases sign_cases y with h2 | h2 | h2 <;> rw [if_pos] <;> omega
theorem cmpZ_gt {x y : Int} (h : y.sign < x.sign) : cmpZ x y = 1 := by
  unfold cmpZ
  rcases sign_cases x with h1 | h1 | h1 <;> rcases sign_cases y with h2 | h2 | h2 <;> (try omega) <;> rw [if_neg (by omega), if_pos (by omega)]
theorem cmpZ_same {x y : Int} (h : x.sign = y.sign) : cmpZ x y = x.sign * cmpN x.natAbs y.natAbs := by
  rcases sign_cases x with h1 | h1 | h1 <;> rcases sign_cases y with h2 | h2 | h2 <;> (try omega) <;> rw [h1.1] <;> unfold cmpZ cmpN <;>
    (repeat' split) <;> omega

theorem zsign_eq (w : World) (n : Bool) (B : Nat) (v : Value) (l : List Nat) (s : Int) (hs : (ival n (val W l)).sign = s) (h : Nums w B v l) (hl : l.length ≤ 60000) :
    Calls Try.prog 45 #[.agg #[.bool n, v]] w fun e w' => Below w.heap.size w w' ∧ e = .returned (.int .i64 s) := by
  rw [← hs]; exact zsign_calls w n B v l h hl

theorem zcmp_calls (w : World) (n m : Bool) (B C : Nat) (v u : Value) (p q : List Nat) (hp : Nums w B v p) (hq : Nums w C u q) (hpl : p.length ≤ 60000) (hql : q.length ≤ 60000) :
    Calls Try.prog 46 #[.agg #[.bool n, v], .agg #[.bool m, u]] w fun e w' => Below w.heap.size w w' ∧ e = .returned (.int .i64 (cmpZ (ival n (val W p)) (ival m (val W q)))) := by
  have hp0 := hp
  have hq0 := hq
  obtain ⟨A, cap, rfl, -, -, -, hcp⟩ := hp
  obtain ⟨A', cap', rfl, -, -, -, hcq⟩ := hq
  obtain ⟨W0, hW, hbx, hby, hB0, hs⟩ := start_20 w 24 (.bool n) (.slice A p.length cap) (.bool m) (.slice A' q.length cap')
  have hp1 := hp0.up hB0
  have hq1 := hq0.up hB0
  have HS := hide hs
  have hs2 : w.heap.size + 1 < W0.heap.size := by omega
  obtain ⟨sx, HX⟩ : ∃ sx, Hid ((ival n (val W p)).sign = sx) := ⟨_, hide rfl⟩
  obtain ⟨sy, HY⟩ : ∃ sy, Hid ((ival m (val W q)).sign = sy) := ⟨_, hide rfl⟩
  have hsx : sx = -1 ∨ sx = 0 ∨ sx = 1 := by
    have := HX.out
    rcases sign_cases (ival n (val W p)) with h1 | h1 | h1 <;> omega
  clear hs hcp hcq
  obtain ⟨c0, c1, -, -⟩ := hbx.two
  obtain ⟨c2, c3, -, -⟩ := hby.two
  go_enter Try.func46, Try.ntmps46
  go_upto_region 1 with (fail)
  rw [← hW]
  clear hW
  go_region_held3 (fun w' => w'.cell? ⟨w.heap.size, 0, none⟩ = some (.bool n) ∧ w'.cell? ⟨w.heap.size, 1, none⟩ = some (.slice A p.length cap) ∧ w'.cell? ⟨w.heap.size + 1, 0, none⟩ = some (.bool m) ∧ w'.cell? ⟨w.heap.size + 1, 1, none⟩ = some (.slice A' q.length cap')) (go_keep)
    (first
      | (go_at_call 45; (with_reducible refine (zsign_eq _ n B _ p sx HX.out hp1.drew hpl).mono ?_); rintro e w1 ⟨hb1, rfl⟩
         have hbx1 := hbx.drew.below hb1 (by simp; omega)
         have hby1 := hby.drew.below hb1 (by simp; omega)
         have hq2 := hq1.drew.below hb1
         have hp2 := hp1.drew.below hb1
         obtain ⟨e0, e1, -, -⟩ := hbx1.two
         obtain ⟨e2, e3, -, -⟩ := hby1.two)
      | (go_at_call 45; (with_reducible refine (zsign_eq _ m C _ q sy HY.out hq2 hql).mono ?_); rintro e w2 ⟨hb2, rfl⟩
         have hbx2 := hbx1.below hb2 hbx1.lt
         have hby2 := hby1.below hb2 hby1.lt
         have hq3 := hq2.below hb2
         have hp3 := hp2.below hb2
         obtain ⟨f0, f1, -, -⟩ := hbx2.two
         obtain ⟨f2, f3, -, -⟩ := hby2.two))
  have s1 := hb1.size
  have s2 := hb2.size
  simp at s1
  have hBB := ((hB0.drew.trans (hb1.mono (by simp; omega))).trans (hb2.mono (B' := w.heap.size) (by omega)))
  by_cases h1 : sx < sy
  · have HV : Hid (cmpZ (ival n (val W p)) (ival m (val W q)) = -1) := hide (cmpZ_lt (by rw [HX.out, HY.out]; exact h1))
    go_wp2_with fail
    go_ret
    exact ⟨hBB, ret_int HV.out.symm⟩
  · by_cases h2 : sy < sx
    · have HV : Hid (cmpZ (ival n (val W p)) (ival m (val W q)) = 1) := hide (cmpZ_gt (by rw [HX.out, HY.out]; exact h2))
      go_wp2_with fail
      go_ret
      exact ⟨hBB, ret_int HV.out.symm⟩
    · have HV : Hid (cmpZ (ival n (val W p)) (ival m (val W q)) = sx * cmpN (val W p) (val W q)) := hide (by
        rw [cmpZ_same (by rw [HX.out, HY.out]; omega), HX.out, ival_natAbs, ival_natAbs])
      go_wp2_with fail
      refine (cmp_calls _ B C _ _ p q hp3 hq3).mono ?_
      rintro e w3 ⟨hd, rfl⟩
      have hcb : -1 ≤ cmpN (val W p) (val W q) ∧ cmpN (val W p) (val W q) ≤ 1 := by unfold cmpN; (repeat' split) <;> omega
      obtain ⟨cc, HC⟩ : ∃ cc, Hid (cmpN (val W p) (val W q) = cc) := ⟨_, hide rfl⟩
      rw [HC.out] at hcb ⊢
      obtain ⟨hcb1, hcb2⟩ := hcb
      have hmul : IntKind.i64.wrap (sx * cc) = sx * cc := by
        rcases hsx with rfl | rfl | rfl <;> exact IntWalk.i64_in _ (by omega)
      go_wp2_with fail
      go_ret
      refine ⟨hBB.trans (hd.below _), ret_int ?_⟩
      rw [HV.out, HC.out]

theorem two_pow_int (k : Nat) : (0 : Int) < 2 ^ k := by rw [natpow]; have := Nat.two_pow_pos k; omega
theorem floor_pos (N k : Nat) : ival false (N / 2 ^ k) = ival false N / 2 ^ k := by simp only [ival]; rw [natpow]; norm_cast
theorem floor_neg0 (N k : Nat) (h : N / 2 ^ k * 2 ^ k = N) : ival true (N / 2 ^ k) = ival true N / 2 ^ k := by
  simp only [ival, if_true]
  generalize hq : N / 2 ^ k = q at *
  rw [← h, natpow, Int.natCast_mul, ← Int.neg_mul, Int.mul_ediv_cancel]
  have := Nat.two_pow_pos k
  omega
theorem floor_neg1 (N k : Nat) (h : N / 2 ^ k * 2 ^ k ≠ N) : ival true (N / 2 ^ k + 1) = ival true N / 2 ^ k := by
  simp only [ival, if_true]
  rw [natpow]
  have hp := Nat.two_pow_pos k
  have e := Nat.div_add_mod N (2 ^ k)
  have hm := Nat.mod_lt N hp
  generalize N / 2 ^ k = q at *
  generalize N % 2 ^ k = r at *
  generalize 2 ^ k = X at *
  have hr : 0 < r := by
    rcases Nat.eq_zero_or_pos r with h0 | h0
    · subst h0; rw [Nat.add_zero, Nat.mul_comm] at e; omega
    · exact h0
  have e2 : (N : Int) = X * q + r := by rw [← e]; norm_cast
  symm
  rw [e2]
  rw [Int.ediv_eq_iff_of_pos (by omega)]
  constructor <;> push_cast <;> grind

set_option maxHeartbeats 800000 in
theorem zshr_calls (w : World) (n : Bool) (B : Nat) (v : Value) (l : List Nat) (k : Int) (h : Nums w B v l) (hl : l.length ≤ 50000) (hk0 : -9223372036854775808 ≤ k) (hk1 : k ≤ 9223372036854775807) :
    Calls Try.prog 92 #[.agg #[.bool n, v], .int .i64 k] w fun e w' => Below w.heap.size w w' ∧ RetZ w.heap.size (ival n (val W l) / 2 ^ clampN k) e w' := by
  have h0 := h
  obtain ⟨A, cap, rfl, -, -, -, hc⟩ := h
  obtain ⟨W0, hW, hbx, hrs, hB0, hs⟩ := start_11 w 24 24 (.bool n) (.slice A l.length cap) (.bool false) (.slice none 0 0)
  have h1 := h0.up hB0
  have HS := hide hs
  have hs2 : w.heap.size + 1 < W0.heap.size := by omega
  clear hs hc
  obtain ⟨c0, c1, -, -⟩ := hbx.two
  go_enter Try.func92, Try.ntmps92
  go_upto_region 1 with (fail)
  rw [← hW]
  clear hW
  go_wp2_with fail
  refine (shr_calls _ B _ l k h1 (by omega) hk0 hk1).mono ?_
  rintro e w1 ⟨hb1, u, d, rfl, hu, hd⟩
  have hdl : d.length ≤ l.length := by
    rw [hd.len]
    exact Nat.lt_of_le_of_lt (Nat.div_le_self _ _) (L.val_lt l h0.lt)
  obtain ⟨A1, cap1, rfl⟩ := hu.form
  have hbx1 := hbx.below hb1 hbx.lt
  have hrs1 := hrs.below hb1 hrs.lt
  have h2 := h1.below hb1
  have s1 := hb1.size
  cases n with
  | false =>
    obtain ⟨e0, e1, -, -⟩ := hbx1.two
    go_wp2_with fail
    go_quiet (fail)
    go_wp2_with fail
    refine (made_calls _ false _ _ d (hu.drewN _)).mono ?_
    rintro e w2 ⟨hb2, rfl⟩
    have hrs2 := (hrs1.drewN _).below hb2 hrs1.lt
    obtain ⟨g0, g1, g2, g3⟩ := hrs2.two
    go_wp2_with fail
    have s2 := hb2.size
    have s0 := HS.out
    simp at s2
    refine bodyPost_ret (results_int rfl _ _ _ _ _ _ rfl ((hrs2.set_ 0 _).set_ 1 _)) rfl ⟨below2 ((bdrewN (hB0.trans (hb1.mono (by omega))) _).trans (hb2.mono (by simp; omega))) (by omega) _ _, ?_⟩
    exact (retZ (by omega) (by omega) ((hu.drewN _).below hb2) hd _ _).of (floor_pos _ _)
  | true =>
    obtain ⟨e0, e1, -, -⟩ := hbx1.two
    by_cases heq : val W l / 2 ^ clampN k * 2 ^ clampN k = val W l
    · have HQ := hide heq
      have HC : Hid (cmpN (val W l / 2 ^ clampN k * 2 ^ clampN k) (val W l) = 0) := hide (cmpN_eq heq)
      clear heq
      go_wp2_with fail
      go_region_held3 (fun w' => w'.cell? ⟨w.heap.size, 0, none⟩ = some (.bool true) ∧ w'.cell? ⟨w.heap.size, 1, none⟩ = some (.slice A l.length cap)) (go_keep)
        (first
          | (go_at_call 89; refine (shl_calls _ _ _ d k hu.drew (by omega) hk0 hk1).mono ?_; rintro e w2 ⟨hb2, u2, d2, rfl, hu2, hd2⟩
             obtain ⟨A2, cap2, rfl⟩ := hu2.form
             have hbx2 := hbx1.drew.below hb2 hbx1.lt
             have hrs2 := hrs1.drew.below hb2 hrs1.lt
             have hu1' := hu.drew.below hb2
             have h3 := h2.drew.below hb2
             obtain ⟨f0, f1, -, -⟩ := hbx2.two)
          | (go_at_call 80; refine (cmp_calls _ _ B _ _ d2 l hu2 h3).mono ?_; rintro e w3 ⟨hdr, rfl⟩
             have hb3 := hdr.below w2.heap.size
             rw [hd2.val, hd.val, HC.out]
             have hbx3 := hbx2.below hb3 hbx2.lt
             have hrs3 := hrs2.below hb3 hrs2.lt
             have hu3 := hu1'.below hb3
             obtain ⟨f2, f3, -, -⟩ := hbx3.two))
      go_wp2_with fail
      refine (made_calls _ true _ _ d hu3).mono ?_
      rintro e w4 ⟨hb4, rfl⟩
      have hrs4 := hrs3.below hb4 hrs3.lt
      obtain ⟨g0, g1, g2, g3⟩ := hrs4.two
      go_wp2_with fail
      have s2 := hb2.size
      have s3 := hb3.size
      have s4 := hb4.size
      have s0 := HS.out
      simp at s2
      refine bodyPost_ret (results_int rfl _ _ _ _ _ _ rfl ((hrs4.set_ 0 _).set_ 1 _)) rfl ⟨below2 ((((hB0.trans (hb1.mono (by omega))).drew.trans (hb2.mono (by simp; omega))).trans (hb3.mono (by omega))).trans (hb4.mono (by omega))) (by omega) _ _, ?_⟩
      exact (retZ (by omega) (by omega) (hu3.below hb4) hd _ _).of (floor_neg0 _ _ HQ.out)
    · have HQ := hide heq
      obtain ⟨cc, HC, hcc⟩ : ∃ cc, Hid (cmpN (val W l / 2 ^ clampN k * 2 ^ clampN k) (val W l) = cc) ∧ (cc != 0) = true := by
        refine ⟨_, hide rfl, ?_⟩
        rw [bne_iff_ne]
        unfold cmpN
        (repeat' split) <;> omega
      clear heq
      go_wp2_with fail
      go_region_held3 (fun w' => w'.cell? ⟨w.heap.size, 0, none⟩ = some (.bool true) ∧ w'.cell? ⟨w.heap.size, 1, none⟩ = some (.slice A l.length cap)) (go_keep)
        (first
          | (go_at_call 89; refine (shl_calls _ _ _ d k hu.drew (by omega) hk0 hk1).mono ?_; rintro e w2 ⟨hb2, u2, d2, rfl, hu2, hd2⟩
             obtain ⟨A2, cap2, rfl⟩ := hu2.form
             have hbx2 := hbx1.drew.below hb2 hbx1.lt
             have hrs2 := hrs1.drew.below hb2 hrs1.lt
             have hu1' := hu.drew.below hb2
             have h3 := h2.drew.below hb2
             obtain ⟨f0, f1, -, -⟩ := hbx2.two)
          | (go_at_call 80; refine (cmp_calls _ _ B _ _ d2 l hu2 h3).mono ?_; rintro e w3 ⟨hdr, rfl⟩
             have hb3 := hdr.below w2.heap.size
             rw [hd2.val, hd.val, HC.out]
             have hbx3 := hbx2.below hb3 hbx2.lt
             have hrs3 := hrs2.below hb3 hrs2.lt
             have hu3 := hu1'.below hb3
             obtain ⟨f2, f3, -, -⟩ := hbx3.two))
      go_wp2_with fail
      refine (add_calls _ _ 0 _ _ d [1] (hu3.alloc _) (Nums.one w3 1 1 rfl (by unfold W; omega)) (by omega) (by simp)).mono ?_
      rintro e w4 ⟨hb4, u4, d4, rfl, hu4, hd4⟩
      obtain ⟨A4, cap4, rfl⟩ := hu4.form
      have hbx4 := (hbx3.alloc (.cells #[.int .u64 1] 32)).below hb4 (by have := hbx3.lt; simp; omega)
      have hrs4 := (hrs3.alloc (.cells #[.int .u64 1] 32)).below hb4 (by have := hrs3.lt; simp; omega)
      obtain ⟨k0, k1, -, -⟩ := hbx4.two
      have e1v : L.val W [1] = 1 := by simp [L.val]
      rw [hd.val, e1v] at hd4
      go_wp2_with fail
      refine (made_calls _ true _ _ d4 hu4).mono ?_
      rintro e w5 ⟨hb5, rfl⟩
      have hrs5 := hrs4.below hb5 hrs4.lt
      obtain ⟨g0, g1, g2, g3⟩ := hrs5.two
      go_wp2_with fail
      have s2 := hb2.size
      have s3 := hb3.size
      have s4 := hb4.size
      have s5 := hb5.size
      have s0 := HS.out
      simp at s2 s4
      refine bodyPost_ret (results_int rfl _ _ _ _ _ _ rfl ((hrs5.set_ 0 _).set_ 1 _)) rfl ⟨below2 ((((((hB0.trans (hb1.mono (by omega))).drew.trans (hb2.mono (by simp; omega))).trans (hb3.mono (by omega))).alloc (by omega) _).trans (hb4.mono (by simp; omega))).trans (hb5.mono (by omega))) (by omega) _ _, ?_⟩
      exact (retZ (by simp; omega) (by simp; omega) (hu4.below hb5) hd4 _ _).of (floor_neg1 _ _ HQ.out)

theorem zof_calls (w : World) (n : Int) (hn0 : -9223372036854775808 ≤ n) (hn1 : n ≤ 9223372036854775807) :
    Calls Try.prog 47 #[.int .i64 n] w fun e w' => Below w.heap.size w w' ∧ RetZ w.heap.size n e w' := by
  obtain ⟨W0, hW⟩ : ∃ W0, W0 = w.alloc (.cells #[.bool false, .slice none 0 0] 24) := ⟨_, rfl⟩
  have hrs : Blk W0 w.heap.size 24 #[.bool false, .slice none 0 0] := by rw [hW]; exact Blk.new _ _ _
  have hB0 : Below w.heap.size w W0 := by rw [hW]; exact (Below.refl _ _).alloc (Nat.le_refl _) _
  have HS : Hid (W0.heap.size = w.heap.size + 1) := hide (by rw [hW]; simp)
  by_cases hneg : n < 0
  · have e1 : IntKind.u64.wrap (-(IntKind.u64.wrap n)) = ((n.natAbs : Nat) : Int) := by
      rw [IntKind.wrap_u64, IntKind.wrap_u64]; omega
    have E1 := hide e1
    have hw : n.natAbs < W := by unfold W; omega
    have HD : Hid (decide (n < 0) = true) := hide (by simp [hneg])
    clear e1
    go_enter Try.func47, Try.ntmps47
    go_upto_region 1 with (fail)
    rw [← hW]
    clear hW
    go_wp2_with fail
    refine (norm_calls _ 0 _ [n.natAbs] (Nums.one W0 _ _ E1.out hw) (by simp)).mono ?_
    rintro e w1 ⟨hb1, u, d, rfl, hu, hd⟩
    obtain ⟨A1, cap1, rfl⟩ := hu.form
    have hrs1 := (hrs.alloc _).below hb1 (by have := hrs.lt; simp; omega)
    have e1v : L.val W [n.natAbs] = n.natAbs := by simp [L.val]
    rw [e1v] at hd
    go_wp2_with fail
    refine (made_calls _ true _ _ d hu).mono ?_
    rintro e w2 ⟨hb2, rfl⟩
    have hrs2 := hrs1.below hb2 hrs1.lt
    obtain ⟨g0, g1, g2, g3⟩ := hrs2.two
    go_wp2_with fail
    have s1 := hb1.size
    have s2 := hb2.size
    have s0 := HS.out
    simp at s1
    refine bodyPost_ret (results_int rfl _ _ _ _ _ _ rfl ((hrs2.set_ 0 _).set_ 1 _)) rfl ⟨below2 (((hB0.alloc (by omega) _).trans (hb1.mono (by simp; omega))).trans (hb2.mono (by omega))) (by omega) _ _, ?_⟩
    refine RetZ.of (z := ival true n.natAbs) (retZ (by simp; omega) (by simp; omega) (hu.below hb2) hd _ _) ?_
    simp only [ival, if_true]; omega
  · have e1 : IntKind.u64.wrap n = ((n.natAbs : Nat) : Int) := by
      rw [IntKind.wrap_u64]; omega
    have E1 := hide e1
    have e2 : n = ((n.natAbs : Nat) : Int) := by omega
    have E2 := hide e2
    have hw : n.natAbs < W := by unfold W; omega
    clear e1 e2
    go_enter Try.func47, Try.ntmps47
    go_upto_region 1 with (fail)
    rw [← hW]
    clear hW
    go_wp2_with fail
    refine (norm_calls _ 0 _ [n.natAbs] (Nums.one W0 _ _ E2.out hw) (by simp)).mono ?_
    rintro e w1 ⟨hb1, u, d, rfl, hu, hd⟩
    obtain ⟨A1, cap1, rfl⟩ := hu.form
    have hrs1 := (hrs.alloc _).below hb1 (by have := hrs.lt; simp; omega)
    have e1v : L.val W [n.natAbs] = n.natAbs := by simp [L.val]
    rw [e1v] at hd
    go_wp2_with fail
    refine (made_calls _ false _ _ d hu).mono ?_
    rintro e w2 ⟨hb2, rfl⟩
    have hrs2 := hrs1.below hb2 hrs1.lt
    obtain ⟨g0, g1, g2, g3⟩ := hrs2.two
    go_wp2_with fail
    have s1 := hb1.size
    have s2 := hb2.size
    have s0 := HS.out
    simp at s1
    refine bodyPost_ret (results_int rfl _ _ _ _ _ _ rfl ((hrs2.set_ 0 _).set_ 1 _)) rfl ⟨below2 (((hB0.alloc (by omega) _).trans (hb1.mono (by simp; omega))).trans (hb2.mono (by omega))) (by omega) _ _, ?_⟩
    refine RetZ.of (z := ival false n.natAbs) (retZ (by simp; omega) (by simp; omega) (hu.below hb2) hd _ _) ?_
    simp [ival]; omega
end Go.Proofs.Ytnkembnachhicaa

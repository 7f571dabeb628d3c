/- The document's integers: Sub Shr. -/
import Derived.Test.YtnkembnachhicaaZr2
set_option linter.unusedVariables false
set_option linter.unusedSimpArgs false
namespace Go.Proofs.Ytnkembnachhicaa
open Go.RowKit
open L (val dig nth)

theorem zsubR_calls (w : World) (n m : Bool) (B C : Nat) (v u : Value) (p q : List Nat) (hp : Nums w B v p) (hq : Nums w C u q) (hpl : p.length ≤ 60000) (hql : q.length ≤ 60000) :
    Calls Try.prog 86 #[.agg #[.bool n, v], .agg #[.bool m, u]] w fun e w' => Below w.heap.size w w' ∧ RetZ w.heap.size (ival n (val W p) - ival m (val W q)) e w' := by
  have hp0 := hp
  have hq0 := hq
  have HLQ := hide hq.lt
  obtain ⟨A, cap, rfl, -, -, -, hcp⟩ := hp
  obtain ⟨A', cap', rfl, -, -, -, hcq⟩ := hq
  obtain ⟨W0, hW, hbx, hby, hrs, hB0, hs⟩ := start_21 w 24 24 (.bool n) (.slice A p.length cap) (.bool m) (.slice A' q.length cap') (.bool false) (.slice none 0 0)
  have hp1 := hp0.up hB0
  have hq1 := hq0.up hB0
  have hs2 : w.heap.size + 2 < W0.heap.size := by omega
  have hn1 : ¬ (w.heap.size = w.heap.size + 1 + 1) := by omega
  have hn2 : ¬ (w.heap.size + 1 + 1 = w.heap.size) := by omega
  clear hs hcp hcq
  obtain ⟨c0, c1, -, -⟩ := hbx.two
  obtain ⟨c2, c3, -, -⟩ := hby.two
  obtain ⟨Y, HY⟩ : ∃ z, Hid (-ival m (val W q) = z) := ⟨_, hide rfl⟩
  have HPN := znegR_calls W0.drew m C _ q hq1.drew (by omega)
  rw [HY.out] at HPN
  have HPN := hide HPN
  have hYl : Hid (Y.natAbs < W ^ q.length) := hide (by rw [← HY.out, Int.natAbs_neg]; exact natAbs_lt HLQ.out)
  have HR : Hid (ival n (val W p) + Y = ival n (val W p) - ival m (val W q)) := hide (by rw [← HY.out]; omega)
  go_enter Try.func86, Try.ntmps86
  go_wp2_with fail
  rw [← hW]
  clear hW
  go_region_held3 (fun w' => w'.cell? ⟨w.heap.size, 0, none⟩ = some (.bool n) ∧ w'.cell? ⟨w.heap.size, 1, none⟩ = some (.slice A p.length cap) ∧ w'.cell? ⟨w.heap.size + 1, 0, none⟩ = some (.bool m) ∧ w'.cell? ⟨w.heap.size + 1, 1, none⟩ = some (.slice A' q.length cap')) (go_keep)
    (first
      | (go_at_call 72; (with_reducible refine HPN.out.mono ?_); rintro e w1 ⟨hb1, uu, d, rfl, hu, hd⟩
         obtain ⟨A1, cap1, rfl⟩ := hu.form
         have hdl : d.length ≤ q.length := by rw [hd.len]; exact hYl.out
         have hbx1 := hbx.drew.below hb1 hbx.lt
         have hby1 := hby.drew.below hb1 hby.lt
         have hrs1 := hrs.drew.below hb1 hrs.lt
         have hp2 := hp1.drew.below hb1
         have HV := hide (show ival (decide (Y < 0)) (val W d) = Y from by rw [hd.val, ival_self])
         have HB1 := hide (hB0.drew.trans (hb1.mono hB0.size))
         obtain ⟨e0, e1, -, -⟩ := hbx1.two
         obtain ⟨e2, e3, -, -⟩ := hby1.two
         have HPA := zaddR_calls w1 n (decide (Y < 0)) B _ _ _ p d hp2 hu hpl (by omega)
         rw [HV.out, HR.out] at HPA
         have HPA := hide HPA)
      | (go_at_call 84; (with_reducible refine HPA.out.mono ?_); rintro e w2 ⟨hb2, u2, d2, rfl, hu2, hd2⟩
         obtain ⟨A2, cap2, rfl⟩ := hu2.form
         have hbx2 := hbx1.below hb2 hbx1.lt
         have hby2 := hby1.below hb2 hby1.lt
         have hrs2 := hrs1.below hb2 hrs1.lt
         have HB2 := hide (HB1.out.trans (hb2.mono HB1.out.size))
         obtain ⟨f0, f1, -, -⟩ := hbx2.two
         obtain ⟨f2, f3, -, -⟩ := hby2.two
         obtain ⟨g0, g1, g2, g3⟩ := hrs2.two))
  go_wp2_with fail
  have s1 := hb1.size
  have s2 := hb2.size
  simp at s1
  refine bodyPost_ret (results_int rfl _ _ _ _ _ _ rfl ((hrs2.set_ 0 _).set_ 1 _)) rfl ⟨below2 HB2.out (by omega) _ _, ?_⟩
  exact retZ2 (by omega) (by omega) hu2 hd2 _ _

theorem pow_lt_W {c t : Nat} (h : c < 64 * t) : 2 ^ c < W ^ t := Nat.lt_of_lt_of_le (Nat.pow_lt_pow_right (by omega) h) (pow_le_W (Nat.le_refl _))
theorem floorR (N k : Nat) : ival true ((N + (2 ^ k - 1)) / 2 ^ k) = ival true N / 2 ^ k := by
  have h2 := Nat.two_pow_pos k
  by_cases h : N / 2 ^ k * 2 ^ k = N
  · rw [← floor_neg0 N k h]
    congr 1
    have : N + (2 ^ k - 1) = (2 ^ k - 1) + 2 ^ k * (N / 2 ^ k) := by rw [Nat.mul_comm (2 ^ k), h]; omega
    rw [this, Nat.add_mul_div_left _ _ h2, Nat.div_eq_of_lt (by omega)]; omega
  · rw [← floor_neg1 N k h]
    congr 1
    have h1 := Nat.div_add_mod N (2 ^ k)
    have h3 := Nat.mod_lt N h2
    have h4 : N % 2 ^ k ≠ 0 := by intro h0; apply h; rw [Nat.mul_comm]; omega
    have : N + (2 ^ k - 1) = (N % 2 ^ k - 1) + 2 ^ k * (N / 2 ^ k + 1) := by rw [Nat.mul_add]; omega
    rw [this, Nat.add_mul_div_left _ _ h2, Nat.div_eq_of_lt (by omega)]; omega

set_option maxRecDepth 100000 in
theorem zshrR_calls (w : World) (n : Bool) (B : Nat) (v : Value) (l : List Nat) (k : Int) (h : Nums w B v l) (hl : l.length ≤ 60000) (hk0 : -9223372036854775808 ≤ k) (hk1 : k ≤ 9223372036854775807) :
    Calls Try.prog 93 #[.agg #[.bool n, v], .int .i64 k] w fun e w' => Below w.heap.size w w' ∧ RetZ w.heap.size (ival n (val W l) / 2 ^ clampN k) e w' := by
  have h0 := h
  have HLT := hide h.lt
  obtain ⟨A, cap, rfl, -, -, -, hc⟩ := h
  obtain ⟨W0, hW, hbx, hrs, hB0, hs⟩ := start_11 w 24 24 (.bool n) (.slice A l.length cap) (.bool false) (.slice none 0 0)
  have h1 := h0.up hB0
  have hs2 : w.heap.size + 1 < W0.heap.size := by omega
  clear hs hc
  obtain ⟨c0, c1, -, -⟩ := hbx.two
  obtain ⟨z, HZ⟩ : ∃ z, Hid (ival n (val W l) = z) := ⟨_, hide rfl⟩
  have hzl : Hid (z.natAbs < W ^ l.length) := hide (by rw [← HZ.out]; exact natAbs_lt HLT.out)
  have HP := znormR_calls W0 n B _ l h1 (by omega)
  rw [HZ.out] at HP ⊢
  have hck := clampN_le k
  obtain ⟨c, HC⟩ : ∃ c, Hid (clampN k = c) := ⟨_, hide rfl⟩
  rw [HC.out] at hck ⊢
  obtain ⟨R, HR⟩ : ∃ z', Hid (z / 2 ^ c = z') := ⟨_, hide rfl⟩
  rw [HR.out]
  go_enter Try.func93, Try.ntmps93
  go_upto_region 1 with (fail)
  rw [← hW]
  clear hW
  go_wp2_with fail
  refine HP.mono ?_
  rintro e w1 ⟨hb1, u, d, rfl, hu, hd⟩
  obtain ⟨A1, cap1, rfl⟩ := hu.form
  clear HP c0 c1
  have hdl : d.length ≤ l.length := by rw [hd.len]; exact hzl.out
  have hbx1 := hbx.below hb1 hbx.lt
  have hrs1 := hrs.below hb1 hrs.lt
  have s1 := hb1.size
  obtain ⟨g0, g1, g2, g3⟩ := hbx1.two
  obtain ⟨w2, hW2, hbx2, hf2, hk2, hs3, hB2⟩ := set2_all hbx1 (.bool (decide (z < 0))) (.slice A1 d.length cap1)
  have hrs2 := hf2 _ _ _ (by omega) hrs1
  have hu2 := hk2 _ _ _ (by omega) hu
  have HB2 := hide (hB2 _ _ (hB0.trans (hb1.mono hB0.size)) (Nat.le_refl _))
  have HV := hide hd.val
  clear hB2 hk2 hf2
  go_upto_region 2 with (fail)
  rw [← hW2]
  clear hW2 g0 g1 g2 g3
  have hs4 : w.heap.size + 1 < w2.heap.size := by omega
  have hle12 : w1.heap.size ≤ w2.heap.size := by omega
  clear hs3
  by_cases hn : z < 0
  · have d1 : decide (z < 0) = true := decide_eq_true hn
    have HRR : Hid (ival true ((z.natAbs + (2 ^ c - 1)) / 2 ^ c) = R) := hide (by rw [floorR, ← HR.out]; congr 1; have := ival_self z; rwa [d1] at this)
    rw [d1] at hbx2
    clear hn d1
    obtain ⟨e0, e1, -, -⟩ := hbx2.two
    go_wp2_with fail
    have hone := Nums.one w2 1 1 rfl (by unfold W; omega)
    have HP := shlR_calls _ 0 _ [1] k hone (by simp) hk0 hk1
    rw [HC.out, show val W [1] = 1 from by simp [L.val], Nat.one_mul] at HP
    refine HP.mono ?_
    rintro e w3 ⟨hb3, u3, d3, rfl, hu3, hd3⟩
    obtain ⟨A3, cap3, rfl⟩ := hu3.form
    clear HP hone
    have hB3 := ((Below.refl w2.heap.size w2).alloc (Nat.le_refl _) (.cells #[.int .u64 1] 32)).trans (hb3.mono (by simp))
    have hd3l : d3.length ≤ 129 := by rw [hd3.len]; exact pow_lt_W (by omega)
    have hu4 := hu2.below hB3
    have hbx3 := hbx2.below hB3 hbx2.lt
    have hrs3 := hrs2.below hB3 hrs2.lt
    have HB3 := hide (HB2.out.trans (hB3.mono HB2.out.size))
    have s3 := hB3.size
    have HV3 := hide hd3.val
    go_wp2_with fail
    have hone := Nums.one w3 1 1 rfl (by unfold W; omega)
    have HP := subR_calls _ _ 0 _ _ d3 [1] (hu3.alloc (.cells #[.int .u64 1] 32)) hone (by omega) (by simp) (by rw [HV3.out]; simp [L.val]; exact Nat.one_le_two_pow)
    rw [HV3.out, show val W [1] = 1 from by simp [L.val]] at HP
    refine HP.mono ?_
    rintro e w4 ⟨hb4, uu, d4, rfl, hu5, hd5⟩
    obtain ⟨A4, cap4, rfl⟩ := hu5.form
    clear HP hone
    have hB4 := ((Below.refl w3.heap.size w3).alloc (Nat.le_refl _) (.cells #[.int .u64 1] 32)).trans (hb4.mono (by simp))
    have hd5l : d4.length ≤ 129 := by rw [hd5.len]; exact Nat.lt_of_le_of_lt (Nat.sub_le _ _) (pow_lt_W (by omega))
    have hu6 := hu4.below hB4
    have hbx4 := hbx3.below hB4 hbx3.lt
    have hrs4 := hrs3.below hB4 hrs3.lt
    have HB4 := hide (HB3.out.trans (hB4.mono HB3.out.size))
    have s4 := hB4.size
    have HV5 := hide hd5.val
    obtain ⟨i0, i1, -, -⟩ := hbx4.two
    have hL : ∀ x ∈ d, x < W := hu6.lt
    have hL5 : ∀ x ∈ d4, x < W := hu5.lt
    have HLL := hide hL
    have HL5 := hide hL5
    clear hL hL5
    go_wp2_with fail
    refine (addR_calls _ _ _ _ _ d d4 hu6 hu5 (by omega) (by omega)).mono ?_
    rintro e w5 ⟨hb5, u5, d6, rfl, hu7, hd6⟩
    obtain ⟨A6, cap6, rfl⟩ := hu7.form
    have hd6l := sum_len (k := 60129) hd6 HLL.out HL5.out (by omega) (by omega)
    have hrs5 := hrs4.below hb5 hrs4.lt
    have HB5 := hide (HB4.out.trans (hb5.mono HB4.out.size))
    have s5 := hb5.size
    have HP := shrR_calls w5 _ _ d6 k hu7 (by omega) hk0 hk1
    rw [HC.out, hd6.val, HV.out, HV5.out] at HP
    go_wp2_with fail
    refine HP.mono ?_
    rintro e w6 ⟨hb6, u6, d7, rfl, hu8, hd7⟩
    obtain ⟨A7, cap7, rfl⟩ := hu8.form
    clear HP
    have hd7l : d7.length ≤ 60130 := by
      have h2 := hd6.len (m := 60130)
      rw [HV.out, HV5.out] at h2
      rw [hd7.len]
      exact Nat.lt_of_le_of_lt (Nat.div_le_self _ _) (h2.1 (by omega))
    have hrs6 := hrs5.below hb6 hrs5.lt
    have HB6 := hide (HB5.out.trans (hb6.mono HB5.out.size))
    have s6 := hb6.size
    have HP := makeR_calls w6 true _ _ d7 hu8 (by omega)
    rw [hd7.val, HRR.out] at HP
    go_wp2_with fail
    refine HP.mono ?_
    rintro e w7 ⟨hb7, u7, d8, rfl, hu9, hd8⟩
    obtain ⟨A8, cap8, rfl⟩ := hu9.form
    clear HP
    have hrs7 := hrs6.below hb7 hrs6.lt
    have HB7 := hide (HB6.out.trans (hb7.mono HB6.out.size))
    obtain ⟨g0, g1, g2, g3⟩ := hrs7.two
    go_wp2_with fail
    refine bodyPost_ret (results_int rfl _ _ _ _ _ _ rfl ((hrs7.set_ 0 _).set_ 1 _)) rfl ⟨below2 HB7.out (by omega) _ _, ?_⟩
    exact retZ2 (by omega) (by omega) hu9 hd8 _ _
  · have d1 : decide (z < 0) = false := decide_eq_false hn
    have HRR : Hid (ival false (z.natAbs / 2 ^ c) = R) := hide (by rw [floor_pos, ← HR.out]; congr 1; have := ival_self z; rwa [d1] at this)
    rw [d1] at hbx2
    clear hn d1
    obtain ⟨e0, e1, -, -⟩ := hbx2.two
    have HP := shrR_calls w2 _ _ d k hu2 (by omega) hk0 hk1
    rw [HC.out, HV.out] at HP
    go_wp2_with fail
    refine HP.mono ?_
    rintro e w6 ⟨hb6, u6, d7, rfl, hu8, hd7⟩
    obtain ⟨A7, cap7, rfl⟩ := hu8.form
    clear HP
    have hd7l : d7.length ≤ l.length := by rw [hd7.len]; exact Nat.lt_of_le_of_lt (Nat.div_le_self _ _) hzl.out
    have hrs6 := hrs2.below hb6 hrs2.lt
    have HB6 := hide (HB2.out.trans (hb6.mono HB2.out.size))
    have s6 := hb6.size
    have HP := makeR_calls w6 false _ _ d7 hu8 (by omega)
    rw [hd7.val, HRR.out] at HP
    go_wp2_with fail
    refine HP.mono ?_
    rintro e w7 ⟨hb7, u7, d8, rfl, hu9, hd8⟩
    obtain ⟨A8, cap8, rfl⟩ := hu9.form
    clear HP
    have hrs7 := hrs6.below hb7 hrs6.lt
    have HB7 := hide (HB6.out.trans (hb7.mono HB6.out.size))
    obtain ⟨g0, g1, g2, g3⟩ := hrs7.two
    go_wp2_with fail
    refine bodyPost_ret (results_int rfl _ _ _ _ _ _ rfl ((hrs7.set_ 0 _).set_ 1 _)) rfl ⟨below2 HB7.out (by omega) _ _, ?_⟩
    exact retZ2 (by omega) (by omega) hu9 hd8 _ _
end Go.Proofs.Ytnkembnachhicaa

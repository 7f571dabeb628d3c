/- zed: Mul, Add, Sub, Cmp, Shr, Of: integers. -/
import Derived.Test.YtnkembnachhicaaZed2
set_option linter.unusedVariables false
namespace Go.Proofs.Ytnkembnachhicaa
open Go.RowKit
open L (val dig nth)

theorem zmul_calls (w : World) (n m : Bool) (B C : Nat) (v u : Value) (p q : List Nat) (hp : Nums w B v p) (hq : Nums w C u q) (hpl : p.length ≤ 60000) (hql : q.length ≤ 60000) :
    Calls Try.prog 87 #[.agg #[.bool n, v], .agg #[.bool m, u]] w fun e w' => Below w.heap.size w w' ∧ RetZ w.heap.size (ival n (val W p) * ival m (val W q)) e w' := by
  have hp0 := hp
  have hq0 := hq
  obtain ⟨A, cap, rfl, -, -, -, hcp⟩ := hp
  obtain ⟨A', cap', rfl, -, -, -, hcq⟩ := hq
  obtain ⟨W0, hW, hbx, hby, hrs, hB0, hs⟩ := start_21 w 24 24 (.bool n) (.slice A p.length cap) (.bool m) (.slice A' q.length cap') (.bool false) (.slice none 0 0)
  have hp1 := hp0.up hB0
  have hq1 := hq0.up hB0
  have HS := hide hs
  have hs2 : w.heap.size + 2 < W0.heap.size := by omega
  have hn1 : ¬ (w.heap.size = w.heap.size + 1 + 1) := by omega
  have hn2 : ¬ (w.heap.size + 1 + 1 = w.heap.size) := by omega
  clear hs hcp hcq
  go_enter Try.func87, Try.ntmps87
  go_wp2_with fail
  rw [← hW]
  clear hW
  obtain ⟨c0, c1, -, -⟩ := hbx.two
  obtain ⟨c2, c3, -, -⟩ := hby.two
  go_region_held3 (fun w' => w'.cell? ⟨w.heap.size, 0, none⟩ = some (.bool n) ∧ w'.cell? ⟨w.heap.size, 1, none⟩ = some (.slice A p.length cap) ∧ w'.cell? ⟨w.heap.size + 1, 0, none⟩ = some (.bool m) ∧ w'.cell? ⟨w.heap.size + 1, 1, none⟩ = some (.slice A' q.length cap')) (go_keep)
    (first
      | (go_at_call 106; refine (mul_calls _ B C _ _ p q hp1.drew hq1.drew hpl hql).mono ?_; rintro e w1 ⟨hb1, uu, d, rfl, hu, hd⟩
         obtain ⟨A1, cap1, rfl⟩ := hu.form
         have hbx1 := hbx.drew.below hb1 (by simp; omega)
         have hby1 := hby.drew.below hb1 (by simp; omega)
         have hrs1 := hrs.drew.below hb1 (by simp; omega)
         obtain ⟨e0, e1, -, -⟩ := hbx1.two
         obtain ⟨e2, e3, -, -⟩ := hby1.two)
      | (go_at_call 81; refine (made_calls _ (n != m) _ _ d hu).mono ?_; rintro e w2 ⟨hb2, rfl⟩
         have hbx2 := hbx1.below hb2 hbx1.lt
         have hby2 := hby1.below hb2 hby1.lt
         have hrs2 := hrs1.below hb2 hrs1.lt
         obtain ⟨f0, f1, -, -⟩ := hbx2.two
         obtain ⟨f2, f3, -, -⟩ := hby2.two
         obtain ⟨g0, g1, g2, g3⟩ := hrs2.two))
  go_wp2_with fail
  have s1 := hb1.size
  have s2 := hb2.size
  have s0 := HS.out
  simp at s1
  refine bodyPost_ret (results_int rfl _ _ _ _ _ _ rfl ((hrs2.set_ 0 _).set_ 1 _)) rfl ⟨below2 ((hB0.drew.trans (hb1.mono (by simp; omega))).trans (hb2.mono (by omega))) (by omega) _ _, ?_⟩
  exact (retZ (by simp; omega) (by simp; omega) (hu.below hb2) hd _ _).of (ival_mul _ _ _ _)

theorem zadd_calls (w : World) (n m : Bool) (B C : Nat) (v u : Value) (p q : List Nat) (hp : Nums w B v p) (hq : Nums w C u q) (hpl : p.length ≤ 60000) (hql : q.length ≤ 60000) :
    Calls Try.prog 78 #[.agg #[.bool n, v], .agg #[.bool m, u]] w fun e w' => Below w.heap.size w w' ∧ RetZ w.heap.size (ival n (val W p) + ival m (val W q)) e w' := by
  have hp0 := hp
  have hq0 := hq
  obtain ⟨A, cap, rfl, -, -, -, hcp⟩ := hp
  obtain ⟨A', cap', rfl, -, -, -, hcq⟩ := hq
  obtain ⟨W0, hW, hbx, hby, hrs, hB0, hs⟩ := start_21 w 24 24 (.bool n) (.slice A p.length cap) (.bool m) (.slice A' q.length cap') (.bool false) (.slice none 0 0)
  have hp1 := hp0.up hB0
  have hq1 := hq0.up hB0
  have HS := hide hs
  have hs2 : w.heap.size + 2 < W0.heap.size := by omega
  have hn1 : ¬ (w.heap.size = w.heap.size + 1 + 1) := by omega
  have hn2 : ¬ (w.heap.size + 1 + 1 = w.heap.size) := by omega
  clear hs hcp hcq
  obtain ⟨c0, c1, -, -⟩ := hbx.two
  obtain ⟨c2, c3, -, -⟩ := hby.two
  by_cases hnm : n = m
  · subst hnm
    have d0 : (n == n) = true := by simp
    go_enter Try.func78, Try.ntmps78
    go_upto_region 1 with (fail)
    rw [← hW]
    clear hW
    go_wp2_with fail
    go_region_held3 (fun w' => w'.cell? ⟨w.heap.size, 0, none⟩ = some (.bool n) ∧ w'.cell? ⟨w.heap.size, 1, none⟩ = some (.slice A p.length cap) ∧ w'.cell? ⟨w.heap.size + 1, 0, none⟩ = some (.bool n) ∧ w'.cell? ⟨w.heap.size + 1, 1, none⟩ = some (.slice A' q.length cap')) (go_keep)
      (first
        | (go_at_call 98; refine (add_calls _ B C _ _ p q hp1.drew hq1.drew hpl hql).mono ?_; rintro e w1 ⟨hb1, uu, d, rfl, hu, hd⟩
           obtain ⟨A1, cap1, rfl⟩ := hu.form
           have hbx1 := hbx.drew.below hb1 (by simp; omega)
           have hby1 := hby.drew.below hb1 (by simp; omega)
           have hrs1 := hrs.drew.below hb1 (by simp; omega)
           obtain ⟨e0, e1, -, -⟩ := hbx1.two
           obtain ⟨e2, e3, -, -⟩ := hby1.two)
        | (go_at_call 81; refine (made_calls _ n _ _ d hu).mono ?_; rintro e w2 ⟨hb2, rfl⟩
           have hbx2 := hbx1.below hb2 hbx1.lt
           have hby2 := hby1.below hb2 hby1.lt
           have hrs2 := hrs1.below hb2 hrs1.lt
           obtain ⟨f0, f1, -, -⟩ := hbx2.two
           obtain ⟨f2, f3, -, -⟩ := hby2.two
           obtain ⟨g0, g1, g2, g3⟩ := hrs2.two))
    go_wp2_with fail
    have s1 := hb1.size
    have s2 := hb2.size
    have s0 := HS.out
    simp at s1
    refine bodyPost_ret (results_int rfl _ _ _ _ _ _ rfl ((hrs2.set_ 0 _).set_ 1 _)) rfl ⟨below2 ((hB0.drew.trans (hb1.mono (by simp; omega))).trans (hb2.mono (by omega))) (by omega) _ _, ?_⟩
    exact (retZ (by simp; omega) (by simp; omega) (hu.below hb2) hd _ _).of (ival_add _ _ _)
  · have d0 : (n == m) = false := by simp [hnm]
    have HNM := hide hnm
    clear hnm
    by_cases hle : val W q ≤ val W p
    · go_enter Try.func78, Try.ntmps78
      go_upto_region 1 with (fail)
      rw [← hW]
      clear hW
      go_wp2_with fail
      refine (sub_calls _ B C _ _ p q hp1 hq1 hpl hle).mono ?_
      rintro e w1 ⟨hb1, uu, d, rfl, hu, hd⟩
      obtain ⟨A1, cap1, rfl⟩ := hu.form
      have hbx1 := hbx.below hb1 hbx.lt
      have hrs1 := hrs.below hb1 hrs.lt
      obtain ⟨e0, e1, -, -⟩ := hbx1.two
      go_wp2_with fail
      refine (made_calls _ n _ _ d hu).mono ?_
      rintro e w2 ⟨hb2, rfl⟩
      have hrs2 := hrs1.below hb2 hrs1.lt
      obtain ⟨g0, g1, g2, g3⟩ := hrs2.two
      go_wp2_with fail
      have s1 := hb1.size
      have s2 := hb2.size
      have s0 := HS.out
      refine bodyPost_ret (results_int rfl _ _ _ _ _ _ rfl ((hrs2.set_ 0 _).set_ 1 _)) rfl ⟨below2 ((hB0.trans (hb1.mono (by omega))).trans (hb2.mono (by omega))) (by omega) _ _, ?_⟩
      exact (retZ (by omega) (by omega) (hu.below hb2) hd _ _).of (ival_sub1 n m _ _ HNM.out hle)
    · have hle' : val W p ≤ val W q := by omega
      have hlt : val W p < val W q := by omega
      clear hle
      go_enter Try.func78, Try.ntmps78
      go_upto_region 1 with (fail)
      rw [← hW]
      clear hW
      go_wp2_with fail
      refine (sub_no_calls _ B C _ _ p q hp1 hq1 hlt).mono ?_
      rintro e w1 ⟨hb1, rfl⟩
      have hbx1 := hbx.below hb1 hbx.lt
      have hby1 := hby.below hb1 hby.lt
      have hrs1 := hrs.below hb1 hrs.lt
      have hp2 := hp1.below hb1
      have hq2 := hq1.below hb1
      obtain ⟨e0, e1, -, -⟩ := hbx1.two
      obtain ⟨e2, e3, -, -⟩ := hby1.two
      go_wp2_with fail
      refine (sub_calls _ C B _ _ q p hq2 hp2 hql hle').mono ?_
      rintro e w2 ⟨hb2, uu, d, rfl, hu, hd⟩
      obtain ⟨A1, cap1, rfl⟩ := hu.form
      have hby2 := hby1.below hb2 hby1.lt
      have hrs2 := hrs1.below hb2 hrs1.lt
      obtain ⟨f0, f1, -, -⟩ := hby2.two
      go_wp2_with fail
      refine (made_calls _ m _ _ d hu).mono ?_
      rintro e w3 ⟨hb3, rfl⟩
      have hrs3 := hrs2.below hb3 hrs2.lt
      obtain ⟨g0, g1, g2, g3⟩ := hrs3.two
      go_wp2_with fail
      have s1 := hb1.size
      have s2 := hb2.size
      have s3 := hb3.size
      have s0 := HS.out
      refine bodyPost_ret (results_int rfl _ _ _ _ _ _ rfl ((hrs3.set_ 0 _).set_ 1 _)) rfl ⟨below2 (((hB0.trans (hb1.mono (by omega))).trans (hb2.mono (by omega))).trans (hb3.mono (by omega))) (by omega) _ _, ?_⟩
      exact (retZ (by omega) (by omega) (hu.below hb3) hd _ _).of (ival_sub2 n m _ _ HNM.out hle')

theorem zsub_calls (w : World) (n m : Bool) (B C : Nat) (v u : Value) (p q : List Nat) (hp : Nums w B v p) (hq : Nums w C u q) (hpl : p.length ≤ 60000) (hql : q.length ≤ 60000) :
    Calls Try.prog 44 #[.agg #[.bool n, v], .agg #[.bool m, u]] w fun e w' => Below w.heap.size w w' ∧ RetZ w.heap.size (ival n (val W p) - ival m (val W q)) e w' := by
  have hp0 := hp
  have hq0 := hq
  obtain ⟨A, cap, rfl, -, -, -, hcp⟩ := hp
  obtain ⟨A', cap', rfl, -, -, -, hcq⟩ := hq
  obtain ⟨W0, hW, hbx, hby, hrs, hB0, hs⟩ := start_21 w 24 24 (.bool n) (.slice A p.length cap) (.bool m) (.slice A' q.length cap') (.bool false) (.slice none 0 0)
  have hp1 := hp0.up hB0
  have hq1 := hq0.up hB0
  have HS := hide hs
  have hs2 : w.heap.size + 2 < W0.heap.size := by omega
  have hn1 : ¬ (w.heap.size = w.heap.size + 1 + 1) := by omega
  have hn2 : ¬ (w.heap.size + 1 + 1 = w.heap.size) := by omega
  clear hs hcp hcq
  obtain ⟨c0, c1, -, -⟩ := hbx.two
  obtain ⟨c2, c3, -, -⟩ := hby.two
  go_enter Try.func44, Try.ntmps44
  go_upto_region 1 with (fail)
  rw [← hW]
  clear hW
  go_wp2_with fail
  refine (zadd_calls _ n (!m) B C _ _ p q hp1 hq1 hpl hql).mono ?_
  rintro e w1 ⟨hb1, uu, d, rfl, hu, hd⟩
  obtain ⟨A1, cap1, rfl⟩ := hu.form
  have hrs1 := hrs.below hb1 hrs.lt
  obtain ⟨g0, g1, g2, g3⟩ := hrs1.two
  go_wp2_with fail
  have s1 := hb1.size
  have s0 := HS.out
  refine bodyPost_ret (results_int rfl _ _ _ _ _ _ rfl ((hrs1.set_ 0 _).set_ 1 _)) rfl ⟨below2 (hB0.trans (hb1.mono (by omega))) (by omega) _ _, ?_⟩
  have e1 : ival n (val W p) + ival (!m) (val W q) = ival n (val W p) - ival m (val W q) := by rw [ival_not]; omega
  rw [← e1]
  exact ⟨_, d, rfl, ((hu.set_low (p := ⟨w.heap.size + 2, 0, none⟩) (by simp; omega) _).set_low (p := ⟨w.heap.size + 2, 1, none⟩) (by simp; omega) _).mono (by omega), hd⟩
end Go.Proofs.Ytnkembnachhicaa

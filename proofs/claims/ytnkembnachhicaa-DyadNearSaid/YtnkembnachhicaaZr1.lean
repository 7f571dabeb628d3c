/- The document's integers: Make Norm Neg BitLen Sign Mul Shl. -/
import Derived.Test.YtnkembnachhicaaZed4
import Derived.Test.YtnkembnachhicaaRef6
import Derived.Test.YtnkembnachhicaaDyad3
set_option linter.unusedVariables false
set_option linter.unusedSimpArgs false
namespace Go.Proofs.Ytnkembnachhicaa
open Go.RowKit
open L (val dig nth)

/-- The end of a function whose result is an integer that a callee handed back. -/
theorem retZ2 {w w2 : World} {r B : Nat} {z : Int} {v : Value} {d : List Nat} (hB : w.heap.size ≤ B) (hrB : r < B) (hu : Nums w2 B v d) (hd : Canon d z.natAbs) (x y : Value) :
    RetZ w.heap.size z (.returned (.agg #[.bool (decide (z < 0)), v])) ((w2.setCell ⟨r, 0, none⟩ x).setCell ⟨r, 1, none⟩ y) :=
  ⟨v, d, rfl, ((hu.set_low (p := ⟨r, 0, none⟩) hrB x).set_low (p := ⟨r, 1, none⟩) hrB y).mono hB, hd⟩

theorem makeR_calls (w : World) (n : Bool) (B : Nat) (v : Value) (l : List Nat) (h : Nums w B v l) (hl : l.length ≤ 100000) :
    Calls Try.prog 94 #[.bool n, v] w fun e w' => Below w.heap.size w w' ∧ RetZ w.heap.size (ival n (val W l)) e w' := by
  have h0 := h
  obtain ⟨A, cap, rfl, -, -, -, hc⟩ := h
  obtain ⟨W0, hW, hrs, hB0, hs⟩ := start1 w 24 #[.bool false, .slice none 0 0]
  have h1 := h0.up hB0
  have hs2 : w.heap.size < W0.heap.size := by omega
  clear hs hc
  go_enter Try.func94, Try.ntmps94
  go_upto_region 1 with (fail)
  rw [← hW]
  clear hW
  go_wp2_with fail
  refine (normR_calls _ B _ l h1 hl).mono ?_
  rintro e w1 ⟨hb1, u, d, rfl, hu, hd⟩
  obtain ⟨A1, cap1, rfl⟩ := hu.form
  have hrs1 := hrs.below hb1 hs2
  obtain ⟨g0, g1, g2, g3⟩ := hrs1.two
  have s1 := hb1.size
  cases n with
  | false =>
    go_wp2_with fail
    refine bodyPost_ret (results_int rfl _ _ _ _ _ _ rfl ((hrs1.set_ 0 _).set_ 1 _)) rfl ⟨below2 (hB0.trans (hb1.mono (by omega))) (by omega) _ _, ?_⟩
    exact retZ (n := false) (by omega) hs2 hu hd _ _
  | true =>
    go_wp2_with fail
    refine bodyPost_ret (results_int rfl _ _ _ _ _ _ rfl ((hrs1.set_ 0 _).set_ 1 _)) rfl ⟨below2 (hB0.trans (hb1.mono (by omega))) (by omega) _ _, ?_⟩
    have := retZ (w := w) (n := true) (by omega) hs2 hu hd (.bool (decide (0 < d.length))) (.slice A1 d.length cap1)
    rwa [Bool.true_and] at this

theorem znormR_calls (w : World) (n : Bool) (B : Nat) (v : Value) (l : List Nat) (h : Nums w B v l) (hl : l.length ≤ 100000) :
    Calls Try.prog 97 #[.agg #[.bool n, v]] w fun e w' => Below w.heap.size w w' ∧ RetZ w.heap.size (ival n (val W l)) e w' := by
  have h0 := h
  obtain ⟨A, cap, rfl, -, -, -, hc⟩ := h
  obtain ⟨W0, hW, hbx, hrs, hB0, hs⟩ := start_11 w 24 24 (.bool n) (.slice A l.length cap) (.bool false) (.slice none 0 0)
  have h1 := h0.up hB0
  have hs2 : w.heap.size + 1 < W0.heap.size := by omega
  clear hs hc
  obtain ⟨c0, c1, -, -⟩ := hbx.two
  obtain ⟨z, HZ⟩ : ∃ z, Hid (ival n (val W l) = z) := ⟨_, hide rfl⟩
  have HP := makeR_calls W0 n B _ l h1 hl
  rw [HZ.out] at HP ⊢
  go_enter Try.func97, Try.ntmps97
  go_upto_region 1 with (fail)
  rw [← hW]
  clear hW
  go_wp2_with fail
  refine HP.mono ?_
  rintro e w1 ⟨hb1, u, d, rfl, hu, hd⟩
  obtain ⟨A1, cap1, rfl⟩ := hu.form
  have hrs1 := hrs.below hb1 hrs.lt
  obtain ⟨g0, g1, g2, g3⟩ := hrs1.two
  have s1 := hb1.size
  go_wp2_with fail
  refine bodyPost_ret (results_int rfl _ _ _ _ _ _ rfl ((hrs1.set_ 0 _).set_ 1 _)) rfl ⟨below2 (hB0.trans (hb1.mono (by omega))) (by omega) _ _, ?_⟩
  exact retZ2 (by omega) hs2 hu hd _ _

theorem znegR_calls (w : World) (n : Bool) (B : Nat) (v : Value) (l : List Nat) (h : Nums w B v l) (hl : l.length ≤ 100000) :
    Calls Try.prog 72 #[.agg #[.bool n, v]] w fun e w' => Below w.heap.size w w' ∧ RetZ w.heap.size (-ival n (val W l)) e w' := by
  have h0 := h
  obtain ⟨A, cap, rfl, -, -, -, hc⟩ := h
  obtain ⟨W0, hW, hbx, hrs, hB0, hs⟩ := start_11 w 24 24 (.bool n) (.slice A l.length cap) (.bool false) (.slice none 0 0)
  have h1 := h0.up hB0
  have hs2 : w.heap.size + 1 < W0.heap.size := by omega
  clear hs hc
  obtain ⟨c0, c1, -, -⟩ := hbx.two
  obtain ⟨z, HZ⟩ : ∃ z, Hid (-ival n (val W l) = z) := ⟨_, hide rfl⟩
  have HP := makeR_calls W0 (!n) B _ l h1 hl
  rw [ival_not, HZ.out] at HP
  rw [HZ.out]
  go_enter Try.func72, Try.ntmps72
  go_upto_region 1 with (fail)
  rw [← hW]
  clear hW
  go_wp2_with fail
  refine HP.mono ?_
  rintro e w1 ⟨hb1, u, d, rfl, hu, hd⟩
  obtain ⟨A1, cap1, rfl⟩ := hu.form
  have hrs1 := hrs.below hb1 hrs.lt
  obtain ⟨g0, g1, g2, g3⟩ := hrs1.two
  have s1 := hb1.size
  go_wp2_with fail
  refine bodyPost_ret (results_int rfl _ _ _ _ _ _ rfl ((hrs1.set_ 0 _).set_ 1 _)) rfl ⟨below2 (hB0.trans (hb1.mono (by omega))) (by omega) _ _, ?_⟩
  exact retZ2 (by omega) hs2 hu hd _ _

theorem zbitlenR_calls (w : World) (n : Bool) (B : Nat) (v : Value) (l : List Nat) (h : Nums w B v l) (hl : l.length ≤ 100000) :
    Calls Try.prog 75 #[.agg #[.bool n, v]] w fun e w' => Below w.heap.size w w' ∧ e = .returned (.int .i64 (nbits (val W l) : Nat)) := by
  have h0 := h
  obtain ⟨A, cap, rfl, -, -, -, hc⟩ := h
  obtain ⟨W0, hW, hbx, hB0, hs⟩ := start_10 w 24 (.bool n) (.slice A l.length cap)
  have h1 := h0.up hB0
  obtain ⟨c0, c1, -, -⟩ := hbx.two
  clear hs hc
  go_enter Try.func75, Try.ntmps75
  go_upto_region 1 with (fail)
  rw [← hW]
  clear hW
  go_wp2_with fail
  refine (bitlenR_calls _ B _ l h1 hl).mono ?_
  rintro e w1 ⟨hb1, rfl⟩
  go_wp2_with fail
  go_ret
  exact ⟨hB0.trans (hb1.mono hB0.size), rfl⟩

theorem zmulR_calls (w : World) (n m : Bool) (B C : Nat) (v u : Value) (p q : List Nat) (hp : Nums w B v p) (hq : Nums w C u q) (hpl : p.length ≤ 40000) (hql : q.length ≤ 40000) :
    Calls Try.prog 88 #[.agg #[.bool n, v], .agg #[.bool m, u]] w fun e w' => Below w.heap.size w w' ∧ RetZ w.heap.size (ival n (val W p) * ival m (val W q)) e w' := by
  have hp0 := hp
  have hq0 := hq
  have HLP := hide hp.lt
  have HLQ := hide hq.lt
  obtain ⟨A, cap, rfl, -, -, -, hcp⟩ := hp
  obtain ⟨A', cap', rfl, -, -, -, hcq⟩ := hq
  obtain ⟨W0, hW, hbx, hby, hrs, hB0, hs⟩ := start_21 w 24 24 (.bool n) (.slice A p.length cap) (.bool m) (.slice A' q.length cap') (.bool false) (.slice none 0 0)
  have hp1 := hp0.up hB0
  have hq1 := hq0.up hB0
  have hs2 : w.heap.size + 2 < W0.heap.size := by omega
  have hn1 : ¬ (w.heap.size = w.heap.size + 1 + 1) := by omega
  have hn2 : ¬ (w.heap.size + 1 + 1 = w.heap.size) := by omega
  clear hs hcp hcq
  go_enter Try.func88, Try.ntmps88
  go_wp2_with fail
  rw [← hW]
  clear hW
  obtain ⟨c0, c1, -, -⟩ := hbx.two
  obtain ⟨c2, c3, -, -⟩ := hby.two
  go_region_held3 (fun w' => w'.cell? ⟨w.heap.size, 0, none⟩ = some (.bool n) ∧ w'.cell? ⟨w.heap.size, 1, none⟩ = some (.slice A p.length cap) ∧ w'.cell? ⟨w.heap.size + 1, 0, none⟩ = some (.bool m) ∧ w'.cell? ⟨w.heap.size + 1, 1, none⟩ = some (.slice A' q.length cap')) (go_keep)
    (first
      | (go_at_call 107; refine (mulR_calls _ B C _ _ p q hp1.drew hq1.drew (by omega) (by omega)).mono ?_; rintro e w1 ⟨hb1, uu, d, rfl, hu, hd⟩
         obtain ⟨A1, cap1, rfl⟩ := hu.form
         have hdl : d.length ≤ p.length + q.length := by rw [hd.len, Nat.pow_add]; exact Nat.mul_lt_mul'' (L.val_lt p HLP.out) (L.val_lt q HLQ.out)
         have hbx1 := hbx.drew.below hb1 hbx.lt
         have hby1 := hby.drew.below hb1 hby.lt
         have hrs1 := hrs.drew.below hb1 hrs.lt
         have HV := hide hd.val
         obtain ⟨e0, e1, -, -⟩ := hbx1.two
         obtain ⟨e2, e3, -, -⟩ := hby1.two)
      | (go_at_call 94; refine (makeR_calls _ (n != m) _ _ d hu (by omega)).mono ?_; rintro e w2 ⟨hb2, u2, d2, rfl, hu2, hd2⟩
         obtain ⟨A2, cap2, rfl⟩ := hu2.form
         have hbx2 := hbx1.below hb2 hbx1.lt
         have hby2 := hby1.below hb2 hby1.lt
         have hrs2 := hrs1.below hb2 hrs1.lt
         obtain ⟨f0, f1, -, -⟩ := hbx2.two
         obtain ⟨f2, f3, -, -⟩ := hby2.two
         obtain ⟨g0, g1, g2, g3⟩ := hrs2.two))
  go_wp2_with fail
  have s1 := hb1.size
  have s2 := hb2.size
  simp at s1
  refine bodyPost_ret (results_int rfl _ _ _ _ _ _ rfl ((hrs2.set_ 0 _).set_ 1 _)) rfl ⟨below2 ((hB0.drew.trans (hb1.mono (by simp; omega))).trans (hb2.mono (by omega))) (by omega) _ _, ?_⟩
  exact (retZ2 (by omega) (by omega) hu2 hd2 _ _).of (by rw [HV.out, ival_mul])

theorem zshlR_calls (w : World) (n : Bool) (B : Nat) (v : Value) (l : List Nat) (k : Int) (h : Nums w B v l) (hl : l.length ≤ 60000) (hk0 : -9223372036854775808 ≤ k) (hk1 : k ≤ 9223372036854775807) :
    Calls Try.prog 105 #[.agg #[.bool n, v], .int .i64 k] w fun e w' => Below w.heap.size w w' ∧ RetZ w.heap.size (ival n (val W l) * 2 ^ clampN k) e w' := by
  have h0 := h
  have HLT := hide h.lt
  obtain ⟨A, cap, rfl, -, -, -, hc⟩ := h
  obtain ⟨W0, hW, hbx, hrs, hB0, hs⟩ := start_11 w 24 24 (.bool n) (.slice A l.length cap) (.bool false) (.slice none 0 0)
  have h1 := h0.up hB0
  have hs2 : w.heap.size + 1 < W0.heap.size := by omega
  have hn1 : ¬ (w.heap.size = w.heap.size + 1) := by omega
  have hn2 : ¬ (w.heap.size + 1 = w.heap.size) := by omega
  clear hs hc
  have hck := clampN_le k
  obtain ⟨N, HN⟩ : ∃ N, Hid (val W l * 2 ^ clampN k = N) := ⟨_, hide rfl⟩
  have HPS := shlR_calls W0.drew B _ l k h1.drew (by omega) hk0 hk1
  rw [HN.out] at HPS
  have HPS := hide HPS
  have HZ : Hid (ival n N = ival n (val W l) * 2 ^ clampN k) := hide (by rw [← HN.out, ival_pow])
  have HNL : Hid (N < W ^ (l.length + 128)) := hide (by
    rw [← HN.out]
    have h2 := L.val_lt l HLT.out
    have h3 : 2 ^ clampN k ≤ W ^ 128 := pow_le_W (by omega)
    rw [Nat.pow_add]
    exact Nat.lt_of_lt_of_le (Nat.mul_lt_mul_of_pos_right h2 (Nat.two_pow_pos _)) (Nat.mul_le_mul_left _ h3))
  obtain ⟨c0, c1, -, -⟩ := hbx.two
  go_enter Try.func105, Try.ntmps105
  go_wp2_with fail
  rw [← hW]
  clear hW
  go_region_held3 (fun w' => w'.cell? ⟨w.heap.size, 0, none⟩ = some (.bool n) ∧ w'.cell? ⟨w.heap.size, 1, none⟩ = some (.slice A l.length cap)) (go_keep)
    (first
      | (go_at_call 112; (with_reducible refine HPS.out.mono ?_); rintro e w1 ⟨hb1, uu, d, rfl, hu, hd⟩
         obtain ⟨A1, cap1, rfl⟩ := hu.form
         have hdl : d.length ≤ l.length + 128 := by rw [hd.len]; exact HNL.out
         have hbx1 := hbx.drew.below hb1 hbx.lt
         have hrs1 := hrs.drew.below hb1 hrs.lt
         have HV := hide hd.val
         obtain ⟨e0, e1, -, -⟩ := hbx1.two)
      | (go_at_call 94; refine (makeR_calls _ n _ _ d hu (by omega)).mono ?_; rintro e w2 ⟨hb2, u2, d2, rfl, hu2, hd2⟩
         obtain ⟨A2, cap2, rfl⟩ := hu2.form
         have hbx2 := hbx1.below hb2 hbx1.lt
         have hrs2 := hrs1.below hb2 hrs1.lt
         obtain ⟨f0, f1, -, -⟩ := hbx2.two
         obtain ⟨g0, g1, g2, g3⟩ := hrs2.two))
  go_wp2_with fail
  have s1 := hb1.size
  have s2 := hb2.size
  simp at s1
  refine bodyPost_ret (results_int rfl _ _ _ _ _ _ rfl ((hrs2.set_ 0 _).set_ 1 _)) rfl ⟨below2 ((hB0.drew.trans (hb1.mono (by simp; omega))).trans (hb2.mono (by omega))) (by omega) _ _, ?_⟩
  exact (retZ2 (by omega) (by omega) hu2 hd2 _ _).of (by rw [HV.out]; exact HZ.out)
end Go.Proofs.Ytnkembnachhicaa

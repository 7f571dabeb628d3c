/- dyad: Neg, Shift, Floor, Ceil. dyad: level, Cmp, Add, Sub, Mul. dyad: Cmp, Add, Sub, Mul. The document's integers: Make Norm Neg BitLen Sign Mul Shl. The document's integers: Sign Add Sub. The document's integers: Sub Shr. -/
import Derived.Test.YtgbpnpemigddeaaGreatDyadA
import Derived.Test.YtgbpnpemigddeaaGreatZeds
import Derived.Test.YtgbpnpemigddeaaGreatRefs
set_option linter.unusedVariables false
set_option linter.unusedSimpArgs false
namespace Go.Proofs.YtgbpnpemigddeaaGreat
section
section
section
open Go.RowKit
open L (val dig nth)
def scF (m e : Int) : Int := if 0 ≤ e then m * 2 ^ e.toNat else m / 2 ^ (-e).toNat
def scC (m e : Int) : Int := if 0 ≤ e then m * 2 ^ e.toNat else -((-m) / 2 ^ (-e).toNat)
end
end
section
section
open Go.RowKit
open L (val dig nth)
theorem start4 (w : World) (t t' t'' t3 : TypeId) (a b c d : Array Value) : ∃ W0, W0 = (((w.alloc (.cells a t)).alloc (.cells b t')).alloc (.cells c t'')).alloc (.cells d t3) ∧ Blk W0 w.heap.size t a ∧ Blk W0 (w.heap.size + 1) t' b ∧
    Blk W0 (w.heap.size + 2) t'' c ∧ Blk W0 (w.heap.size + 3) t3 d ∧ Below w.heap.size w W0 ∧ W0.heap.size = w.heap.size + 4 := by
  obtain ⟨W1, h1, b1, b2, b3, hb, hs⟩ := start3 w t t' t'' a b c; obtain ⟨W2, h2, b4, hb2, hs2⟩ := start1 W1 t3 d; refine ⟨W2, by rw [h2, h1], b1.below hb2 (by omega), b2.below hb2 (by omega), b3.below hb2 (by omega), by rw [← hs]; exact b4, hb.trans (hb2.mono (by omega)), by omega⟩
def RetL (B : Nat) (X Y low : Int) (e : Ending) (w : World) : Prop :=
  ∃ u1 d1 u2 d2, e = .returned (.tuple #[.agg #[.bool (decide (X < 0)), u1], .agg #[.bool (decide (Y < 0)), u2], .int .i64 low]) ∧ Nums w B u1 d1 ∧ Canon d1 X.natAbs ∧ Nums w B u2 d2 ∧ Canon d2 Y.natAbs
def lift (z x low : Int) : Int := cM z x * 2 ^ (cE z x - low).toNat
def lowE (z x z' x' : Int) : Int := min (cE z x) (cE z' x')
end
end
section
section
open Go.RowKit
open L (val dig nth)
theorem jux (z x : Int) : (cM z x).natAbs ≤ z.natAbs := by unfold cM; split <;> simp
theorem jq1 {a b c k j : Nat} (h : a ≤ b + c) (hb : b < W ^ k) (hc : c < W ^ k) (hk : k < j) : a < W ^ j := by
  have h1 : W ^ (k + 1) ≤ W ^ j := Nat.pow_le_pow_right ja6 hk; have h2 : 2 * W ^ k ≤ W ^ (k + 1) := by rw [Nat.pow_succ, Nat.mul_comm]; exact Nat.mul_le_mul_left _ W_gt
  omega
end
end
end
section
section
section
open Go.RowKit
open L (val dig nth)
theorem retZ2 {w w2 : World} {r B : Nat} {z : Int} {v : Value} {d : List Nat} (hB : w.heap.size ≤ B) (hrB : r < B) (hu : Nums w2 B v d) (hd : Canon d z.natAbs) (x y : Value) :
    RetZ w.heap.size z (.returned (.agg #[.bool (decide (z < 0)), v])) ((w2.setCell ⟨r, 0, none⟩ x).setCell ⟨r, 1, none⟩ y) :=
  ⟨v, d, rfl, ((hu.set_low (p := ⟨r, 0, none⟩) hrB x).set_low (p := ⟨r, 1, none⟩) hrB y).mono hB, hd⟩
theorem jaq (w : World) (n : Bool) (B : Nat) (v : Value) (l : List Nat) (h : Nums w B v l) (hl : l.length ≤ 100000) :
    Calls Tryz.prog 51 #[.bool n, v] w fun e w' => Below w.heap.size w w' ∧ RetZ w.heap.size (ival n (val W l)) e w' := by
  have h0 := h; obtain ⟨A, cap, rfl, -, -, -, hc⟩ := h; obtain ⟨W0, hW, hrs, hB0, hs⟩ := start1 w 25 #[.bool false, .slice none 0 0]; have h1 := h0.up hB0; have hs2 : w.heap.size < W0.heap.size := by omega
  clear hs hc
  go_enter Tryz.func51, Tryz.ntmps51
  go_upto_region 1 with (fail)
  rw [← hW]; clear hW
  go_wp2_with fail
  refine (jjz _ B _ l h1 hl).mono ?_; rintro e w1 ⟨hb1, u, d, rfl, hu, hd⟩; obtain ⟨A1, cap1, rfl⟩ := hu.form; have hrs1 := hrs.below hb1 hs2; obtain ⟨g0, g1, g2, g3⟩ := hrs1.two; have s1 := hb1.size
  cases n with
  | false =>
    go_wp2_with fail
    refine bodyPost_ret (jac rfl _ _ _ _ _ _ rfl ((hrs1.set_ 0 _).set_ 1 _)) rfl ⟨below2 (hB0.trans (hb1.mono (by omega))) (by omega) _ _, ?_⟩; exact retZ (n := false) (by omega) hs2 hu hd _ _
  | true =>
    go_wp2_with fail
    refine bodyPost_ret (jac rfl _ _ _ _ _ _ rfl ((hrs1.set_ 0 _).set_ 1 _)) rfl ⟨below2 (hB0.trans (hb1.mono (by omega))) (by omega) _ _, ?_⟩; have := retZ (w := w) (n := true) (by omega) hs2 hu hd (.bool (decide (0 < d.length))) (.slice A1 d.length cap1)
    rwa [Bool.true_and] at this
theorem jbd (w : World) (n : Bool) (B : Nat) (v : Value) (l : List Nat) (h : Nums w B v l) (hl : l.length ≤ 100000) :
    Calls Tryz.prog 45 #[.agg #[.bool n, v]] w fun e w' => Below w.heap.size w w' ∧ RetZ w.heap.size (ival n (val W l)) e w' := by
  have h0 := h; obtain ⟨A, cap, rfl, -, -, -, hc⟩ := h; obtain ⟨W0, hW, hbx, hrs, hB0, hs⟩ := jb7 w 25 25 (.bool n) (.slice A l.length cap) (.bool false) (.slice none 0 0); have h1 := h0.up hB0; have hs2 : w.heap.size + 1 < W0.heap.size := by omega
  clear hs hc; obtain ⟨c0, c1, -, -⟩ := hbx.two; obtain ⟨z, HZ⟩ : ∃ z, Hid (ival n (val W l) = z) := ⟨_, hide rfl⟩; have HP := jaq W0 n B _ l h1 hl; rw [HZ.out] at HP ⊢
  go_enter Tryz.func45, Tryz.ntmps45
  go_upto_region 1 with (fail)
  rw [← hW]; clear hW
  go_wp2_with fail
  refine HP.mono ?_; rintro e w1 ⟨hb1, u, d, rfl, hu, hd⟩; obtain ⟨A1, cap1, rfl⟩ := hu.form; have hrs1 := hrs.below hb1 hrs.lt; obtain ⟨g0, g1, g2, g3⟩ := hrs1.two; have s1 := hb1.size
  go_wp2_with fail
  refine bodyPost_ret (jac rfl _ _ _ _ _ _ rfl ((hrs1.set_ 0 _).set_ 1 _)) rfl ⟨below2 (hB0.trans (hb1.mono (by omega))) (by omega) _ _, ?_⟩; exact retZ2 (by omega) hs2 hu hd _ _
theorem jfh (w : World) (n : Bool) (B : Nat) (v : Value) (l : List Nat) (h : Nums w B v l) (hl : l.length ≤ 100000) :
    Calls Tryz.prog 88 #[.agg #[.bool n, v]] w fun e w' => Below w.heap.size w w' ∧ RetZ w.heap.size (-ival n (val W l)) e w' := by
  have h0 := h; obtain ⟨A, cap, rfl, -, -, -, hc⟩ := h; obtain ⟨W0, hW, hbx, hrs, hB0, hs⟩ := jb7 w 25 25 (.bool n) (.slice A l.length cap) (.bool false) (.slice none 0 0); have h1 := h0.up hB0; have hs2 : w.heap.size + 1 < W0.heap.size := by omega
  clear hs hc; obtain ⟨c0, c1, -, -⟩ := hbx.two; obtain ⟨z, HZ⟩ : ∃ z, Hid (-ival n (val W l) = z) := ⟨_, hide rfl⟩; have HP := jaq W0 (!n) B _ l h1 hl; rw [jh3, HZ.out] at HP; rw [HZ.out]
  go_enter Tryz.func88, Tryz.ntmps88
  go_upto_region 1 with (fail)
  rw [← hW]; clear hW
  go_wp2_with fail
  refine HP.mono ?_; rintro e w1 ⟨hb1, u, d, rfl, hu, hd⟩; obtain ⟨A1, cap1, rfl⟩ := hu.form; have hrs1 := hrs.below hb1 hrs.lt; obtain ⟨g0, g1, g2, g3⟩ := hrs1.two; have s1 := hb1.size
  go_wp2_with fail
  refine bodyPost_ret (jac rfl _ _ _ _ _ _ rfl ((hrs1.set_ 0 _).set_ 1 _)) rfl ⟨below2 (hB0.trans (hb1.mono (by omega))) (by omega) _ _, ?_⟩; exact retZ2 (by omega) hs2 hu hd _ _
theorem jjm (w : World) (n m : Bool) (B C : Nat) (v u : Value) (p q : List Nat) (hp : Nums w B v p) (hq : Nums w C u q) (hpl : p.length ≤ 40000) (hql : q.length ≤ 40000) :
    Calls Tryz.prog 44 #[.agg #[.bool n, v], .agg #[.bool m, u]] w fun e w' => Below w.heap.size w w' ∧ RetZ w.heap.size (ival n (val W p) * ival m (val W q)) e w' := by
  have hp0 := hp; have hq0 := hq; have HLP := hide hp.lt; have HLQ := hide hq.lt; obtain ⟨A, cap, rfl, -, -, -, hcp⟩ := hp; obtain ⟨A', cap', rfl, -, -, -, hcq⟩ := hq; obtain ⟨W0, hW, hbx, hby, hrs, hB0, hs⟩ := jdt w 25 25 (.bool n) (.slice A p.length cap) (.bool m) (.slice A' q.length cap') (.bool false) (.slice none 0 0); have hp1 := hp0.up hB0; have hq1 := hq0.up hB0; have hs2 : w.heap.size + 2 < W0.heap.size := by omega
  have hn1 : ¬ (w.heap.size = w.heap.size + 1 + 1) := by omega
  have hn2 : ¬ (w.heap.size + 1 + 1 = w.heap.size) := by omega
  clear hs hcp hcq
  go_enter Tryz.func44, Tryz.ntmps44
  go_wp2_with fail
  rw [← hW]; clear hW; obtain ⟨c0, c1, -, -⟩ := hbx.two; obtain ⟨c2, c3, -, -⟩ := hby.two
  go_region_held3 (fun w' => w'.cell? ⟨w.heap.size, 0, none⟩ = some (.bool n) ∧ w'.cell? ⟨w.heap.size, 1, none⟩ = some (.slice A p.length cap) ∧ w'.cell? ⟨w.heap.size + 1, 0, none⟩ = some (.bool m) ∧ w'.cell? ⟨w.heap.size + 1, 1, none⟩ = some (.slice A' q.length cap')) (go_keep)
    (first
      | (go_at_call 86; refine (jml _ B C _ _ p q hp1.drew hq1.drew (by omega) (by omega)).mono ?_; rintro e w1 ⟨hb1, uu, d, rfl, hu, hd⟩
         obtain ⟨A1, cap1, rfl⟩ := hu.form; have hdl : d.length ≤ p.length + q.length := by rw [hd.len, Nat.pow_add]; exact Nat.mul_lt_mul'' (L.val_lt p HLP.out) (L.val_lt q HLQ.out)
         have hbx1 := hbx.drew.below hb1 hbx.lt; have hby1 := hby.drew.below hb1 hby.lt; have hrs1 := hrs.drew.below hb1 hrs.lt; have HV := hide hd.val; obtain ⟨e0, e1, -, -⟩ := hbx1.two; obtain ⟨e2, e3, -, -⟩ := hby1.two)
      | (go_at_call 51; refine (jaq _ (n != m) _ _ d hu (by omega)).mono ?_; rintro e w2 ⟨hb2, u2, d2, rfl, hu2, hd2⟩
         obtain ⟨A2, cap2, rfl⟩ := hu2.form; have hbx2 := hbx1.below hb2 hbx1.lt; have hby2 := hby1.below hb2 hby1.lt; have hrs2 := hrs1.below hb2 hrs1.lt; obtain ⟨f0, f1, -, -⟩ := hbx2.two; obtain ⟨f2, f3, -, -⟩ := hby2.two; obtain ⟨g0, g1, g2, g3⟩ := hrs2.two))
  go_wp2_with fail
  have s1 := hb1.size; have s2 := hb2.size; simp at s1; refine bodyPost_ret (jac rfl _ _ _ _ _ _ rfl ((hrs2.set_ 0 _).set_ 1 _)) rfl ⟨below2 ((hB0.drew.trans (hb1.mono (by simp; omega))).trans (hb2.mono (by omega))) (by omega) _ _, ?_⟩; exact (retZ2 (by omega) (by omega) hu2 hd2 _ _).of (by rw [HV.out, jl9])
theorem jjn (w : World) (n : Bool) (B : Nat) (v : Value) (l : List Nat) (k : Int) (h : Nums w B v l) (hl : l.length ≤ 60000) (hk0 : -9223372036854775808 ≤ k) (hk1 : k ≤ 9223372036854775807) :
    Calls Tryz.prog 41 #[.agg #[.bool n, v], .int .i64 k] w fun e w' => Below w.heap.size w w' ∧ RetZ w.heap.size (ival n (val W l) * 2 ^ clampN k) e w' := by
  have h0 := h; have HLT := hide h.lt; obtain ⟨A, cap, rfl, -, -, -, hc⟩ := h; obtain ⟨W0, hW, hbx, hrs, hB0, hs⟩ := jb7 w 25 25 (.bool n) (.slice A l.length cap) (.bool false) (.slice none 0 0); have h1 := h0.up hB0; have hs2 : w.heap.size + 1 < W0.heap.size := by omega
  have hn1 : ¬ (w.heap.size = w.heap.size + 1) := by omega
  have hn2 : ¬ (w.heap.size + 1 = w.heap.size) := by omega
  clear hs hc; have hck := jci k; obtain ⟨N, HN⟩ : ∃ N, Hid (val W l * 2 ^ clampN k = N) := ⟨_, hide rfl⟩; have HPS := jgq W0.drew B _ l k h1.drew (by omega) hk0 hk1; rw [HN.out] at HPS; have HPS := hide HPS; have HZ : Hid (ival n N = ival n (val W l) * 2 ^ clampN k) := hide (by rw [← HN.out, jma])
  have HNL : Hid (N < W ^ (l.length + 128)) := hide (by
    rw [← HN.out]; have h2 := L.val_lt l HLT.out; have h3 : 2 ^ clampN k ≤ W ^ 128 := jhd (by omega); rw [Nat.pow_add]; exact Nat.lt_of_lt_of_le (Nat.mul_lt_mul_of_pos_right h2 (Nat.two_pow_pos _)) (Nat.mul_le_mul_left _ h3))
  obtain ⟨c0, c1, -, -⟩ := hbx.two
  go_enter Tryz.func41, Tryz.ntmps41
  go_wp2_with fail
  rw [← hW]; clear hW
  go_region_held3 (fun w' => w'.cell? ⟨w.heap.size, 0, none⟩ = some (.bool n) ∧ w'.cell? ⟨w.heap.size, 1, none⟩ = some (.slice A l.length cap)) (go_keep)
    (first
      | (go_at_call 81; (with_reducible refine HPS.out.mono ?_); rintro e w1 ⟨hb1, uu, d, rfl, hu, hd⟩
         obtain ⟨A1, cap1, rfl⟩ := hu.form; have hdl : d.length ≤ l.length + 128 := by rw [hd.len]; exact HNL.out
         have hbx1 := hbx.drew.below hb1 hbx.lt; have hrs1 := hrs.drew.below hb1 hrs.lt; have HV := hide hd.val; obtain ⟨e0, e1, -, -⟩ := hbx1.two)
      | (go_at_call 51; refine (jaq _ n _ _ d hu (by omega)).mono ?_; rintro e w2 ⟨hb2, u2, d2, rfl, hu2, hd2⟩
         obtain ⟨A2, cap2, rfl⟩ := hu2.form; have hbx2 := hbx1.below hb2 hbx1.lt; have hrs2 := hrs1.below hb2 hrs1.lt; obtain ⟨f0, f1, -, -⟩ := hbx2.two; obtain ⟨g0, g1, g2, g3⟩ := hrs2.two))
  go_wp2_with fail
  have s1 := hb1.size; have s2 := hb2.size; simp at s1; refine bodyPost_ret (jac rfl _ _ _ _ _ _ rfl ((hrs2.set_ 0 _).set_ 1 _)) rfl ⟨below2 ((hB0.drew.trans (hb1.mono (by simp; omega))).trans (hb2.mono (by omega))) (by omega) _ _, ?_⟩; exact (retZ2 (by omega) (by omega) hu2 hd2 _ _).of (by rw [HV.out]; exact HZ.out)
end
end
section
section
open Go.RowKit
open L (val dig nth)
theorem jcf {w : World} {r : Nat} {t : TypeId} {a b : Value} (h : Blk w r t #[a, b]) (x y : Value) :
    ∃ W2, W2 = (w.setCell ⟨r, 0, none⟩ x).setCell ⟨r, 1, none⟩ y ∧ Blk W2 r t #[x, y] ∧ (∀ g t' cs, g ≠ r → Blk w g t' cs → Blk W2 g t' cs) ∧
    (∀ B v l, r < B → Nums w B v l → Nums W2 B v l) ∧ W2.heap.size = w.heap.size ∧ (∀ B w0, Below B w0 w → B ≤ r → Below B w0 W2) := by
  refine ⟨_, rfl, ?_, fun g t' cs hne hg => (hg.far hne x).far hne y, fun B v l hr hn => (hn.set_low (p := ⟨r, 0, none⟩) hr x).set_low (p := ⟨r, 1, none⟩) hr y, by simp, fun B w0 hb hr => (hb.setCell (p := ⟨r, 0, none⟩) hr x).setCell (p := ⟨r, 1, none⟩) hr y⟩; have := (h.set_ 0 x).set_ 1 y
  simpa using this
theorem jmc {d : List Nat} {z : Int} (h : Canon d z.natAbs) : ((d.length : Int) == 0) = decide (z = 0) := by
  have := h.nil_iff
  by_cases hz : z = 0
  · subst hz
    have : d = [] := this.2 rfl; subst this; rfl
  · rw [decide_eq_false hz, beq_eq_false_iff_ne]
    intro h0; have h1 : d = [] := List.eq_nil_of_length_eq_zero (by omega); have := this.1 h1
    omega
theorem jm9 {d d1 d3 : List Nat} {k : Nat} (hd : Canon d (val W d1 + val W d3)) (l1 : ∀ x ∈ d1, x < W) (l3 : ∀ x ∈ d3, x < W) (h1 : d1.length ≤ k) (h3 : d3.length ≤ k) : d.length ≤ k + 1 := by
  rw [hd.len]; exact jq1 (k := k) (Nat.le_refl _) (Nat.lt_of_lt_of_le (L.val_lt d1 l1) (Nat.pow_le_pow_right ja6 h1)) (Nat.lt_of_lt_of_le (L.val_lt d3 l3) (Nat.pow_le_pow_right ja6 h3)) (Nat.lt_succ_self _)
theorem jks {d d1 d3 : List Nat} {k : Nat} (hd : Canon d (val W d1 - val W d3)) (l1 : ∀ x ∈ d1, x < W) (h1 : d1.length ≤ k) : d.length ≤ k := by
  rw [hd.len]; exact Nat.lt_of_le_of_lt (Nat.sub_le _ _) (Nat.lt_of_lt_of_le (L.val_lt d1 l1) (Nat.pow_le_pow_right ja6 h1))
theorem jh9 (w : World) (n : Bool) (B : Nat) (v : Value) (l : List Nat) (h : Nums w B v l) (hl : l.length ≤ 100000) :
    Calls Tryz.prog 84 #[.agg #[.bool n, v]] w fun e w' => Below w.heap.size w w' ∧ e = .returned (.int .i64 (ival n (val W l)).sign) := by
  have h0 := h; obtain ⟨A, cap, rfl, -, -, -, hc⟩ := h; obtain ⟨W0, hW, hbx, hB0, hs⟩ := jl7 w 25 (.bool n) (.slice A l.length cap); have h1 := h0.up hB0; have hs2 : w.heap.size < W0.heap.size := by omega
  clear hs hc; obtain ⟨c0, c1, -, -⟩ := hbx.two; obtain ⟨z, HZ⟩ : ∃ z, Hid (ival n (val W l) = z) := ⟨_, hide rfl⟩; have HP := jbd W0 n B _ l h1 hl; rw [HZ.out] at HP ⊢; obtain ⟨s, HSG⟩ : ∃ s, Hid (z.sign = s) := ⟨_, hide rfl⟩; rw [HSG.out]
  go_enter Tryz.func84, Tryz.ntmps84
  go_upto_region 1 with (fail)
  rw [← hW]; clear hW
  go_wp2_with fail
  refine HP.mono ?_; rintro e w1 ⟨hb1, u, d, rfl, hu, hd⟩; obtain ⟨A1, cap1, rfl⟩ := hu.form; clear HP; have hbx1 := hbx.below hb1 hbx.lt; have hL := jmc hd; have s1 := hb1.size; obtain ⟨g0, g1, g2, g3⟩ := hbx1.two; obtain ⟨w2, hW2, hbx2, -, hk2, hs3, hB2⟩ := jcf hbx1 (.bool (decide (z < 0))) (.slice A1 d.length cap1); have HB2 := hide (hB2 _ _ (hB0.trans (hb1.mono hB0.size)) (Nat.le_refl _)); clear hB2 hk2
  go_upto_region 2 with (fail)
  rw [← hW2]; clear hW2 g0 g1 g2 g3; obtain ⟨e0, e1, -, -⟩ := hbx2.two
  by_cases hz : z = 0
  · have d0 : ((d.length : Int) == 0) = true := by rw [hL]; exact decide_eq_true hz
    obtain rfl : s = 0 := by rw [← HSG.out, hz]; rfl
    clear hz hL
    go_wp2_with fail
    go_ret
    exact ⟨HB2.out, rfl⟩
  · have d0 : ((d.length : Int) == 0) = false := by rw [hL]; exact decide_eq_false hz
    by_cases hn : z < 0
    · have d1 : decide (z < 0) = true := decide_eq_true hn
      obtain rfl : s = -1 := by rw [← HSG.out]; exact Int.sign_eq_neg_one_of_neg hn
      rw [d1] at e0; clear hz hL
      go_wp2_with fail
      go_ret
      exact ⟨HB2.out, rfl⟩
    · have d1 : decide (z < 0) = false := decide_eq_false hn
      obtain rfl : s = 1 := by rw [← HSG.out]; exact Int.sign_eq_one_of_pos (by omega)
      rw [d1] at e0; clear hz hL
      go_wp2_with fail
      go_ret
      exact ⟨HB2.out, rfl⟩
set_option maxHeartbeats 1000000 in
set_option maxRecDepth 100000 in
theorem jfi (w : World) (n m : Bool) (B C : Nat) (v u : Value) (p q : List Nat) (hp : Nums w B v p) (hq : Nums w C u q) (hpl : p.length ≤ 60000) (hql : q.length ≤ 60000) :
    Calls Tryz.prog 42 #[.agg #[.bool n, v], .agg #[.bool m, u]] w fun e w' => Below w.heap.size w w' ∧ RetZ w.heap.size (ival n (val W p) + ival m (val W q)) e w' := by
  have hp0 := hp; have hq0 := hq; have HLP := hide hp.lt; have HLQ := hide hq.lt; obtain ⟨A, cap, rfl, -, -, -, hcp⟩ := hp; obtain ⟨A', cap', rfl, -, -, -, hcq⟩ := hq; obtain ⟨W0, hW, hbx, hby, hrs, hB0, hs⟩ := jdt w 25 25 (.bool n) (.slice A p.length cap) (.bool m) (.slice A' q.length cap') (.bool false) (.slice none 0 0); have hp1 := hp0.up hB0; have hs2 : w.heap.size + 2 < W0.heap.size := by omega
  have hn1 : ¬ (w.heap.size = w.heap.size + 1 + 1) := by omega
  have hn2 : ¬ (w.heap.size + 1 + 1 = w.heap.size) := by omega
  clear hs hcp hcq; obtain ⟨c0, c1, -, -⟩ := hbx.two; obtain ⟨X, HX⟩ : ∃ z, Hid (ival n (val W p) = z) := ⟨_, hide rfl⟩; obtain ⟨Y, HY⟩ : ∃ z, Hid (ival m (val W q) = z) := ⟨_, hide rfl⟩; have hXl : Hid (X.natAbs < W ^ p.length) := hide (by rw [← HX.out]; exact jc3 HLP.out); have hYl : Hid (Y.natAbs < W ^ q.length) := hide (by rw [← HY.out]; exact jc3 HLQ.out); have HP := jbd W0 n B _ p hp1 (by omega); rw [HX.out] at HP; rw [HX.out, HY.out]
  go_enter Tryz.func42, Tryz.ntmps42
  go_upto_region 1 with (fail)
  rw [← hW]; clear hW
  go_wp2_with fail
  refine HP.mono ?_; rintro e w1 ⟨hb1, u1, d1, rfl, hu1, hd1⟩; obtain ⟨A1, cap1, rfl⟩ := hu1.form; clear HP c0 c1; have hd1l : d1.length ≤ p.length := by rw [hd1.len]; exact hXl.out
  have hbx1 := hbx.below hb1 hbx.lt; have hby1 := hby.below hb1 hby.lt; have hrs1 := hrs.below hb1 hrs.lt; have s1 := hb1.size; obtain ⟨g0, g1, g2, g3⟩ := hbx1.two; obtain ⟨w2, hW2, hbx2, hf2, hk2, hs3, hB2⟩ := jcf hbx1 (.bool (decide (X < 0))) (.slice A1 d1.length cap1); have hby2 := hf2 _ _ _ (by omega) hby1; have hrs2 := hf2 _ _ _ (by omega) hrs1; have hu2 := hk2 _ _ _ (by omega) hu1; have HB2 := hide (hB2 _ _ (hB0.trans (hb1.mono hB0.size)) (Nat.le_refl _)); clear hB2 hk2 hf2
  go_upto_region 2 with (fail)
  rw [← hW2]; clear hW2 g0 g1 g2 g3; obtain ⟨c2, c3, -, -⟩ := hby2.two; have HP := jbd w2 m C _ q (hq0.up HB2.out) (by omega); rw [HY.out] at HP
  go_wp2_with fail
  refine HP.mono ?_; rintro e w3 ⟨hb3, u3, d3, rfl, hu3, hd3⟩; obtain ⟨A3, cap3, rfl⟩ := hu3.form; clear HP c2 c3; have hd3l : d3.length ≤ q.length := by rw [hd3.len]; exact hYl.out
  have hbx3 := hbx2.below hb3 hbx2.lt; have hby3 := hby2.below hb3 hby2.lt; have hrs3 := hrs2.below hb3 hrs2.lt; have hu4 := hu2.below hb3; have s3 := hb3.size; obtain ⟨g0, g1, g2, g3⟩ := hby3.two; obtain ⟨w4, hW4, hby4, hf4, hk4, hs5, hB4⟩ := jcf hby3 (.bool (decide (Y < 0))) (.slice A3 d3.length cap3); have hbx4 := hf4 _ _ _ (by omega) hbx3; have hrs4 := hf4 _ _ _ (by omega) hrs3; have hp5 := hk4 _ _ _ (by omega) hu4; have hq5 := hk4 _ _ _ (by omega) hu3; have HB4 := hide (hB4 _ _ (HB2.out.trans (hb3.mono (by omega))) (by omega)); clear hB4 hk4 hf4
  go_upto_region 3 with (fail)
  rw [← hW4]; clear hW4 g0 g1 g2 g3; obtain ⟨nx, HNX⟩ : ∃ b, Hid (decide (X < 0) = b) := ⟨_, hide rfl⟩; obtain ⟨ny, HNY⟩ : ∃ b, Hid (decide (Y < 0) = b) := ⟨_, hide rfl⟩; have HVX : Hid (ival nx X.natAbs = X) := hide (by rw [← HNX.out]; exact jas X); have HVY : Hid (ival ny Y.natAbs = Y) := hide (by rw [← HNY.out]; exact jas Y); rw [HNX.out] at hbx4; rw [HNY.out] at hby4; obtain ⟨c0, c1, -, -⟩ := hbx4.two; obtain ⟨c2, c3, -, -⟩ := hby4.two; have hs6 : w.heap.size + 2 < w4.heap.size := by omega
  have HV1 := hide hd1.val; have HV3 := hide hd3.val; obtain ⟨S, HS⟩ : ∃ S, Hid (X + Y = S) := ⟨_, hide rfl⟩; have hl1 : d1.length ≤ 60000 := by omega
  have hl3 : d3.length ≤ 60000 := by omega
  by_cases hnm : nx = ny
  · subst hnm
    have d0 : (nx == nx) = true := by simp
    have HR : Hid (ival nx (val W d1 + val W d3) = X + Y) := hide (by rw [HV1.out, HV3.out, jl8, HVX.out, HVY.out])
    go_wp2_with fail
    go_region_held3 (fun w' => w'.cell? ⟨w.heap.size, 0, none⟩ = some (.bool nx) ∧ w'.cell? ⟨w.heap.size, 1, none⟩ = some (.slice A1 d1.length cap1) ∧ w'.cell? ⟨w.heap.size + 1, 1, none⟩ = some (.slice A3 d3.length cap3)) (go_keep)
      (first
        | (go_at_call 82; refine (jgp _ _ _ _ _ d1 d3 hp5.drew hq5.drew (by omega) (by omega)).mono ?_; rintro e w6 ⟨hb6, uu, d, rfl, hu, hd⟩
           obtain ⟨A6, cap6, rfl⟩ := hu.form; have hdl := jm9 hd hp5.lt hq5.lt hl1 hl3; have hbx6 := hbx4.drew.below hb6 hbx4.lt; have hby6 := hby4.drew.below hb6 hby4.lt; have hrs6 := hrs4.drew.below hb6 hrs4.lt; have HV6 := hide hd.val; have HB6 := hide (HB4.out.drew.trans (hb6.mono HB4.out.size)); obtain ⟨e0, e1, -, -⟩ := hbx6.two; obtain ⟨e2, e3, -, -⟩ := hby6.two)
        | (go_at_call 51; refine (jaq _ nx _ _ d hu (by omega)).mono ?_; rintro e w7 ⟨hb7, u7, d7, rfl, hu7, hd7⟩
           obtain ⟨A7, cap7, rfl⟩ := hu7.form; have hbx7 := hbx6.below hb7 hbx6.lt; have hby7 := hby6.below hb7 hby6.lt; have hrs7 := hrs6.below hb7 hrs6.lt; have HB7 := hide (HB6.out.trans (hb7.mono HB6.out.size)); obtain ⟨f0, f1, -, -⟩ := hbx7.two; obtain ⟨f2, f3, -, -⟩ := hby7.two; obtain ⟨g0, g1, g2, g3⟩ := hrs7.two))
    go_wp2_with fail
    have s6 := hb6.size; simp at s6; refine bodyPost_ret (jac rfl _ _ _ _ _ _ rfl ((hrs7.set_ 0 _).set_ 1 _)) rfl ⟨below2 HB7.out (by omega) _ _, ?_⟩; exact (retZ2 (by omega) (by omega) hu7 hd7 _ _).of (by rw [HV6.out]; exact HR.out)
  · have d0 : (nx == ny) = false := by simp [hnm]
    have HNM := hide hnm; clear hnm
    by_cases hle : val W d3 ≤ val W d1
    · have HR : Hid (ival nx (val W d1 - val W d3) = X + Y) := hide (by rw [jjg nx ny _ _ HNM.out hle, HV1.out, HV3.out, HVX.out, HVY.out])
      go_wp2_with fail
      refine (jes _ _ _ _ _ d1 d3 hp5 hq5 (by omega) (by omega) hle).mono ?_; rintro e w6 ⟨hb6, uu, d, rfl, hu, hd⟩; obtain ⟨A6, cap6, rfl⟩ := hu.form; have hdl := jks hd hp5.lt hl1; have HV6 := hide hd.val; have hbx6 := hbx4.below hb6 hbx4.lt; have hrs6 := hrs4.below hb6 hrs4.lt; have HB6 := hide (HB4.out.trans (hb6.mono HB4.out.size)); have s6 := hb6.size; obtain ⟨e0, e1, -, -⟩ := hbx6.two
      go_wp2_with fail
      refine (jaq _ nx _ _ d hu (by omega)).mono ?_; rintro e w7 ⟨hb7, u7, d7, rfl, hu7, hd7⟩; obtain ⟨A7, cap7, rfl⟩ := hu7.form; have hrs7 := hrs6.below hb7 hrs6.lt; have HB7 := hide (HB6.out.trans (hb7.mono HB6.out.size)); obtain ⟨g0, g1, g2, g3⟩ := hrs7.two
      go_wp2_with fail
      refine bodyPost_ret (jac rfl _ _ _ _ _ _ rfl ((hrs7.set_ 0 _).set_ 1 _)) rfl ⟨below2 HB7.out (by omega) _ _, ?_⟩; exact (retZ2 (by omega) (by omega) hu7 hd7 _ _).of (by rw [HV6.out]; exact HR.out)
    · have hle' : val W d1 ≤ val W d3 := by omega
      have hlt : val W d1 < val W d3 := by omega
      have HR : Hid (ival ny (val W d3 - val W d1) = X + Y) := hide (by rw [jjh nx ny _ _ HNM.out hle', HV1.out, HV3.out, HVX.out, HVY.out]); clear hle
      go_wp2_with fail
      refine (jhi _ _ _ _ _ d1 d3 hp5 hq5 (by omega) (by omega) hlt).mono ?_; rintro e w6 ⟨hb6, rfl⟩; have hbx6 := hbx4.below hb6 hbx4.lt; have hby6 := hby4.below hb6 hby4.lt; have hrs6 := hrs4.below hb6 hrs4.lt; have hp6 := hp5.below hb6; have hq6 := hq5.below hb6; have HB6 := hide (HB4.out.trans (hb6.mono HB4.out.size)); have s6 := hb6.size; obtain ⟨e0, e1, -, -⟩ := hbx6.two; obtain ⟨e2, e3, -, -⟩ := hby6.two
      go_wp2_with fail
      refine (jes _ _ _ _ _ d3 d1 hq6 hp6 (by omega) (by omega) hle').mono ?_; rintro e w7 ⟨hb7, uu, d, rfl, hu, hd⟩; obtain ⟨A7, cap7, rfl⟩ := hu.form; have hdl := jks hd hq5.lt hl3; have HV7 := hide hd.val; have hby7 := hby6.below hb7 hby6.lt; have hrs7 := hrs6.below hb7 hrs6.lt; have HB7 := hide (HB6.out.trans (hb7.mono HB6.out.size)); have s7 := hb7.size; obtain ⟨f0, f1, -, -⟩ := hby7.two
      go_wp2_with fail
      refine (jaq _ ny _ _ d hu (by omega)).mono ?_; rintro e w8 ⟨hb8, u8, d8, rfl, hu8, hd8⟩; obtain ⟨A8, cap8, rfl⟩ := hu8.form; have hrs8 := hrs7.below hb8 hrs7.lt; have HB8 := hide (HB7.out.trans (hb8.mono HB7.out.size)); obtain ⟨g0, g1, g2, g3⟩ := hrs8.two
      go_wp2_with fail
      refine bodyPost_ret (jac rfl _ _ _ _ _ _ rfl ((hrs8.set_ 0 _).set_ 1 _)) rfl ⟨below2 HB8.out (by omega) _ _, ?_⟩; exact (retZ2 (by omega) (by omega) hu8 hd8 _ _).of (by rw [HV7.out]; exact HR.out)
end
end
section
section
open Go.RowKit
open L (val dig nth)
theorem jjo (w : World) (n m : Bool) (B C : Nat) (v u : Value) (p q : List Nat) (hp : Nums w B v p) (hq : Nums w C u q) (hpl : p.length ≤ 60000) (hql : q.length ≤ 60000) :
    Calls Tryz.prog 59 #[.agg #[.bool n, v], .agg #[.bool m, u]] w fun e w' => Below w.heap.size w w' ∧ RetZ w.heap.size (ival n (val W p) - ival m (val W q)) e w' := by
  have hp0 := hp; have hq0 := hq; have HLQ := hide hq.lt; obtain ⟨A, cap, rfl, -, -, -, hcp⟩ := hp; obtain ⟨A', cap', rfl, -, -, -, hcq⟩ := hq; obtain ⟨W0, hW, hbx, hby, hrs, hB0, hs⟩ := jdt w 25 25 (.bool n) (.slice A p.length cap) (.bool m) (.slice A' q.length cap') (.bool false) (.slice none 0 0); have hp1 := hp0.up hB0; have hq1 := hq0.up hB0; have hs2 : w.heap.size + 2 < W0.heap.size := by omega
  have hn1 : ¬ (w.heap.size = w.heap.size + 1 + 1) := by omega
  have hn2 : ¬ (w.heap.size + 1 + 1 = w.heap.size) := by omega
  clear hs hcp hcq; obtain ⟨c0, c1, -, -⟩ := hbx.two; obtain ⟨c2, c3, -, -⟩ := hby.two; obtain ⟨Y, HY⟩ : ∃ z, Hid (-ival m (val W q) = z) := ⟨_, hide rfl⟩; have HPN := jfh W0.drew m C _ q hq1.drew (by omega); rw [HY.out] at HPN; have HPN := hide HPN; have hYl : Hid (Y.natAbs < W ^ q.length) := hide (by rw [← HY.out, Int.natAbs_neg]; exact jc3 HLQ.out); have HR : Hid (ival n (val W p) + Y = ival n (val W p) - ival m (val W q)) := hide (by rw [← HY.out]; omega)
  go_enter Tryz.func59, Tryz.ntmps59
  go_wp2_with fail
  rw [← hW]; clear hW
  go_region_held3 (fun w' => w'.cell? ⟨w.heap.size, 0, none⟩ = some (.bool n) ∧ w'.cell? ⟨w.heap.size, 1, none⟩ = some (.slice A p.length cap) ∧ w'.cell? ⟨w.heap.size + 1, 0, none⟩ = some (.bool m) ∧ w'.cell? ⟨w.heap.size + 1, 1, none⟩ = some (.slice A' q.length cap')) (go_keep)
    (first
      | (go_at_call 88; (with_reducible refine HPN.out.mono ?_); rintro e w1 ⟨hb1, uu, d, rfl, hu, hd⟩
         obtain ⟨A1, cap1, rfl⟩ := hu.form; have hdl : d.length ≤ q.length := by rw [hd.len]; exact hYl.out
         have hbx1 := hbx.drew.below hb1 hbx.lt; have hby1 := hby.drew.below hb1 hby.lt; have hrs1 := hrs.drew.below hb1 hrs.lt; have hp2 := hp1.drew.below hb1; have HV := hide (show ival (decide (Y < 0)) (val W d) = Y from by rw [hd.val, jas]); have HB1 := hide (hB0.drew.trans (hb1.mono hB0.size)); obtain ⟨e0, e1, -, -⟩ := hbx1.two; obtain ⟨e2, e3, -, -⟩ := hby1.two; have HPA := jfi w1 n (decide (Y < 0)) B _ _ _ p d hp2 hu hpl (by omega); rw [HV.out, HR.out] at HPA; have HPA := hide HPA)
      | (go_at_call 42; (with_reducible refine HPA.out.mono ?_); rintro e w2 ⟨hb2, u2, d2, rfl, hu2, hd2⟩
         obtain ⟨A2, cap2, rfl⟩ := hu2.form; have hbx2 := hbx1.below hb2 hbx1.lt; have hby2 := hby1.below hb2 hby1.lt; have hrs2 := hrs1.below hb2 hrs1.lt; have HB2 := hide (HB1.out.trans (hb2.mono HB1.out.size)); obtain ⟨f0, f1, -, -⟩ := hbx2.two; obtain ⟨f2, f3, -, -⟩ := hby2.two; obtain ⟨g0, g1, g2, g3⟩ := hrs2.two))
  go_wp2_with fail
  have s1 := hb1.size; have s2 := hb2.size; simp at s1; refine bodyPost_ret (jac rfl _ _ _ _ _ _ rfl ((hrs2.set_ 0 _).set_ 1 _)) rfl ⟨below2 HB2.out (by omega) _ _, ?_⟩; exact retZ2 (by omega) (by omega) hu2 hd2 _ _
theorem jkt {c t : Nat} (h : c < 64 * t) : 2 ^ c < W ^ t := Nat.lt_of_lt_of_le (Nat.pow_lt_pow_right (by omega) h) (jhd (Nat.le_refl _))
theorem floorR (N k : Nat) : ival true ((N + (2 ^ k - 1)) / 2 ^ k) = ival true N / 2 ^ k := by
  have h2 := Nat.two_pow_pos k
  by_cases h : N / 2 ^ k * 2 ^ k = N
  · rw [← jg6 N k h]
    congr 1
    have : N + (2 ^ k - 1) = (2 ^ k - 1) + 2 ^ k * (N / 2 ^ k) := by rw [Nat.mul_comm (2 ^ k), h]; omega
    rw [this, Nat.add_mul_div_left _ _ h2, Nat.div_eq_of_lt (by omega)]; omega
  · rw [← jg7 N k h]
    congr 1
    have h1 := Nat.div_add_mod N (2 ^ k); have h3 := Nat.mod_lt N h2; have h4 : N % 2 ^ k ≠ 0 := by intro h0; apply h; rw [Nat.mul_comm]; omega
    have : N + (2 ^ k - 1) = (N % 2 ^ k - 1) + 2 ^ k * (N / 2 ^ k + 1) := by rw [Nat.mul_add]; omega
    rw [this, Nat.add_mul_div_left _ _ h2, Nat.div_eq_of_lt (by omega)]; omega
set_option maxRecDepth 100000 in
theorem jjp (w : World) (n : Bool) (B : Nat) (v : Value) (l : List Nat) (k : Int) (h : Nums w B v l) (hl : l.length ≤ 60000) (hk0 : -9223372036854775808 ≤ k) (hk1 : k ≤ 9223372036854775807) :
    Calls Tryz.prog 87 #[.agg #[.bool n, v], .int .i64 k] w fun e w' => Below w.heap.size w w' ∧ RetZ w.heap.size (ival n (val W l) / 2 ^ clampN k) e w' := by
  have h0 := h; have HLT := hide h.lt; obtain ⟨A, cap, rfl, -, -, -, hc⟩ := h; obtain ⟨W0, hW, hbx, hrs, hB0, hs⟩ := jb7 w 25 25 (.bool n) (.slice A l.length cap) (.bool false) (.slice none 0 0); have h1 := h0.up hB0; have hs2 : w.heap.size + 1 < W0.heap.size := by omega
  clear hs hc; obtain ⟨c0, c1, -, -⟩ := hbx.two; obtain ⟨z, HZ⟩ : ∃ z, Hid (ival n (val W l) = z) := ⟨_, hide rfl⟩; have hzl : Hid (z.natAbs < W ^ l.length) := hide (by rw [← HZ.out]; exact jc3 HLT.out); have HP := jbd W0 n B _ l h1 (by omega); rw [HZ.out] at HP ⊢; have hck := jci k; obtain ⟨c, HC⟩ : ∃ c, Hid (clampN k = c) := ⟨_, hide rfl⟩; rw [HC.out] at hck ⊢; obtain ⟨R, HR⟩ : ∃ z', Hid (z / 2 ^ c = z') := ⟨_, hide rfl⟩; rw [HR.out]
  go_enter Tryz.func87, Tryz.ntmps87
  go_upto_region 1 with (fail)
  rw [← hW]; clear hW
  go_wp2_with fail
  refine HP.mono ?_; rintro e w1 ⟨hb1, u, d, rfl, hu, hd⟩; obtain ⟨A1, cap1, rfl⟩ := hu.form; clear HP c0 c1; have hdl : d.length ≤ l.length := by rw [hd.len]; exact hzl.out
  have hbx1 := hbx.below hb1 hbx.lt; have hrs1 := hrs.below hb1 hrs.lt; have s1 := hb1.size; obtain ⟨g0, g1, g2, g3⟩ := hbx1.two; obtain ⟨w2, hW2, hbx2, hf2, hk2, hs3, hB2⟩ := jcf hbx1 (.bool (decide (z < 0))) (.slice A1 d.length cap1); have hrs2 := hf2 _ _ _ (by omega) hrs1; have hu2 := hk2 _ _ _ (by omega) hu; have HB2 := hide (hB2 _ _ (hB0.trans (hb1.mono hB0.size)) (Nat.le_refl _)); have HV := hide hd.val; clear hB2 hk2 hf2
  go_upto_region 2 with (fail)
  rw [← hW2]; clear hW2 g0 g1 g2 g3; have hs4 : w.heap.size + 1 < w2.heap.size := by omega
  have hle12 : w1.heap.size ≤ w2.heap.size := by omega
  clear hs3
  by_cases hn : z < 0
  · have d1 : decide (z < 0) = true := decide_eq_true hn
    have HRR : Hid (ival true ((z.natAbs + (2 ^ c - 1)) / 2 ^ c) = R) := hide (by rw [floorR, ← HR.out]; congr 1; have := jas z; rwa [d1] at this); rw [d1] at hbx2; clear hn d1; obtain ⟨e0, e1, -, -⟩ := hbx2.two
    go_wp2_with fail
    have hone := Nums.one w2 1 1 rfl (by unfold W; omega); have HP := jgq _ 0 _ [1] k hone (by simp) hk0 hk1; rw [HC.out, show val W [1] = 1 from by simp [L.val], Nat.one_mul] at HP; refine HP.mono ?_; rintro e w3 ⟨hb3, u3, d3, rfl, hu3, hd3⟩; obtain ⟨A3, cap3, rfl⟩ := hu3.form; clear HP hone; have hB3 := ((Below.refl w2.heap.size w2).alloc (Nat.le_refl _) (.cells #[.int .u64 1] 49)).trans (hb3.mono (by simp)); have hd3l : d3.length ≤ 129 := by rw [hd3.len]; exact jkt (by omega)
    have hu4 := hu2.below hB3; have hbx3 := hbx2.below hB3 hbx2.lt; have hrs3 := hrs2.below hB3 hrs2.lt; have HB3 := hide (HB2.out.trans (hB3.mono HB2.out.size)); have s3 := hB3.size; have HV3 := hide hd3.val
    go_wp2_with fail
    have hone := Nums.one w3 1 1 rfl (by unfold W; omega); have HP := jes _ _ 0 _ _ d3 [1] (hu3.alloc (.cells #[.int .u64 1] 49)) hone (by omega) (by simp) (by rw [HV3.out]; simp [L.val]; exact Nat.one_le_two_pow); rw [HV3.out, show val W [1] = 1 from by simp [L.val]] at HP; refine HP.mono ?_; rintro e w4 ⟨hb4, uu, d4, rfl, hu5, hd5⟩; obtain ⟨A4, cap4, rfl⟩ := hu5.form; clear HP hone; have hB4 := ((Below.refl w3.heap.size w3).alloc (Nat.le_refl _) (.cells #[.int .u64 1] 49)).trans (hb4.mono (by simp)); have hd5l : d4.length ≤ 129 := by rw [hd5.len]; exact Nat.lt_of_le_of_lt (Nat.sub_le _ _) (jkt (by omega))
    have hu6 := hu4.below hB4; have hbx4 := hbx3.below hB4 hbx3.lt; have hrs4 := hrs3.below hB4 hrs3.lt; have HB4 := hide (HB3.out.trans (hB4.mono HB3.out.size)); have s4 := hB4.size; have HV5 := hide hd5.val; obtain ⟨i0, i1, -, -⟩ := hbx4.two; have hL : ∀ x ∈ d, x < W := hu6.lt; have hL5 : ∀ x ∈ d4, x < W := hu5.lt; have HLL := hide hL; have HL5 := hide hL5; clear hL hL5
    go_wp2_with fail
    refine (jgp _ _ _ _ _ d d4 hu6 hu5 (by omega) (by omega)).mono ?_; rintro e w5 ⟨hb5, u5, d6, rfl, hu7, hd6⟩; obtain ⟨A6, cap6, rfl⟩ := hu7.form; have hd6l := jm9 (k := 60129) hd6 HLL.out HL5.out (by omega) (by omega); have hrs5 := hrs4.below hb5 hrs4.lt; have HB5 := hide (HB4.out.trans (hb5.mono HB4.out.size)); have s5 := hb5.size; have HP := jgr w5 _ _ d6 k hu7 (by omega) hk0 hk1; rw [HC.out, hd6.val, HV.out, HV5.out] at HP
    go_wp2_with fail
    refine HP.mono ?_; rintro e w6 ⟨hb6, u6, d7, rfl, hu8, hd7⟩; obtain ⟨A7, cap7, rfl⟩ := hu8.form; clear HP
    have hd7l : d7.length ≤ 60130 := by
      have h2 := hd6.len (m := 60130); rw [HV.out, HV5.out] at h2; rw [hd7.len]; exact Nat.lt_of_le_of_lt (Nat.div_le_self _ _) (h2.1 (by omega))
    have hrs6 := hrs5.below hb6 hrs5.lt; have HB6 := hide (HB5.out.trans (hb6.mono HB5.out.size)); have s6 := hb6.size; have HP := jaq w6 true _ _ d7 hu8 (by omega); rw [hd7.val, HRR.out] at HP
    go_wp2_with fail
    refine HP.mono ?_; rintro e w7 ⟨hb7, u7, d8, rfl, hu9, hd8⟩; obtain ⟨A8, cap8, rfl⟩ := hu9.form; clear HP; have hrs7 := hrs6.below hb7 hrs6.lt; have HB7 := hide (HB6.out.trans (hb7.mono HB6.out.size)); obtain ⟨g0, g1, g2, g3⟩ := hrs7.two
    go_wp2_with fail
    refine bodyPost_ret (jac rfl _ _ _ _ _ _ rfl ((hrs7.set_ 0 _).set_ 1 _)) rfl ⟨below2 HB7.out (by omega) _ _, ?_⟩; exact retZ2 (by omega) (by omega) hu9 hd8 _ _
  · have d1 : decide (z < 0) = false := decide_eq_false hn
    have HRR : Hid (ival false (z.natAbs / 2 ^ c) = R) := hide (by rw [jji, ← HR.out]; congr 1; have := jas z; rwa [d1] at this); rw [d1] at hbx2; clear hn d1; obtain ⟨e0, e1, -, -⟩ := hbx2.two; have HP := jgr w2 _ _ d k hu2 (by omega) hk0 hk1; rw [HC.out, HV.out] at HP
    go_wp2_with fail
    refine HP.mono ?_; rintro e w6 ⟨hb6, u6, d7, rfl, hu8, hd7⟩; obtain ⟨A7, cap7, rfl⟩ := hu8.form; clear HP; have hd7l : d7.length ≤ l.length := by rw [hd7.len]; exact Nat.lt_of_le_of_lt (Nat.div_le_self _ _) hzl.out
    have hrs6 := hrs2.below hb6 hrs2.lt; have HB6 := hide (HB2.out.trans (hb6.mono HB2.out.size)); have s6 := hb6.size; have HP := jaq w6 false _ _ d7 hu8 (by omega); rw [hd7.val, HRR.out] at HP
    go_wp2_with fail
    refine HP.mono ?_; rintro e w7 ⟨hb7, u7, d8, rfl, hu9, hd8⟩; obtain ⟨A8, cap8, rfl⟩ := hu9.form; clear HP; have hrs7 := hrs6.below hb7 hrs6.lt; have HB7 := hide (HB6.out.trans (hb7.mono HB6.out.size)); obtain ⟨g0, g1, g2, g3⟩ := hrs7.two
    go_wp2_with fail
    refine bodyPost_ret (jac rfl _ _ _ _ _ _ rfl ((hrs7.set_ 0 _).set_ 1 _)) rfl ⟨below2 HB7.out (by omega) _ _, ?_⟩; exact retZ2 (by omega) (by omega) hu9 hd8 _ _
end
end
end
end Go.Proofs.YtgbpnpemigddeaaGreat
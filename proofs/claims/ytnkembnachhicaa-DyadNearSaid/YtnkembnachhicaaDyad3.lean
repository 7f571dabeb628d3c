/- dyad: Norm, Of, Sign, Neg, Shift, Log: of one dyad. -/
import Derived.Test.YtnkembnachhicaaDyad2
set_option linter.unusedVariables false
namespace Go.Proofs.Ytnkembnachhicaa
open Go.RowKit
open L (val dig nth)

theorem start1 (w : World) (t : TypeId) (a : Array Value) : ∃ W0, W0 = w.alloc (.cells a t) ∧ Blk W0 w.heap.size t a ∧ Below w.heap.size w W0 ∧ W0.heap.size = w.heap.size + 1 :=
  ⟨_, rfl, Blk.new w t _, (Below.refl _ _).alloc (Nat.le_refl _) _, by simp⟩
/-- A dyad in its normal form. -/
def nM (z x : Int) : Int := pM (cM z x)
def nE (z x : Int) : Int := pE (cM z x) (cE z x)

theorem norm_dyad_calls (w : World) (n : Bool) (B : Nat) (v : Value) (l : List Nat) (x : Int) (h : Nums w B v l) (hl : l.length ≤ 40000) (hx0 : -9223372036854775808 ≤ x) (hx1 : x ≤ 9223372036854775807) :
    Calls Try.prog 32 #[.agg #[.bool n, v, .int .i64 x]] w fun e w' => Below w.heap.size w w' ∧ RetQ w.heap.size (nM (ival n (val W l)) x) (nE (ival n (val W l)) x) e w' := by
  have h0 := h
  obtain ⟨A, cap, rfl, -, -, -, hc⟩ := h
  obtain ⟨W0, hW, hbx, hrs, hB0, hs⟩ := start2 w 26 26 #[.bool n, .slice A l.length cap, .int .i64 x] #[.bool false, .slice none 0 0, .int .i64 0]
  have h1 := h0.up hB0
  have hs2 : w.heap.size + 1 < W0.heap.size := by omega
  clear hs hc
  obtain ⟨z, HZ⟩ : ∃ z, Hid (ival n (val W l) = z) := ⟨_, hide rfl⟩
  obtain ⟨c0, c1, c2, -, -, -⟩ := hbx.three
  go_enter Try.func32, Try.ntmps32
  go_upto_region 1 with (fail)
  rw [← hW]
  clear hW
  go_wp2_with fail
  refine (counts_calls _ n B _ l x h1 (by omega) hx0 hx1).mono ?_
  rintro e w1 ⟨hb1, m, u, d, rfl, hu, hdl, hdv⟩
  rw [HZ.out] at hdv
  obtain ⟨q, HQ⟩ : ∃ q, Hid (cE (ival n (val W l)) x = q) := ⟨_, hide rfl⟩
  have hq := cE_bounds (ival n (val W l)) x
  rw [HQ.out] at hq ⊢
  have HDV := hide hdv
  have hrs1 := hrs.below hb1 (by omega)
  obtain ⟨A1, cap1, rfl⟩ := hu.form
  clear hdv
  go_wp2_with fail
  refine (plain_calls _ m 0 _ d q hu (by omega) (by omega) (by omega)).mono ?_
  rw [HDV.out]
  obtain ⟨zM, HM⟩ : ∃ zM, Hid (pM (cM z x) = zM) := ⟨_, hide rfl⟩
  obtain ⟨zE, HE⟩ : ∃ zE, Hid (pE (cM z x) q = zE) := ⟨_, hide rfl⟩
  rw [HM.out, HE.out]
  rintro e w2 ⟨hb2, u2, d2, rfl, hu2, hd2⟩
  have hrs2 := hrs1.below hb2 (by have := hb1.size; omega)
  obtain ⟨A2, cap2, rfl⟩ := hu2.form
  obtain ⟨j0, j1, j2, j3, j4, j5⟩ := hrs2.three
  go_wp2_with fail
  have s1 := hb1.size
  have s2 := hb2.size
  have e1 : nM (ival n (val W l)) x = zM := by unfold nM; rw [HZ.out, HM.out]
  have e2 : nE (ival n (val W l)) x = zE := by unfold nE; rw [HQ.out, HZ.out, HE.out]
  rw [e1, e2]
  refine bodyPost_ret (results_dyad rfl _ _ _ _ _ _ _ rfl (((hrs2.set_ 0 _).set_ 1 _).set_ 2 _)) rfl ⟨below3 ((hB0.trans (hb1.mono (by omega))).trans (hb2.mono (by omega))) (by omega) _ _ _, ?_⟩
  exact ⟨_, d2, rfl, (nums_low3 hu2 (by omega) _ _ _).mono (by omega), hd2⟩

theorem of_dyad_calls (w : World) (n : Bool) (B : Nat) (v : Value) (l : List Nat) (x : Int) (h : Nums w B v l) (hl : l.length ≤ 40000) (hx0 : -9223372036854775808 ≤ x) (hx1 : x ≤ 9223372036854775807) :
    Calls Try.prog 34 #[.agg #[.bool n, v], .int .i64 x] w fun e w' => Below w.heap.size w w' ∧ RetQ w.heap.size (nM (ival n (val W l)) x) (nE (ival n (val W l)) x) e w' := by
  have h0 := h
  obtain ⟨A, cap, rfl, -, -, -, hc⟩ := h
  obtain ⟨W0, hW, hbx, hrs, hB0, hs⟩ := start2 w 24 26 #[.bool n, .slice A l.length cap] #[.bool false, .slice none 0 0, .int .i64 0]
  have h1 := h0.up hB0
  have hs2 : w.heap.size + 1 < W0.heap.size := by omega
  clear hs hc
  obtain ⟨c0, c1, -, -⟩ := hbx.two
  go_enter Try.func34, Try.ntmps34
  go_upto_region 1 with (fail)
  rw [← hW]
  clear hW
  go_wp2_with fail
  refine (norm_dyad_calls _ n B _ l x h1 (by omega) hx0 hx1).mono ?_
  obtain ⟨zM, HM⟩ : ∃ zM, Hid (nM (ival n (val W l)) x = zM) := ⟨_, hide rfl⟩
  obtain ⟨zE, HE⟩ : ∃ zE, Hid (nE (ival n (val W l)) x = zE) := ⟨_, hide rfl⟩
  rw [HM.out, HE.out]
  rintro e w2 ⟨hb2, u2, d2, rfl, hu2, hd2⟩
  have hrs2 := hrs.below hb2 (by omega)
  obtain ⟨A2, cap2, rfl⟩ := hu2.form
  obtain ⟨j0, j1, j2, j3, j4, j5⟩ := hrs2.three
  go_wp2_with fail
  have s2 := hb2.size
  rw [HM.out, HE.out]
  refine bodyPost_ret (results_dyad rfl _ _ _ _ _ _ _ rfl (((hrs2.set_ 0 _).set_ 1 _).set_ 2 _)) rfl ⟨below3 (hB0.trans (hb2.mono (by omega))) (by omega) _ _ _, ?_⟩
  exact ⟨_, d2, rfl, (nums_low3 hu2 (by omega) _ _ _).mono (by omega), hd2⟩

theorem sign_dyad_calls (w : World) (n : Bool) (B : Nat) (v : Value) (l : List Nat) (x : Int) (h : Nums w B v l) (hl : l.length ≤ 40000) (hx0 : -9223372036854775808 ≤ x) (hx1 : x ≤ 9223372036854775807) :
    Calls Try.prog 38 #[.agg #[.bool n, v, .int .i64 x]] w fun e w' => Below w.heap.size w w' ∧ e = .returned (.int .i64 (cM (ival n (val W l)) x).sign) := by
  have h0 := h
  obtain ⟨A, cap, rfl, -, -, -, hc⟩ := h
  obtain ⟨W0, hW, hbx, hB0, hs⟩ := start1 w 26 #[.bool n, .slice A l.length cap, .int .i64 x]
  have h1 := h0.up hB0
  clear hc
  obtain ⟨c0, c1, c2, -, -, -⟩ := hbx.three
  go_enter Try.func38, Try.ntmps38
  go_upto_region 1 with (fail)
  rw [← hW]
  clear hW
  go_wp2_with fail
  refine (counts_calls _ n B _ l x h1 (by omega) hx0 hx1).mono ?_
  rintro e w1 ⟨hb1, m, u, d, rfl, hu, hdl, hdv⟩
  have HDV := hide hdv
  obtain ⟨A1, cap1, rfl⟩ := hu.form
  obtain ⟨w2, hW2, hbn, hB2, hs2⟩ := start1 w1 24 #[.bool m, .slice A1 d.length cap1]
  clear hdv
  go_upto_region 2 with (fail)
  rw [← hW2]
  clear hW2
  obtain ⟨e0, e1, -, -⟩ := hbn.two
  have hu2 := hu.below hB2
  go_wp2_with fail
  obtain ⟨sg, HS⟩ : ∃ sg, Hid ((cM (ival n (val W l)) x).sign = sg) := ⟨_, hide rfl⟩
  refine (zsign_eq _ m 0 _ d sg (by rw [HDV.out, HS.out]) hu2 (by omega)).mono ?_
  rintro e w3 ⟨hb3, rfl⟩
  have s1 := hb1.size
  go_wp2_with fail
  go_ret
  exact ⟨((hB0.trans (hb1.mono (by omega))).trans (hB2.mono (by omega))).trans (hb3.mono (by omega)), ret_int HS.out.symm⟩

/-- The power of two below a dyad's number. -/
def lgN (z x : Int) : Int := if cM z x = 0 then 0 else cE z x + nbits (cM z x).natAbs - 1
def lgOk (z x : Int) : Bool := decide (cM z x ≠ 0)
theorem log_dyad_calls (w : World) (n : Bool) (B : Nat) (v : Value) (l : List Nat) (x : Int) (h : Nums w B v l) (hl : l.length ≤ 40000) (hx0 : -9223372036854775808 ≤ x) (hx1 : x ≤ 9223372036854775807) :
    Calls Try.prog 36 #[.agg #[.bool n, v, .int .i64 x]] w fun e w' => Below w.heap.size w w' ∧
      e = .returned (.tuple #[.int .i64 (lgN (ival n (val W l)) x), .bool (lgOk (ival n (val W l)) x)]) := by
  have h0 := h
  obtain ⟨A, cap, rfl, -, -, -, hc⟩ := h
  obtain ⟨W0, hW, hbx, hB0, hs⟩ := start1 w 26 #[.bool n, .slice A l.length cap, .int .i64 x]
  have h1 := h0.up hB0
  clear hc
  obtain ⟨c0, c1, c2, -, -, -⟩ := hbx.three
  go_enter Try.func36, Try.ntmps36
  go_upto_region 1 with (fail)
  rw [← hW]
  clear hW
  go_wp2_with fail
  refine (counts_calls _ n B _ l x h1 (by omega) hx0 hx1).mono ?_
  rintro e w1 ⟨hb1, m, u, d, rfl, hu, hdl, hdv⟩
  obtain ⟨q, HQ⟩ : ∃ q, Hid (cE (ival n (val W l)) x = q) := ⟨_, hide rfl⟩
  have hq := cE_bounds (ival n (val W l)) x
  obtain ⟨z, HZ⟩ : ∃ z, Hid (cM (ival n (val W l)) x = z) := ⟨_, hide rfl⟩
  rw [HQ.out] at hq ⊢
  rw [HZ.out] at hdv
  have HDV := hide hdv
  obtain ⟨A1, cap1, rfl⟩ := hu.form
  obtain ⟨w2, hW2, hbn, hB2, hs2⟩ := start1 w1 24 #[.bool m, .slice A1 d.length cap1]
  clear hdv
  go_upto_region 2 with (fail)
  rw [← hW2]
  clear hW2
  obtain ⟨e0, e1, -, -⟩ := hbn.two
  have hu2 := hu.below hB2
  go_wp2_with fail
  obtain ⟨N, HN⟩ : ∃ N, Hid (val W d = N) := ⟨_, hide rfl⟩
  have hnz : z.natAbs = N := by rw [← HDV.out, ival_natAbs, HN.out]
  have hnb : nbits N ≤ 64 * d.length := by
    rw [nbits_le, ← HN.out, ← W_pow]; exact L.val_lt d hu.lt
  refine (zbitlen_calls _ m 0 _ d hu2 (by omega)).mono ?_
  rintro e w3 ⟨hb3, rfl⟩
  rw [HN.out]
  have s1 := hb1.size
  have HB := hide (((hB0.trans (hb1.mono (by omega))).trans (hB2.mono (by omega))).trans (hb3.mono (by omega)))
  by_cases hz : z = 0
  · have hN0 : N = 0 := by rw [← hnz, hz]; rfl
    have hb0 : nbits N = 0 := by rw [hN0]; exact nbits_zero
    rw [hb0]
    go_wp2_with fail
    go_ret2
    refine ⟨HB.out, ?_⟩
    rw [show lgN (ival n (val W l)) x = 0 from by unfold lgN; rw [HZ.out, if_pos hz], show lgOk (ival n (val W l)) x = false from by unfold lgOk; rw [HZ.out]; simp [hz]]
    rfl
  · have hb0 : 0 < nbits N := nbits_pos (by omega)
    have hb1' : ((nbits N : Int) == 0) = false := by rw [beq_eq_false_iff_ne]; omega
    have hw1 : IntKind.i64.wrap (q + (nbits N : Int)) = q + (nbits N : Int) := IntWalk.i64_in _ (by omega)
    have hw2 : IntKind.i64.wrap (q + (nbits N : Int) - 1) = q + (nbits N : Int) - 1 := IntWalk.i64_in _ (by omega)
    go_wp2_with fail
    go_ret2
    refine ⟨HB.out, ?_⟩
    rw [show lgN (ival n (val W l)) x = q + nbits N - 1 from by unfold lgN; rw [HZ.out, if_neg hz, hnz, HQ.out], show lgOk (ival n (val W l)) x = true from by unfold lgOk; rw [HZ.out]; simp [hz]]
    rfl
end Go.Proofs.Ytnkembnachhicaa

/- dyad: level, Cmp, Add, Sub, Mul. -/
import Derived.Test.YtnkembnachhicaaDyad4
set_option linter.unusedVariables false
namespace Go.Proofs.Ytnkembnachhicaa
open Go.RowKit
open L (val dig nth)

theorem start4 (w : World) (t t' t'' t3 : TypeId) (a b c d : Array Value) : ∃ W0, W0 = (((w.alloc (.cells a t)).alloc (.cells b t')).alloc (.cells c t'')).alloc (.cells d t3) ∧ Blk W0 w.heap.size t a ∧ Blk W0 (w.heap.size + 1) t' b ∧
    Blk W0 (w.heap.size + 2) t'' c ∧ Blk W0 (w.heap.size + 3) t3 d ∧ Below w.heap.size w W0 ∧ W0.heap.size = w.heap.size + 4 := by
  obtain ⟨W1, h1, b1, b2, b3, hb, hs⟩ := start3 w t t' t'' a b c
  obtain ⟨W2, h2, b4, hb2, hs2⟩ := start1 W1 t3 d
  refine ⟨W2, by rw [h2, h1], b1.below hb2 (by omega), b2.below hb2 (by omega), b3.below hb2 (by omega), by rw [← hs]; exact b4, hb.trans (hb2.mono (by omega)), by omega⟩

/-- Two integers with one exponent are handed back. -/
def RetL (B : Nat) (X Y low : Int) (e : Ending) (w : World) : Prop :=
  ∃ u1 d1 u2 d2, e = .returned (.tuple #[.agg #[.bool (decide (X < 0)), u1], .agg #[.bool (decide (Y < 0)), u2], .int .i64 low]) ∧ Nums w B u1 d1 ∧ Canon d1 X.natAbs ∧ Nums w B u2 d2 ∧ Canon d2 Y.natAbs
/-- An integer raised from its exponent to a lower one. -/
def lift (z x low : Int) : Int := cM z x * 2 ^ (cE z x - low).toNat
def lowE (z x z' x' : Int) : Int := min (cE z x) (cE z' x')

set_option maxRecDepth 100000 in
theorem level_calls (w : World) (n m : Bool) (B C : Nat) (v u : Value) (l p : List Nat) (x y : Int) (h : Nums w B v l) (hu : Nums w C u p) (hl : l.length ≤ 9000) (hp : p.length ≤ 9000)
    (hx0 : -9223372036854775808 ≤ x) (hx1 : x ≤ 9223372036854775807) (hy0 : -9223372036854775808 ≤ y) (hy1 : y ≤ 9223372036854775807) :
    Calls Try.prog 77 #[.agg #[.bool n, v, .int .i64 x], .agg #[.bool m, u, .int .i64 y]] w fun e w' => Below w.heap.size w w' ∧
      RetL w.heap.size (lift (ival n (val W l)) x (lowE (ival n (val W l)) x (ival m (val W p)) y)) (lift (ival m (val W p)) y (lowE (ival n (val W l)) x (ival m (val W p)) y)) (lowE (ival n (val W l)) x (ival m (val W p)) y) e w' := by
  have h0 := h
  have hu0 := hu
  obtain ⟨A, cap, rfl, -, -, -, hc⟩ := h
  obtain ⟨A', cap', rfl, -, -, -, hc'⟩ := hu
  obtain ⟨W0, hW, hbx, hby, hrs, hrt, hB0, hs⟩ := start4 w 26 26 24 24 #[.bool n, .slice A l.length cap, .int .i64 x] #[.bool m, .slice A' p.length cap', .int .i64 y] #[.bool false, .slice none 0 0] #[.bool false, .slice none 0 0]
  have h1 := h0.up hB0
  have hu1 := hu0.up hB0
  have hs2 : w.heap.size + 3 < W0.heap.size := by omega
  clear hs hc hc'
  obtain ⟨c0, c1, c2, -, -, -⟩ := hbx.three
  obtain ⟨zx, HZX⟩ : ∃ z, Hid (ival n (val W l) = z) := ⟨_, hide rfl⟩
  obtain ⟨zy, HZY⟩ : ∃ z, Hid (ival m (val W p) = z) := ⟨_, hide rfl⟩
  go_enter Try.func77, Try.ntmps77
  go_upto_region 1 with (fail)
  rw [← hW]
  clear hW
  have HP := counts_calls W0 n B _ l x h1 (by omega) hx0 hx1
  obtain ⟨q, HQ⟩ : ∃ q, Hid (cE zx x = q) := ⟨_, hide rfl⟩
  have hq := cE_bounds zx x
  obtain ⟨zX, HX⟩ : ∃ z, Hid (cM zx x = z) := ⟨_, hide rfl⟩
  rw [HZX.out, HQ.out, HX.out] at HP
  rw [HQ.out] at hq
  go_wp2_with fail
  refine HP.mono ?_
  rintro e w1 ⟨hb1, m1, u1, d1, rfl, hu1', hdl1, hdv1⟩
  have HDV1 := hide hdv1
  obtain ⟨A1, cap1, rfl⟩ := hu1'.form
  obtain ⟨w2, hW2, hbn, hB2, hs3⟩ := start1 w1 24 #[.bool m1, .slice A1 d1.length cap1]
  have s1 := hb1.size
  have hby2 := (hby.below hb1 (by omega)).below hB2 (by omega)
  obtain ⟨e0, e1, e2, -, -, -⟩ := hby2.three
  have hu2 := (hu1.below hb1).below hB2
  clear hdv1 HP
  have HP := counts_calls w2 m C _ p y hu2 (by omega) hy0 hy1
  obtain ⟨r, HR⟩ : ∃ q, Hid (cE zy y = q) := ⟨_, hide rfl⟩
  have hr := cE_bounds zy y
  obtain ⟨zY, HY⟩ : ∃ z, Hid (cM zy y = z) := ⟨_, hide rfl⟩
  rw [HZY.out, HR.out, HY.out] at HP
  rw [HR.out] at hr
  go_upto_region 2 with (fail)
  rw [← hW2]
  clear hW2
  go_wp2_with fail
  refine HP.mono ?_
  rintro e w3 ⟨hb3, m3, u3, d3, rfl, hu3, hdl3, hdv3⟩
  have HDV3 := hide hdv3
  obtain ⟨A3, cap3, rfl⟩ := hu3.form
  obtain ⟨w4, hW4, hbm, hB4, hs4⟩ := start1 w3 24 #[.bool m3, .slice A3 d3.length cap3]
  clear hdv3 HP
  have s3 := hb3.size
  obtain ⟨low, HL⟩ : ∃ low, Hid (min q r = low) := ⟨_, hide rfl⟩
  go_upto_region 3 with (fail)
  rw [← hW4]
  clear hW4
  go_upto_region 4 with (fail)
  rw [HL.out]
  have HB4 := hide ((((hB0.trans (hb1.mono (by omega))).trans (hB2.mono (by omega))).trans (hb3.mono (by omega))).trans (hB4.mono (by omega)))
  have hbn4 := (hbn.below hb3 (by omega)).below hB4 (by omega)
  have hrs4 := (((hrs.below hb1 (by omega)).below hB2 (by omega)).below hb3 (by omega)).below hB4 (by omega)
  have hrt4 := (((hrt.below hb1 (by omega)).below hB2 (by omega)).below hb3 (by omega)).below hB4 (by omega)
  have hx4 := ((hu1'.below hB2).below hb3).below hB4
  have hy4 := hu3.below hB4
  obtain ⟨k1, hk1⟩ : ∃ k : Nat, q - low = k := ⟨(q - low).toNat, by have := HL.out; omega⟩
  obtain ⟨k2, hk2⟩ : ∃ k : Nat, r - low = k := ⟨(r - low).toNat, by have := HL.out; omega⟩
  have HK1 := hide hk1
  have HK2 := hide hk2
  have hw1 : IntKind.i64.wrap (q - low) = (k1 : Int) := by rw [IntWalk.i64_in _ (by have := HL.out; omega)]; exact hk1
  have hw2 : IntKind.i64.wrap (r - low) = (k2 : Int) := by rw [IntWalk.i64_in _ (by have := HL.out; omega)]; exact hk2
  have hkb1 : k1 ≤ 8000 := by have := HL.out; omega
  have hkb2 : k2 ≤ 8000 := by have := HL.out; omega
  obtain ⟨X, HXX⟩ : ∃ X, Hid (zX * 2 ^ k1 = X) := ⟨_, hide rfl⟩
  obtain ⟨Y, HYY⟩ : ∃ Y, Hid (zY * 2 ^ k2 = Y) := ⟨_, hide rfl⟩
  have HP1 : Hid (Calls Try.prog 66 #[.agg #[.bool m1, .slice A1 d1.length cap1], .int .i64 k1] w4.drew fun e w' => Below w4.heap.size w4.drew w' ∧ RetZ w4.heap.size X e w') := hide (by
    have := up_calls w4.drew m1 0 _ d1 k1 hx4.drew (by omega) hkb1
    rw [HDV1.out, HXX.out] at this
    exact this)
  have hn1 : ¬ w1.heap.size = w.heap.size + 2 := by omega
  have hn2 : ¬ w.heap.size + 2 = w1.heap.size := by omega
  have hn3 : ¬ w1.heap.size = w.heap.size + 3 := by omega
  have hn4 : ¬ w.heap.size + 3 = w1.heap.size := by omega
  have hn5 : ¬ w3.heap.size = w.heap.size + 2 := by omega
  have hn6 : ¬ w.heap.size + 2 = w3.heap.size := by omega
  have hn7 : ¬ w3.heap.size = w.heap.size + 3 := by omega
  have hn8 : ¬ w.heap.size + 3 = w3.heap.size := by omega
  obtain ⟨p0, p1, -, -⟩ := hbn4.two
  obtain ⟨p2, p3, -, -⟩ := hbm.two
  clear hk1 hk2
  go_region_held3 (fun w' => w'.cell? ⟨w1.heap.size, 0, none⟩ = some (.bool m1) ∧ w'.cell? ⟨w1.heap.size, 1, none⟩ = some (.slice A1 d1.length cap1) ∧ w'.cell? ⟨w3.heap.size, 0, none⟩ = some (.bool m3) ∧ w'.cell? ⟨w3.heap.size, 1, none⟩ = some (.slice A3 d3.length cap3)) (go_keep)
    (first
      | (go_at_call 66; (with_reducible refine HP1.out.mono ?_); rintro e w5 ⟨hb5, u5, d5, rfl, hu5, hd5⟩
         obtain ⟨A5, cap5, rfl⟩ := hu5.form
         have hbn5 := hbn4.drew.below hb5 hbn4.lt
         have hbm5 := hbm.drew.below hb5 hbm.lt
         have hrs5 := hrs4.drew.below hb5 hrs4.lt
         have hrt5 := hrt4.drew.below hb5 hrt4.lt
         have hy5 := hy4.drew.below hb5
         obtain ⟨f0, f1, -, -⟩ := hbn5.two
         obtain ⟨f2, f3, -, -⟩ := hbm5.two
         have HP2 : Hid (Calls Try.prog 66 #[.agg #[.bool m3, .slice A3 d3.length cap3], .int .i64 k2] w5 fun e w' => Below w5.heap.size w5 w' ∧ RetZ w5.heap.size Y e w') := hide (by
           have := up_calls w5 m3 0 _ d3 k2 hy5 (by omega) hkb2
           rw [HDV3.out, HYY.out] at this
           exact this))
      | (go_at_call 66; (with_reducible refine HP2.out.mono ?_); rintro e w6 ⟨hb6, u6, d6, rfl, hu6, hd6⟩
         obtain ⟨A6, cap6, rfl⟩ := hu6.form
         have hbn6 := hbn5.below hb6 hbn5.lt
         have hbm6 := hbm5.below hb6 hbm5.lt
         have hrs6 := hrs5.below hb6 hrs5.lt
         have hrt6 := hrt5.below hb6 hrt5.lt
         have hu5' := hu5.below hb6
         obtain ⟨g0, g1, -, -⟩ := hbn6.two
         obtain ⟨g2, g3, -, -⟩ := hbm6.two
         obtain ⟨j0, j1, j2, j3⟩ := hrs6.two
         obtain ⟨i0, i1, i2, i3⟩ := hrt6.two))
  go_wp2_with fail
  have s5 : w4.heap.size ≤ w5.heap.size := hb5.size
  have s6 := hb6.size
  have HBB := hide ((HB4.out.drew.trans (hb5.mono (by omega))).trans (hb6.mono (by omega)))
  have hr1 := blk_far2 (r := w.heap.size + 3) (blk_two (x := .bool (decide (X < 0))) (y := .slice A5 d5.length cap5) hrs6) (by omega) (.bool (decide (Y < 0))) (.slice A6 d6.length cap6)
  have hr2 := blk_two (x := .bool (decide (Y < 0))) (y := .slice A6 d6.length cap6) (blk_far2 (r := w.heap.size + 2) hrt6 (by omega) (.bool (decide (X < 0))) (.slice A5 d5.length cap5))
  have hu7 := nums_low2 (r := w.heap.size + 3) (nums_low2 (r := w.heap.size + 2) hu5' (by omega) (.bool (decide (X < 0))) (.slice A5 d5.length cap5)) (by omega) (.bool (decide (Y < 0))) (.slice A6 d6.length cap6)
  have hv7 := nums_low2 (r := w.heap.size + 3) (nums_low2 (r := w.heap.size + 2) hu6 (by omega) (.bool (decide (X < 0))) (.slice A5 d5.length cap5)) (by omega) (.bool (decide (Y < 0))) (.slice A6 d6.length cap6)
  have hlow : lowE zx x zy y = low := by unfold lowE; rw [HQ.out, HR.out, HL.out]
  have hX : lift zx x low = X := by unfold lift; rw [HX.out, HQ.out, HK1.out, Int.toNat_natCast, HXX.out]
  have hY : lift zy y low = Y := by unfold lift; rw [HY.out, HR.out, HK2.out, Int.toNat_natCast, HYY.out]
  rw [HZX.out, HZY.out, hlow, hX, hY]
  refine bodyPost_ret (results_int_int_tmp rfl _ _ _ _ _ _ _ _ _ _ rfl hr1 rfl hr2) rfl ⟨below2 (below2 HBB.out (by omega) _ _) (by omega) _ _, ?_⟩
  exact ⟨_, d5, _, d6, rfl, hu7.mono (by omega), hd5, hv7.mono (by omega), hd6⟩
end Go.Proofs.Ytnkembnachhicaa

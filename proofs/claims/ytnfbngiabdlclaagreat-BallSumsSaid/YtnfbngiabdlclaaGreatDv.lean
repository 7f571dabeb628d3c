/- hairlineref05.Mul. -/
import Derived.Test.YtnfbngiabdlclaaGreatDz
import Derived.Test.YtnfbngiabdlclaaGreatBa9
set_option linter.unusedVariables false
set_option linter.unusedSimpArgs false
namespace Go.Proofs.YtnfbngiabdlclaaGreat
open Go.RowKit
open L (val dig nth)

section
variable {w : World} {k B g : Nat} {t : TypeId} {n0 n1 n2 n3 : Bool} {A0 A1 A2 A3 : Option Addr} {l0 l1 l2 l3 c0 c1 c2 c3 : Nat} {z0 z1 z2 z3 : Int}
theorem least4_calls (h : Blk w g t #[.bool n0, .slice A0 l0 c0, .bool n1, .slice A1 l1 c1, .bool n2, .slice A2 l2 c2, .bool n3, .slice A3 l3 c3]) (h0 : QB w B k n0 A0 l0 c0 z0) (h1 : QB w B k n1 A1 l1 c1 z1) (h2 : QB w B k n2 A2 l2 c2 z2) (h3 : QB w B k n3 A3 l3 c3 z3) (hk : k ≤ 1000) :
    Calls Tryz.prog 70 #[.slice (some ⟨g, 0, none⟩) 4 4] w fun e w' => Below w.heap.size w w' ∧ ∃ n A l c, e = .returned (.agg #[.bool n, .slice A l c]) ∧ QB w' B k n A l c (min4 z0 z1 z2 z3) := by
  have HI := Ints.four h h0 h1 h2 h3
  refine (least_calls HI (by omega) (by omega) hk).mono ?_
  rintro e w' ⟨hb, j, hj, rfl, hmin⟩
  exact ⟨hb, _, _, _, _, rfl, pick_min hj hmin ▸ (HI.below hb).q j hj⟩
theorem greatest4_calls (h : Blk w g t #[.bool n0, .slice A0 l0 c0, .bool n1, .slice A1 l1 c1, .bool n2, .slice A2 l2 c2, .bool n3, .slice A3 l3 c3]) (h0 : QB w B k n0 A0 l0 c0 z0) (h1 : QB w B k n1 A1 l1 c1 z1) (h2 : QB w B k n2 A2 l2 c2 z2) (h3 : QB w B k n3 A3 l3 c3 z3) (hk : k ≤ 1000) :
    Calls Tryz.prog 71 #[.slice (some ⟨g, 0, none⟩) 4 4] w fun e w' => Below w.heap.size w w' ∧ ∃ n A l c, e = .returned (.agg #[.bool n, .slice A l c]) ∧ QB w' B k n A l c (max4 z0 z1 z2 z3) := by
  have HI := Ints.four h h0 h1 h2 h3
  refine (greatest_calls HI (by omega) (by omega) hk).mono ?_
  rintro e w' ⟨hb, j, hj, rfl, hmin⟩
  exact ⟨hb, _, _, _, _, rfl, pick_max hj hmin ▸ (HI.below hb).q j hj⟩
end
theorem min4_lt {a b c d m : Int} {N : Nat} (ha : a.natAbs < N) (hb : b.natAbs < N) (hc : c.natAbs < N) (hd : d.natAbs < N) (h : min4 a b c d = m) : m.natAbs < N := by unfold min4 at h; omega
theorem max4_lt {a b c d m : Int} {N : Nat} (ha : a.natAbs < N) (hb : b.natAbs < N) (hc : c.natAbs < N) (hd : d.natAbs < N) (h : max4 a b c d = m) : m.natAbs < N := by unfold max4 at h; omega
set_option maxHeartbeats 4000000 in
set_option maxRecDepth 100000 in
theorem mulR5_calls {w : World} {k : Nat} {n0 n1 m0 m1 : Bool} {A0 A1 B0 B1 : Option Addr} {l0 l1 j0 j1 c0 c1 d0 d1 : Nat} {x0 x1 y0 y1 : Int} (qa qb : Int) (hx0 : Q w k n0 A0 l0 c0 x0) (hx1 : Q w k n1 A1 l1 c1 x1) (hy0 : Q w k m0 B0 j0 d0 y0) (hy1 : Q w k m1 B1 j1 d1 y1) (hk : k ≤ 400) :
    Calls Tryz.prog 39 #[.agg #[.bool n0, .slice A0 l0 c0, .bool n1, .slice A1 l1 c1, .int .i64 qa], .agg #[.bool m0, .slice B0 j0 d0, .bool m1, .slice B1 j1 d1, .int .i64 qb]] w fun e w' => Below w.heap.size w w' ∧ RetE w.heap.size (k + k + 125) (pairB x0 x1 qa y0 y1 qb) (vDn (min4 (x0 * y0) (x0 * y1) (x1 * y0) (x1 * y1)) qa) (vOv (max4 (x0 * y0) (x0 * y1) (x1 * y0) (x1 * y1)) qa) qa 1 e w' := by
  obtain ⟨W0, hW, ha, hb, hr, hB0, hs⟩ := start3 w 27 27 27 #[.bool n0, .slice A0 l0 c0, .bool n1, .slice A1 l1 c1, .int .i64 qa] #[.bool m0, .slice B0 j0 d0, .bool m1, .slice B1 j1 d1, .int .i64 qb] #[.bool false, .slice none 0 0, .bool false, .slice none 0 0, .int .i64 0]
  have HB := hide hB0
  have hsz : w.heap.size + 3 ≤ W0.heap.size := by omega
  clear hs hB0
  obtain ⟨a0, a1, a2, a3, a4, -⟩ := ha.five
  obtain ⟨b0, b1, b2, b3, b4, -⟩ := hb.five
  have HP := hide (both_calls qa qb (hx0.at_ HB) (hx1.at_ HB) (hy0.at_ HB) (hy1.at_ HB) hk)
  obtain ⟨p0, Hp0⟩ : ∃ z, Hid (x0 * y0 = z) := ⟨_, hide rfl⟩
  have HLp0 : Hid (p0.natAbs < W ^ (k + k)) := hide (by rw [← Hp0.out]; exact mul_lt hx0.lt hy0.lt)
  obtain ⟨p1, Hp1⟩ : ∃ z, Hid (x0 * y1 = z) := ⟨_, hide rfl⟩
  have HLp1 : Hid (p1.natAbs < W ^ (k + k)) := hide (by rw [← Hp1.out]; exact mul_lt hx0.lt hy1.lt)
  obtain ⟨p2, Hp2⟩ : ∃ z, Hid (x1 * y0 = z) := ⟨_, hide rfl⟩
  have HLp2 : Hid (p2.natAbs < W ^ (k + k)) := hide (by rw [← Hp2.out]; exact mul_lt hx1.lt hy0.lt)
  obtain ⟨p3, Hp3⟩ : ∃ z, Hid (x1 * y1 = z) := ⟨_, hide rfl⟩
  have HLp3 : Hid (p3.natAbs < W ^ (k + k)) := hide (by rw [← Hp3.out]; exact mul_lt hx1.lt hy1.lt)
  rw [Hp0.out, Hp1.out, Hp2.out, Hp3.out]
  obtain ⟨mn, Hmn⟩ : ∃ z, Hid (min4 p0 p1 p2 p3 = z) := ⟨_, hide rfl⟩
  rw [Hmn.out]
  obtain ⟨mx, Hmx⟩ : ∃ z, Hid (max4 p0 p1 p2 p3 = z) := ⟨_, hide rfl⟩
  rw [Hmx.out]
  obtain ⟨f, Hf⟩ : ∃ z, Hid (vDn mn qa = z) := ⟨_, hide rfl⟩
  rw [Hf.out]
  obtain ⟨c, Hc⟩ : ∃ z, Hid (vOv mx qa = z) := ⟨_, hide rfl⟩
  rw [Hc.out]
  have HQ := fun h => pairB_q (x := x0) (y := x1) (q := qa) (x' := y0) (y' := y1) (q' := qb) h
  obtain ⟨mq, HQQ⟩ : ∃ b, Hid (pairB x0 x1 qa y0 y1 qb = b) := ⟨_, hide rfl⟩
  rw [HQQ.out] at HP HQ
  rw [HQQ.out]
  have HQ' := hide HQ
  clear HQ
  go_enter Tryz.func39, Tryz.ntmps39
  go_upto_region 1 with (fail)
  rw [← hW]
  clear hW
  go_wp2_with fail
  refine HP.out.mono ?_
  rintro e w1 ⟨vb, rfl⟩
  clear HP a0 a1 a2 a3 a4 b0 b1 b2 b3 b4
  have ha := ha.below vb ha.lt
  have hb := hb.below vb hb.lt
  have hr := hr.below vb hr.lt
  have HB := hide (HB.out.trans (vb.mono HB.out.size))
  have hsz := Nat.le_trans hsz vb.size
  clear vb
  cases mq with
  | false =>
    obtain ⟨r0, r1, r2, r3, r4, r5, r6, r7, r8, r9⟩ := hr.five
    go_wp2_with fail
    obtain ⟨W2, hW2, bl, -, kb, -⟩ := set5_all hr (.bool false) (.slice none 0 0) (.bool false) (.slice none 0 0) (.int .i64 0)
    rw [← hW2]
    exact bodyPost_ret (results_ball_tmp rfl _ _ _ _ _ _ _ _ _ rfl bl) rfl ⟨kb _ _ HB.out (by omega), RetE.no⟩
  | true =>
    obtain ⟨g0, g1, -, -, -⟩ := HQ'.out rfl
    clear HQ'
    go_upto_region 4 with (fail)
    have HV0 := hide HB.out.drew
    have HM0 := hide (d_zmul (hx0.at_ HV0) (hy0.at_ HV0) (by omega) (by omega))
    rw [Hp0.out] at HM0
    obtain ⟨a0, a1, a2, a3, a4, -⟩ := ha.five
    obtain ⟨b0, b1, b2, b3, b4, -⟩ := hb.five
    have tok0 : True := trivial
    go_region_held3 (fun w' => w'.cell? ⟨w.heap.size, 0, none⟩ = some (.bool n0) ∧ w'.cell? ⟨w.heap.size, 1, none⟩ = some (.slice A0 l0 c0) ∧ w'.cell? ⟨w.heap.size, 2, none⟩ = some (.bool n1) ∧ w'.cell? ⟨w.heap.size, 3, none⟩ = some (.slice A1 l1 c1) ∧ w'.cell? ⟨w.heap.size + 1, 0, none⟩ = some (.bool m0) ∧ w'.cell? ⟨w.heap.size + 1, 1, none⟩ = some (.slice B0 j0 d0) ∧ w'.cell? ⟨w.heap.size + 1, 2, none⟩ = some (.bool m1) ∧ w'.cell? ⟨w.heap.size + 1, 3, none⟩ = some (.slice B1 j1 d1)) (go_keep)
      (first
        | (go_at_call 69; have _t := tok0; (with_reducible refine HM0.out.mono ?_); rintro e v1 ⟨vb, u0, t0, rfl, hu0, ht0⟩
           obtain ⟨C0, cc0, rfl⟩ := hu0.form
           have qq0 := RetZ.qb hu0 ht0 HLp0.out
           have ha := ha.drew.below vb ha.lt
           have hb := hb.drew.below vb hb.lt
           have hr := hr.drew.below vb hr.lt
           have HV1 := hide (HV0.out.trans (vb.mono HV0.out.size))
           have vs0 := vb.size
           obtain ⟨a0, a1, a2, a3, a4, -⟩ := ha.five
           obtain ⟨b0, b1, b2, b3, b4, -⟩ := hb.five
           have HM1 := hide (d_zmul (hx0.at_ HV1) (hy1.at_ HV1) (by omega) (by omega))
           rw [Hp1.out] at HM1
           clear _t tok0
           have tok1 : True := trivial)
        | (go_at_call 69; have _t := tok1; (with_reducible refine HM1.out.mono ?_); rintro e v2 ⟨vb, u1, t1, rfl, hu1, ht1⟩
           obtain ⟨C1, cc1, rfl⟩ := hu1.form
           have qq1 := RetZ.qb hu1 ht1 HLp1.out
           have ha := ha.below vb ha.lt
           have hb := hb.below vb hb.lt
           have hr := hr.below vb hr.lt
           have qq0 := qq0.below vb
           have HV2 := hide (HV1.out.trans (vb.mono HV1.out.size))
           have vs1 := vb.size
           obtain ⟨a0, a1, a2, a3, a4, -⟩ := ha.five
           obtain ⟨b0, b1, b2, b3, b4, -⟩ := hb.five
           have HM2 := hide (d_zmul (hx1.at_ HV2) (hy0.at_ HV2) (by omega) (by omega))
           rw [Hp2.out] at HM2
           clear _t tok1
           have tok2 : True := trivial)
        | (go_at_call 69; have _t := tok2; (with_reducible refine HM2.out.mono ?_); rintro e v3 ⟨vb, u2, t2, rfl, hu2, ht2⟩
           obtain ⟨C2, cc2, rfl⟩ := hu2.form
           have qq2 := RetZ.qb hu2 ht2 HLp2.out
           have ha := ha.below vb ha.lt
           have hb := hb.below vb hb.lt
           have hr := hr.below vb hr.lt
           have qq0 := qq0.below vb
           have qq1 := qq1.below vb
           have HV3 := hide (HV2.out.trans (vb.mono HV2.out.size))
           have vs2 := vb.size
           obtain ⟨a0, a1, a2, a3, a4, -⟩ := ha.five
           obtain ⟨b0, b1, b2, b3, b4, -⟩ := hb.five
           have HM3 := hide (d_zmul (hx1.at_ HV3) (hy1.at_ HV3) (by omega) (by omega))
           rw [Hp3.out] at HM3
           clear _t tok2
           have tok3 : True := trivial)
        | (go_at_call 69; have _t := tok3; (with_reducible refine HM3.out.mono ?_); rintro e v4 ⟨vb, u3, t3, rfl, hu3, ht3⟩
           obtain ⟨C3, cc3, rfl⟩ := hu3.form
           have qq3 := RetZ.qb hu3 ht3 HLp3.out
           have ha := ha.below vb ha.lt
           have hb := hb.below vb hb.lt
           have hr := hr.below vb hr.lt
           have qq0 := qq0.below vb
           have qq1 := qq1.below vb
           have qq2 := qq2.below vb
           have HV4 := hide (HV3.out.trans (vb.mono HV3.out.size))
           have vs3 := vb.size
           obtain ⟨a0, a1, a2, a3, a4, -⟩ := ha.five
           obtain ⟨b0, b1, b2, b3, b4, -⟩ := hb.five))
    have hs1 : w.heap.size + 3 ≤ v1.heap.size := Nat.le_trans hsz vs0
    have hs2 := Nat.le_trans hs1 vs1
    have hs3 := Nat.le_trans hs2 vs2
    have hs4 := Nat.le_trans hs3 vs3
    have qq0 := qq0.mono (show w.heap.size + 3 ≤ _ from hsz)
    have qq1 := qq1.mono (show w.heap.size + 3 ≤ _ from hs1)
    have qq2 := qq2.mono (show w.heap.size + 3 ≤ _ from hs2)
    have qq3 := qq3.mono (show w.heap.size + 3 ≤ _ from hs3)
    obtain ⟨w5, hW, hl, vb, hs⟩ := start1 v4 25 #[.bool (decide (p0 < 0)), .slice C0 t0.length cc0, .bool (decide (p1 < 0)), .slice C1 t1.length cc1, .bool (decide (p2 < 0)), .slice C2 t2.length cc2, .bool (decide (p3 < 0)), .slice C3 t3.length cc3]
    have ha := ha.below vb ha.lt
    have hr := hr.below vb hr.lt
    have qq0 := qq0.below vb
    have qq1 := qq1.below vb
    have qq2 := qq2.below vb
    have qq3 := qq3.below vb
    have HB := hide (HV4.out.trans (vb.mono HV4.out.size))
    have hsz := Nat.le_trans hs4 vb.size
    clear vb hs a0 a1 a2 a3 a4 b0 b1 b2 b3 b4 hb
    have HLf : Hid (f.natAbs < W ^ (k + k + 125)) := hide (by rw [← Hf.out]; exact vDn_lt (n := qa) (min4_lt HLp0.out HLp1.out HLp2.out HLp3.out Hmn.out) (by omega))
    have HLc : Hid (c.natAbs < W ^ (k + k + 125)) := hide (by rw [← Hc.out]; exact vOv_lt (n := qa) (max4_lt HLp0.out HLp1.out HLp2.out HLp3.out Hmx.out) (by omega))
    go_upto_region 5 with (fail)
    rw [← hW]
    clear hW
    refine F2.region [.o, .o, .o, .o, .o, .o, .o, .o, .o, .o, .o, .o, .o, .so (w.heap.size + 2) 27 #[.bool false, .slice none 0 0, .bool false, .slice none 0 0, .int .i64 0], .o] [Fact.eq ?ca35, Fact.int (w.heap.size + 3) (k + k) mn, Fact.eq ?ca37, Fact.eq ?ca38, Fact.int (w.heap.size + 3) (k + k + 125) f, Fact.eq ?ca40, Fact.int (w.heap.size + 3) (k + k) mx, Fact.eq ?ca42, Fact.eq ?ca43, Fact.int (w.heap.size + 3) (k + k + 125) c, Fact.eq ?ca45, Fact.eq ?ca46, Fact.ball (w.heap.size + 3) (k + k + 125) f c qa, Fact.ball (w.heap.size + 3) (k + k + 125) f c qa, Fact.eq ?ca5] [35, 36, 37, 38, 39, 40, 41, 42, 43, 44, 45, 46, 47, 5] [35, 36, 37, 38, 39, 40, 41, 42, 43, 44, 45, 46, 47, 0, 5] (by kernel_rfl) ?soa ?sopa (by kernel_rfl) ?sta ?fina
    case soa => exact List.forall_mem_cons.2 ⟨⟨hr, NoU.five (by intro x h; cases h) (by intro x h; cases h) (by intro x h; cases h) (by intro x h; cases h) (by intro x h; cases h)⟩, fun x hx => by cases hx⟩
    case sopa => exact List.Pairwise.cons (fun y hy => by cases hy) (List.Pairwise.nil)
    case sta =>
      refine F2.Steps.consO rfl ?_ ?_
      · intro vz wz hBz hDz hTz K hK
        replace hK := hK.out
        simp only [actv, fill, Act.put, F2.fc, List.getD_cons_zero, List.getD_cons_succ, List.foldl_cons, List.foldl_nil, List.setIfInBounds_toArray, List.set_cons_succ, List.set_cons_zero] at hK
        apply Kept.mk
        simp only [F2.Wp, actv, fill, List.foldl_cons, List.foldl_nil, List.setIfInBounds_toArray, List.set_cons_succ, List.set_cons_zero]
        go_simp
        refine hK _ wz (Below.refl _ _) (Fact.eq_mk ?_)
        with_reducible rfl
      refine F2.Steps.consO rfl ?_ ?_
      · intro vz wz hBz hDz hTz K hK
        have E35 : vz 35 = _ := hDz 0 (by kernel_rfl) rfl
        have HW := ext_drew hBz.ext
        replace hK := hK.out
        simp only [actv, fill, Act.put, F2.fc, List.getD_cons_zero, List.getD_cons_succ, List.foldl_cons, List.foldl_nil, List.setIfInBounds_toArray, List.set_cons_succ, List.set_cons_zero] at hK
        apply Kept.mk
        simp only [F2.Wp, actv, fill, List.foldl_cons, List.foldl_nil, List.setIfInBounds_toArray, List.set_cons_succ, List.set_cons_zero]
        simp only [E35] at hK ⊢
        go_simp
        refine Calls.mono (Hmn.out ▸ least4_calls (hBz.blk hl.drew (by simp [F2.olds] <;> omega)) (qq0.ext HW) (qq1.ext HW) (qq2.ext HW) (qq3.ext HW) (by omega)) ?_
        rintro e w2z ⟨hb2, n_, A_, l_, c_, rfl, hq⟩
        go_wp2_with fail
        exact hK _ w2z hb2 (⟨_, _, _, _, rfl, hq⟩)
      refine F2.Steps.consO rfl ?_ ?_
      · intro vz wz hBz hDz hTz K hK
        replace hK := hK.out
        simp only [actv, fill, Act.put, F2.fc, List.getD_cons_zero, List.getD_cons_succ, List.foldl_cons, List.foldl_nil, List.setIfInBounds_toArray, List.set_cons_succ, List.set_cons_zero] at hK
        apply Kept.mk
        simp only [F2.Wp, actv, fill, List.foldl_cons, List.foldl_nil, List.setIfInBounds_toArray, List.set_cons_succ, List.set_cons_zero]
        go_simp
        refine hK _ wz (Below.refl _ _) (Fact.eq_mk ?_)
        with_reducible rfl
      refine F2.Steps.consO rfl ?_ ?_
      · intro vz wz hBz hDz hTz K hK
        have E37 : vz 37 = _ := hDz 2 (by kernel_rfl) rfl
        have haz := hBz.blk ha.drew (by simp [F2.olds] <;> omega)
        obtain ⟨hazc0, hazc1, hazc2, hazc3, hazc4, -⟩ := haz.five
        replace hK := hK.out
        simp only [actv, fill, Act.put, F2.fc, List.getD_cons_zero, List.getD_cons_succ, List.foldl_cons, List.foldl_nil, List.setIfInBounds_toArray, List.set_cons_succ, List.set_cons_zero] at hK
        apply Kept.mk
        simp only [F2.Wp, actv, fill, List.foldl_cons, List.foldl_nil, List.setIfInBounds_toArray, List.set_cons_succ, List.set_cons_zero]
        simp only [E37] at hK ⊢
        go_simp
        refine hK _ wz (Below.refl _ _) (Fact.eq_mk ?_)
        with_reducible rfl
      refine F2.Steps.consO rfl ?_ ?_
      · intro vz wz hBz hDz hTz K hK
        obtain ⟨n36_, A36_, l36_, c36_, E36, q36⟩ : IntV _ _ _ wz (vz 36) := hDz 1 (by kernel_rfl) rfl
        have E38 : vz 38 = _ := hDz 3 (by kernel_rfl) rfl
        have HW := ext_drew hBz.ext
        replace hK := hK.out
        simp only [actv, fill, Act.put, F2.fc, List.getD_cons_zero, List.getD_cons_succ, List.foldl_cons, List.foldl_nil, List.setIfInBounds_toArray, List.set_cons_succ, List.set_cons_zero] at hK
        apply Kept.mk
        simp only [F2.Wp, actv, fill, List.foldl_cons, List.foldl_nil, List.setIfInBounds_toArray, List.set_cons_succ, List.set_cons_zero]
        simp only [E36, E38] at hK ⊢
        go_simp
        refine Calls.mono (Hf.out ▸ bdownR_calls qa q36.q (by omega) (by omega) (by omega)) ?_
        rintro e w2z ⟨hb2, u, d, rfl, hu, hd⟩
        go_wp2_with fail
        exact hK _ w2z hb2 (intV (hu.mono (Nat.le_trans hsz hBz.size)) hd HLf.out)
      refine F2.Steps.consO rfl ?_ ?_
      · intro vz wz hBz hDz hTz K hK
        replace hK := hK.out
        simp only [actv, fill, Act.put, F2.fc, List.getD_cons_zero, List.getD_cons_succ, List.foldl_cons, List.foldl_nil, List.setIfInBounds_toArray, List.set_cons_succ, List.set_cons_zero] at hK
        apply Kept.mk
        simp only [F2.Wp, actv, fill, List.foldl_cons, List.foldl_nil, List.setIfInBounds_toArray, List.set_cons_succ, List.set_cons_zero]
        go_simp
        refine hK _ wz (Below.refl _ _) (Fact.eq_mk ?_)
        with_reducible rfl
      refine F2.Steps.consO rfl ?_ ?_
      · intro vz wz hBz hDz hTz K hK
        have E40 : vz 40 = _ := hDz 5 (by kernel_rfl) rfl
        have HW := ext_drew hBz.ext
        replace hK := hK.out
        simp only [actv, fill, Act.put, F2.fc, List.getD_cons_zero, List.getD_cons_succ, List.foldl_cons, List.foldl_nil, List.setIfInBounds_toArray, List.set_cons_succ, List.set_cons_zero] at hK
        apply Kept.mk
        simp only [F2.Wp, actv, fill, List.foldl_cons, List.foldl_nil, List.setIfInBounds_toArray, List.set_cons_succ, List.set_cons_zero]
        simp only [E40] at hK ⊢
        go_simp
        refine Calls.mono (Hmx.out ▸ greatest4_calls (hBz.blk hl.drew (by simp [F2.olds] <;> omega)) (qq0.ext HW) (qq1.ext HW) (qq2.ext HW) (qq3.ext HW) (by omega)) ?_
        rintro e w2z ⟨hb2, n_, A_, l_, c_, rfl, hq⟩
        go_wp2_with fail
        exact hK _ w2z hb2 (⟨_, _, _, _, rfl, hq⟩)
      refine F2.Steps.consO rfl ?_ ?_
      · intro vz wz hBz hDz hTz K hK
        replace hK := hK.out
        simp only [actv, fill, Act.put, F2.fc, List.getD_cons_zero, List.getD_cons_succ, List.foldl_cons, List.foldl_nil, List.setIfInBounds_toArray, List.set_cons_succ, List.set_cons_zero] at hK
        apply Kept.mk
        simp only [F2.Wp, actv, fill, List.foldl_cons, List.foldl_nil, List.setIfInBounds_toArray, List.set_cons_succ, List.set_cons_zero]
        go_simp
        refine hK _ wz (Below.refl _ _) (Fact.eq_mk ?_)
        with_reducible rfl
      refine F2.Steps.consO rfl ?_ ?_
      · intro vz wz hBz hDz hTz K hK
        have E42 : vz 42 = _ := hDz 7 (by kernel_rfl) rfl
        have haz := hBz.blk ha.drew (by simp [F2.olds] <;> omega)
        obtain ⟨hazc0, hazc1, hazc2, hazc3, hazc4, -⟩ := haz.five
        replace hK := hK.out
        simp only [actv, fill, Act.put, F2.fc, List.getD_cons_zero, List.getD_cons_succ, List.foldl_cons, List.foldl_nil, List.setIfInBounds_toArray, List.set_cons_succ, List.set_cons_zero] at hK
        apply Kept.mk
        simp only [F2.Wp, actv, fill, List.foldl_cons, List.foldl_nil, List.setIfInBounds_toArray, List.set_cons_succ, List.set_cons_zero]
        simp only [E42] at hK ⊢
        go_simp
        refine hK _ wz (Below.refl _ _) (Fact.eq_mk ?_)
        with_reducible rfl
      refine F2.Steps.consO rfl ?_ ?_
      · intro vz wz hBz hDz hTz K hK
        obtain ⟨n41_, A41_, l41_, c41_, E41, q41⟩ : IntV _ _ _ wz (vz 41) := hDz 6 (by kernel_rfl) rfl
        have E43 : vz 43 = _ := hDz 8 (by kernel_rfl) rfl
        have HW := ext_drew hBz.ext
        replace hK := hK.out
        simp only [actv, fill, Act.put, F2.fc, List.getD_cons_zero, List.getD_cons_succ, List.foldl_cons, List.foldl_nil, List.setIfInBounds_toArray, List.set_cons_succ, List.set_cons_zero] at hK
        apply Kept.mk
        simp only [F2.Wp, actv, fill, List.foldl_cons, List.foldl_nil, List.setIfInBounds_toArray, List.set_cons_succ, List.set_cons_zero]
        simp only [E41, E43] at hK ⊢
        go_simp
        refine Calls.mono (Hc.out ▸ bupR_calls qa q41.q (by omega) (by omega) (by omega)) ?_
        rintro e w2z ⟨hb2, u, d, rfl, hu, hd⟩
        go_wp2_with fail
        exact hK _ w2z hb2 (intV (hu.mono (Nat.le_trans hsz hBz.size)) hd HLc.out)
      refine F2.Steps.consO rfl ?_ ?_
      · intro vz wz hBz hDz hTz K hK
        replace hK := hK.out
        simp only [actv, fill, Act.put, F2.fc, List.getD_cons_zero, List.getD_cons_succ, List.foldl_cons, List.foldl_nil, List.setIfInBounds_toArray, List.set_cons_succ, List.set_cons_zero] at hK
        apply Kept.mk
        simp only [F2.Wp, actv, fill, List.foldl_cons, List.foldl_nil, List.setIfInBounds_toArray, List.set_cons_succ, List.set_cons_zero]
        go_simp
        refine hK _ wz (Below.refl _ _) (Fact.eq_mk ?_)
        with_reducible rfl
      refine F2.Steps.consO rfl ?_ ?_
      · intro vz wz hBz hDz hTz K hK
        have E45 : vz 45 = _ := hDz 10 (by kernel_rfl) rfl
        have haz := hBz.blk ha.drew (by simp [F2.olds] <;> omega)
        obtain ⟨hazc0, hazc1, hazc2, hazc3, hazc4, -⟩ := haz.five
        replace hK := hK.out
        simp only [actv, fill, Act.put, F2.fc, List.getD_cons_zero, List.getD_cons_succ, List.foldl_cons, List.foldl_nil, List.setIfInBounds_toArray, List.set_cons_succ, List.set_cons_zero] at hK
        apply Kept.mk
        simp only [F2.Wp, actv, fill, List.foldl_cons, List.foldl_nil, List.setIfInBounds_toArray, List.set_cons_succ, List.set_cons_zero]
        simp only [E45] at hK ⊢
        go_simp
        refine hK _ wz (Below.refl _ _) (Fact.eq_mk ?_)
        with_reducible rfl
      refine F2.Steps.consO rfl ?_ ?_
      · intro vz wz hBz hDz hTz K hK
        obtain ⟨n39_, A39_, l39_, c39_, E39, q39⟩ : IntV _ _ _ wz (vz 39) := hDz 4 (by kernel_rfl) rfl
        obtain ⟨n44_, A44_, l44_, c44_, E44, q44⟩ : IntV _ _ _ wz (vz 44) := hDz 9 (by kernel_rfl) rfl
        have E46 : vz 46 = _ := hDz 11 (by kernel_rfl) rfl
        replace hK := hK.out
        simp only [actv, fill, Act.put, F2.fc, List.getD_cons_zero, List.getD_cons_succ, List.foldl_cons, List.foldl_nil, List.setIfInBounds_toArray, List.set_cons_succ, List.set_cons_zero] at hK
        apply Kept.mk
        simp only [F2.Wp, actv, fill, List.foldl_cons, List.foldl_nil, List.setIfInBounds_toArray, List.set_cons_succ, List.set_cons_zero]
        simp only [E39, E44, E46] at hK ⊢
        go_simp
        exact hK _ wz (Below.refl _ _) (⟨_, _, _, _, _, _, _, _, rfl, q39, q44⟩)
      refine F2.Steps.consT rfl ?_ ?_
      · intro vz wz hBz hDz hbz K hK
        obtain ⟨zc0, zc1, zc2, zc3, zc4, zc5, zc6, zc7, zc8, zc9⟩ := hbz.five
        obtain ⟨n47_, A47_, l47_, c47_, m47_, B47_, j47_, d47_, E47, q47, p47⟩ : BallV _ _ _ _ _ wz (vz 47) := hDz 12 (by kernel_rfl) rfl
        replace hK := hK.out
        simp only [actv, fill, Act.put, F2.fc, List.getD_cons_zero, List.getD_cons_succ, List.foldl_cons, List.foldl_nil, List.setIfInBounds_toArray, List.set_cons_succ, List.set_cons_zero] at hK
        apply Kept.mk
        simp only [F2.Wp, actv, fill, List.foldl_cons, List.foldl_nil, List.setIfInBounds_toArray, List.set_cons_succ, List.set_cons_zero]
        simp only [E47] at hK ⊢
        go_simp
        exact hK _ (((((Far.set _ _ 0 _).trans (Far.set _ _ 1 _)).trans (Far.set _ _ 2 _)).trans (Far.set _ _ 3 _)).trans (Far.set _ _ 4 _)) ⟨_, blk_five hbz, NoU.five (by intro x h; cases h) (by intro x h; cases h) (by intro x h; cases h) (by intro x h; cases h) (by intro x h; cases h), ⟨_, _, _, _, _, _, _, _, rfl, q47, p47⟩⟩
      refine F2.Steps.consO rfl ?_ ?_
      · intro vz wz hBz hDz hTz K hK
        replace hK := hK.out
        simp only [actv, fill, Act.put, F2.fc, List.getD_cons_zero, List.getD_cons_succ, List.foldl_cons, List.foldl_nil, List.setIfInBounds_toArray, List.set_cons_succ, List.set_cons_zero] at hK
        apply Kept.mk
        simp only [F2.Wp, actv, fill, List.foldl_cons, List.foldl_nil, List.setIfInBounds_toArray, List.set_cons_succ, List.set_cons_zero]
        go_simp
        refine hK _ wz (Below.refl _ _) (Fact.eq_mk ?_)
        with_reducible rfl
      exact F2.Steps.nil
    case fina =>
      intro vz wa hBz ⟨hOz, hAz, hNz, hSz⟩
      have E35 : vz 35 = _ := hOz 0 (by decide) rfl
      obtain ⟨n36_, A36_, l36_, c36_, E36, q36⟩ : IntV _ _ _ wa (vz 36) := hOz 1 (by decide) rfl
      have E37 : vz 37 = _ := hOz 2 (by decide) rfl
      have E38 : vz 38 = _ := hOz 3 (by decide) rfl
      obtain ⟨n39_, A39_, l39_, c39_, E39, q39⟩ : IntV _ _ _ wa (vz 39) := hOz 4 (by decide) rfl
      have E40 : vz 40 = _ := hOz 5 (by decide) rfl
      obtain ⟨n41_, A41_, l41_, c41_, E41, q41⟩ : IntV _ _ _ wa (vz 41) := hOz 6 (by decide) rfl
      have E42 : vz 42 = _ := hOz 7 (by decide) rfl
      have E43 : vz 43 = _ := hOz 8 (by decide) rfl
      obtain ⟨n44_, A44_, l44_, c44_, E44, q44⟩ : IntV _ _ _ wa (vz 44) := hOz 9 (by decide) rfl
      have E45 : vz 45 = _ := hOz 10 (by decide) rfl
      have E46 : vz 46 = _ := hOz 11 (by decide) rfl
      obtain ⟨n47_, A47_, l47_, c47_, m47_, B47_, j47_, d47_, E47, q47, p47⟩ : BallV _ _ _ _ _ wa (vz 47) := hOz 12 (by decide) rfl
      obtain ⟨cs4, hb4, hs4⟩ := hSz 13 _ _ _ (by decide) rfl
      obtain ⟨n4_, A4_, l4_, c4_, m4_, B4_, j4_, d4_, e4_, q4, p4⟩ : BallV _ _ _ _ _ wa (.agg cs4) := hs4
      injection e4_ with e4_
      subst e4_
      have E5 : vz 5 = _ := hOz 14 (by decide) rfl
      simp only [actv, fill, List.foldl_cons, List.foldl_nil, List.setIfInBounds_toArray, List.set_cons_succ, List.set_cons_zero]
      simp only [E35, E36, E37, E38, E39, E40, E41, E42, E43, E44, E45, E46, E47, E5]
      clear hOz hAz hNz hSz
      have hB9 := hBz.below (B := w.heap.size) (by omega) (fun g hg => by simp [F2.olds] at hg; omega)
      have HB := hide (HB.out.trans hB9)
      go_wp2_with fail
      exact bodyPost_ret (results_ball_tmp rfl _ _ _ _ _ _ _ _ _ rfl hb4) rfl ⟨HB.out, RetE.yes ⟨_, _, _, _, _, _, _, _, rfl, q4.mono (by omega), p4.mono (by omega)⟩⟩
end Go.Proofs.YtnfbngiabdlclaaGreat

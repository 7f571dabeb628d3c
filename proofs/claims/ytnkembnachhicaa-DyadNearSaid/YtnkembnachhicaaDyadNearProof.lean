/-
  hairlinelaw03.DyadNear returns true for any dyad and any number of places. Conditions: none.
-/
import Derived.Test.YtnkembnachhicaaRows
import Derived.Test.YtnkembnachhicaaRefC
import Derived.Test.YtnkembnachhicaaShown3
import Derived.Test.YtnkembnachhicaaOpen
namespace Go.Proofs.Ytnkembnachhicaa.dyadNear
open Go.ChangeShapes Go.WideShapes Go.ChangeAt Go.RowKit
open L (val)
set_option linter.unusedVariables false
set_option linter.unusedSimpArgs false

theorem own : ownKnob Try.prog.godebug = none := by kernel_rfl
theorem laidOut : laidOutB Try.prog = true := by kernel_rfl

set_option maxHeartbeats 8000000 in
set_option maxRecDepth 100000 in
theorem walkN (na : Bool) (Aa : Option Addr) (la ka : Nat) (xa q : Int) (hx0 : -9223372036854775808 ≤ xa) (hx1 : xa ≤ 9223372036854775807) (La : List Nat) (w : World) (ha : Nums w 0 (.slice Aa la ka) La) :
    Calls Try.prog 3 #[.agg #[.bool na, .slice Aa la ka, .int .i64 xa], .int .i64 q] w fun e w' => e = .returned (.bool true) ∧ Below w.heap.size w w' := by
  obtain ⟨w1, hW, Ba, hB1, hs⟩ := start1 w 26 #[.bool na, .slice Aa la ka, .int .i64 xa]
  have HB := hide hB1
  clear hB1
  have hs0 : w.heap.size < w1.heap.size := by omega
  clear hs
  obtain ⟨ca0, ca1, ca2, -, -, -⟩ := Ba.three
  obtain ⟨za, HZa⟩ : ∃ z, Hid (ival na (val W (La.take 12)) = z) := ⟨_, hide rfl⟩
  obtain ⟨f, HF⟩ : ∃ z, Hid (vFloor 4000 (av 4000 za xa) (nearZ q) = z) := ⟨_, hide rfl⟩
  obtain ⟨c, HC⟩ : ∃ z, Hid (vCeil 4000 (av 4000 za xa) (nearZ q) = z) := ⟨_, hide rfl⟩
  go_enter Try.func3, Try.ntmps3
  go_upto_region 1 with (fail)
  rw [← hW]
  clear hW
  have HP := shown3_calls w1
  go_wp2_with fail
  refine HP.mono ?_
  rintro e w2 ⟨hb, rfl⟩
  clear HP
  clear ca0 ca1 ca2
  have Ba := Ba.below hb Ba.lt
  have HB := hide (HB.out.trans (hb.mono HB.out.size))
  obtain ⟨ca0, ca1, ca2, -, -, -⟩ := Ba.three
  have HP := cut3_calls w2 na Aa la ka xa 12 La (ha.up HB.out) (by omega)
  rw [HZa.out] at HP
  go_wp2_with fail
  refine HP.mono ?_
  have hbasea : w.heap.size < w2.heap.size := Ba.lt
  rintro e w3 ⟨hb, ma, Ca, ja, ia, da, rfl, hna, hda, hva⟩
  clear HP
  clear ca0 ca1 ca2
  have Ba := Ba.below hb Ba.lt
  have HB := hide (HB.out.trans (hb.mono HB.out.size))
  obtain ⟨ca0, ca1, ca2, fa0, fa1, fa2⟩ := Ba.three
  obtain ⟨w4, hW, Ba, hk1, hk2, hs, hk3⟩ := set3_all Ba (.bool ma) (.slice Ca ja ia) (.int .i64 xa)
  have hna := hk2 _ _ _ (by omega) hna
  have HB := hide (hk3 _ _ HB.out (by omega))
  clear hk1 hk2 hk3 hs
  go_upto_region 3 with (fail)
  rw [← hW]
  clear hW ca0 ca1 ca2 fa0 fa1 fa2
  obtain ⟨ca0, ca1, ca2, -, -, -⟩ := Ba.three
  have Qa : Q w4 12 ma Ca ja ia za := ⟨da, hna.mono (Nat.zero_le _), hda, hva⟩
  have Ba := Ba.drew
  have Qa := Qa.drew
  have HB := hide HB.out.drew
  have tok0 : True := trivial
  go_region_held3 (fun w' => w'.cell? ⟨w.heap.size, 0, none⟩ = some (.bool ma) ∧ w'.cell? ⟨w.heap.size, 1, none⟩ = some (.slice Ca ja ia) ∧ w'.cell? ⟨w.heap.size, 2, none⟩ = some (.int .i64 xa)) (go_keep)
    (first
      | (go_at_call 17; have _t := tok0; (with_reducible refine (p_floor 4000 q Qa (Nat.le_refl _) (by omega) hx0 hx1 HF.out).mono ?_); rintro e w5 ⟨hb, n11, A11, l11, k11, rfl, q11⟩
         have Ba := Ba.below hb Ba.lt
         have Qa := Qa.below hb
         have HB := hide (HB.out.trans (hb.mono HB.out.size))
         obtain ⟨ca0, ca1, ca2, -, -, -⟩ := Ba.three
         clear _t tok0
         have tok1 : True := trivial)
      | (go_at_call 18; have _t := tok1; (with_reducible refine (r_floor 4000 q Qa (Nat.le_refl _) (by omega) hx0 hx1 HF.out).mono ?_); rintro e w6 ⟨hb, n12, A12, l12, k12, rfl, q12⟩
         have Ba := Ba.below hb Ba.lt
         have Qa := Qa.below hb
         have q11 := q11.below hb
         have HB := hide (HB.out.trans (hb.mono HB.out.size))
         obtain ⟨ca0, ca1, ca2, -, -, -⟩ := Ba.three
         clear _t tok1
         have tok2 : True := trivial)
      | (go_at_call 16; have _t := tok2; (with_reducible refine (e_eqI q11 q12 rfl).mono ?_); rintro e w7 ⟨hb, rfl⟩
         have Ba := Ba.below hb Ba.lt
         have Qa := Qa.below hb
         have q11 := q11.below hb
         have q12 := q12.below hb
         have HB := hide (HB.out.trans (hb.mono HB.out.size))
         obtain ⟨ca0, ca1, ca2, -, -, -⟩ := Ba.three
         clear _t tok2
         have tok3 : True := trivial))
  clear q11 q12
  go_upto_region 4 with (fail)
  have Ba := Ba.drew
  have Qa := Qa.drew
  have HB := hide HB.out.drew
  have tok0 : True := trivial
  go_region_held3 (fun w' => w'.cell? ⟨w.heap.size, 0, none⟩ = some (.bool ma) ∧ w'.cell? ⟨w.heap.size, 1, none⟩ = some (.slice Ca ja ia) ∧ w'.cell? ⟨w.heap.size, 2, none⟩ = some (.int .i64 xa)) (go_keep)
    (first
      | (go_at_call 19; have _t := tok0; (with_reducible refine (p_ceil 4000 q Qa (Nat.le_refl _) (by omega) hx0 hx1 HC.out).mono ?_); rintro e w8 ⟨hb, n21, A21, l21, k21, rfl, q21⟩
         have Ba := Ba.below hb Ba.lt
         have Qa := Qa.below hb
         have HB := hide (HB.out.trans (hb.mono HB.out.size))
         obtain ⟨ca0, ca1, ca2, -, -, -⟩ := Ba.three
         clear _t tok0
         have tok1 : True := trivial)
      | (go_at_call 20; have _t := tok1; (with_reducible refine (r_ceil 4000 q Qa (Nat.le_refl _) (by omega) hx0 hx1 HC.out).mono ?_); rintro e w9 ⟨hb, n22, A22, l22, k22, rfl, q22⟩
         have Ba := Ba.below hb Ba.lt
         have Qa := Qa.below hb
         have q21 := q21.below hb
         have HB := hide (HB.out.trans (hb.mono HB.out.size))
         obtain ⟨ca0, ca1, ca2, -, -, -⟩ := Ba.three
         clear _t tok1
         have tok2 : True := trivial)
      | (go_at_call 16; have _t := tok2; (with_reducible refine (e_eqI q21 q22 rfl).mono ?_); rintro e w10 ⟨hb, rfl⟩
         have Ba := Ba.below hb Ba.lt
         have Qa := Qa.below hb
         have q21 := q21.below hb
         have q22 := q22.below hb
         have HB := hide (HB.out.trans (hb.mono HB.out.size))
         obtain ⟨ca0, ca1, ca2, -, -, -⟩ := Ba.three
         clear _t tok2
         have tok3 : True := trivial))
  go_wp2_with fail
  go_ret
  exact ⟨rfl, HB.out⟩

theorem walk (w : World) (n0 : Bool) (A0 : Option Addr) (l0 c0 : Nat) (x0 : Int) (s0 : ∃ L, Nums w 0 (.slice A0 l0 c0) L) (w0 : (Lit.int .i64 x0).wf = true) (a1 : Int) (w1 : (Lit.int .i64 a1).wf = true) :
    Calls Try.prog 3 #[.agg #[.bool n0, .slice A0 l0 c0, .int .i64 x0], .int .i64 a1] w fun e w' => e = .returned (.bool true) ∧ Below w.heap.size w w' := by
  obtain ⟨L0, h0⟩ := s0
  have hb := bounds_i64 w0
  exact walkN n0 A0 l0 c0 x0 a1 hb.1 hb.2 L0 w h0

/-! ### the row -/
set_option maxRecDepth 100000 in
theorem lifted (os : Os) (started : os.Started) (H : Type) (enc : TypeId × Value → H) :
    ReturnsInHanded {} Try.checked os 3 .any (Rows.dyadNearSpec.pre6 enc Try.prog Try.f3 Rows.dyadNearRow.domain false) (Rows.dyadNearSpec.post enc Try.prog Try.f3 false true false false) := by
  refine returnsInHanded_of_change (C := Try.checked) own started (by kernel_rfl) Try.func3
    (ChangeSpec.witness6 (enc := enc) (C := Try.checked) false ⟨#[], #[.agg #[.bool false, .slice none 0 0, .int .i64 0], .int .i64 0], []⟩ 8 (by kernel_rfl) (by kernel_rfl) (by kernel_rfl) (by kernel_rfl)) ?_
  intro W base args ds gs before hval0 hW hcnd _
  have hval : ∀ (j : Nat) t v, Try.f3.params[j]? = some t → args[j]? = some v → Value.okWide Try.prog W .any base t v := hval0
  have hW' := hW
  obtain ⟨p, q, hA0, hV, rfl, hfz, hnd⟩ := hW
  have hA : DataW.TrodAll enc Try.prog W 0 (fun _ => true) true Try.f3.params.toList args.toList ds p := hA0
  rw [Try.params3] at hA hval
  obtain ⟨v0, vs0, d0, ds0, p0, q0, hargs, rfl, rfl, h0, r0⟩ := trodAll_cons hA
  obtain ⟨v1, vs1, d1, ds1, p1, q1, rfl, rfl, rfl, h1, r1⟩ := trodAll_cons r0
  obtain ⟨rfl, rfl, rfl⟩ := trodAll_nil r1
  obtain rfl : args = #[v0, v1] := by cases args; simp_all
  obtain ⟨rfl, rfl⟩ := trodVars_none hV
  have k0 := h0
  have lt0 : ∀ x ∈ p0, x.block < W.heap.size := by obtain ⟨m, hm⟩ := k0; exact DataW.trod_lt m _ _ _ hm
  obtain ⟨n0, A0, l0, c0, x0, rfl, s0, w0⟩ := open_dyad (hval 0 26 v0 rfl rfl) h0
  obtain ⟨a1, rfl, rfl, rfl, w1⟩ := open_int Try.underlying3 (hval 1 3 v1 rfl rfl) h1
  clear hA0 hval0
  refine (walk W n0 A0 l0 c0 x0 s0 w0 a1 w1).mono fun e W' ⟨he, bel⟩ => ?_
  subst he
  exact ⟨_, rfl, _, _, _, [], _, [], hW', trodAll_mk1 (shut_bool Try.underlying4 _), (trodAll_cons_mk (Below.trod laidOut (by kernel_rfl) (of_decide_eq_true (by kernel_rfl)) k0 bel lt0) (trodAll_cons_mk (shut_int Try.underlying3 w1) trodAll_mk0)), rfl, bel.frame _, fun h => by cases h⟩

theorem over : Rows.dyadNearRow.holds Try.pinned (OpenSpec.ofChange Rows.dyadNearSpec) :=
  OpenClaim.holds_of_wide 3 Try.f3 rfl rfl rfl rfl rfl rfl rfl ⟨rfl, rfl, rfl, rfl, rfl⟩ rfl rfl rfl rfl rfl (by kernel_rfl) Try.func3 (by kernel_rfl)
    (of_decide_eq_true (by kernel_rfl)) (by unfold Func.isWrapper; first | (rw [if_pos (by decide +kernel)]; kernel_rfl) | (rw [if_neg (by decide +kernel)]; exact ⟨rfl, rfl⟩))
    (fun os started H enc _ => lifted os started H enc)

theorem proved : Rows.DyadNearSaid := over
#print axioms proved
end Go.Proofs.Ytnkembnachhicaa.dyadNear

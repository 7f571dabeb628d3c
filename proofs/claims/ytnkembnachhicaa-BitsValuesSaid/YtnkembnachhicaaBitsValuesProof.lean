/-
  hairlinelaw04.BitsValues returns true for every pattern. Conditions: none.
-/
import Derived.Test.YtnkembnachhicaaRows
import Derived.Test.YtnkembnachhicaaRefP
import Derived.Test.YtnkembnachhicaaPairs
import Derived.Test.YtnkembnachhicaaEvs
import Derived.ProofKit
import Derived.OpenShut
namespace Go.Proofs.Ytnkembnachhicaa.bitsValues
open Go.ChangeShapes Go.WideShapes Go.ChangeAt Go.RowKit
set_option linter.unusedVariables false

theorem own : ownKnob Try.prog.godebug = none := by kernel_rfl
theorem laidOut : laidOutB Try.prog = true := by kernel_rfl

set_option maxRecDepth 100000 in
theorem walk_nat (b : Nat) (hb : b < W) (w : World) :
    Calls Try.prog 5 #[.int .u64 b] w fun e w' => e = .returned (.bool true) ∧ Below w.heap.size w w' := by
  have HV1 := value_calls (w := w) b hb
  obtain ⟨z, HZ⟩ : ∃ z, Hid (vM b = z) := ⟨_, hide rfl⟩
  obtain ⟨x, HX⟩ : ∃ z, Hid (vE b = z) := ⟨_, hide rfl⟩
  obtain ⟨y, HY⟩ : ∃ z, Hid (vX b = z) := ⟨_, hide rfl⟩
  obtain ⟨g, HG⟩ : ∃ z, Hid (pNeg b = z) := ⟨_, hide rfl⟩
  obtain ⟨f, HF⟩ : ∃ z, Hid (((pFld b : Nat) : Int) = z) := ⟨_, hide rfl⟩
  obtain ⟨r, HR⟩ : ∃ z, Hid (((pFrc b : Nat) : Int) = z) := ⟨_, hide rfl⟩
  obtain ⟨m, HM⟩ : ∃ z, Hid (pNorm b = z) := ⟨_, hide rfl⟩
  obtain ⟨p, HP⟩ : ∃ z, Hid (bnE b = z) := ⟨_, hide rfl⟩
  obtain ⟨q, HQ⟩ : ∃ z, Hid (bnX b = z) := ⟨_, hide rfl⟩
  have hzl := vM_lt b
  rw [HZ.out] at hzl
  clear HV1
  have e1 : (g == g) = true := by rw [beq_iff_eq]
  have e2 : (f == f) = true := by rw [beq_iff_eq]
  have e3 : (r == r) = true := by rw [beq_iff_eq]
  have e4 : (m == m) = true := by rw [beq_iff_eq]
  have e5 : (p == p) = true := by rw [beq_iff_eq]
  have e6 : (q == q) = true := by rw [beq_iff_eq]
  have e7 : (y == y) = true := by rw [beq_iff_eq]
  go_enter Try.func5, Try.ntmps5
  go_wp2_with fail
  refine (shown4_calls w).mono ?_
  rintro e w0 ⟨hb0, rfl⟩
  have K := parts_calls w0 b hb
  rw [HG.out, HF.out, HR.out] at K
  go_wp2_with fail
  refine K.mono ?_
  rintro e w1 ⟨rfl, rfl⟩
  clear K
  have K := partsPR_calls w0 b hb
  rw [HG.out, HF.out, HR.out] at K
  go_wp2_with fail
  refine K.mono ?_
  rintro e w1 ⟨rfl, rfl⟩
  clear K
  have K := value_calls w0 b hb
  rw [HZ.out, HX.out, HY.out] at K
  go_wp2_with fail
  refine K.mono ?_
  rintro e w1 ⟨hb1, u, d, rfl, hu, hd⟩
  clear K
  obtain ⟨A1, len1, cap1, rfl, q1⟩ := QC.of_canon hu hd hzl
  obtain ⟨w2, hW2, hbx2, hB2, hs2⟩ := start1 w1 26 #[.bool (decide (z < 0)), .slice A1 len1 cap1, .int .i64 x]
  have q2 := q1.below hB2
  have HB2 := hide ((hb0.trans (hb1.mono hb0.size)).trans (hB2.mono (by have := hb0.size; have := hb1.size; omega)))
  clear hs2
  go_upto_region 5 with (fail)
  rw [← hW2]
  clear hW2
  have K := valuePR_calls w2 b hb
  rw [HZ.out, HX.out, HY.out] at K
  go_wp2_with fail
  refine K.mono ?_
  rintro e w3 ⟨hb3, u3, d3, rfl, hu3, hd3⟩
  clear K
  obtain ⟨A3, len3, cap3, rfl, q3⟩ := QC.of_canon hu3 hd3 hzl
  have q23 := q2.below hb3
  have hbx3 := hbx2.below hb3 hbx2.lt
  obtain ⟨w4, hW4, hbx4, hB4, hs4⟩ := start1 w3 26 #[.bool (decide (z < 0)), .slice A3 len3 cap3, .int .i64 x]
  have q4 := q3.below hB4
  have q24 := q23.below hB4
  have hby4 := hbx3.below hB4 hbx3.lt
  have HB4 := hide ((HB2.out.trans (hb3.mono HB2.out.size)).trans (hB4.mono (by have := HB2.out.size; have := hb3.size; omega)))
  clear hs4
  go_upto_region 6 with (fail)
  rw [← hW4]
  clear hW4
  obtain ⟨x0, x1, x2, -, -, -⟩ := hbx4.three
  obtain ⟨y0, y1, y2, -, -, -⟩ := hby4.three
  have K := e_eq (x := x) (y := x) q24 q4 rfl rfl
  go_wp2_with fail
  refine K.mono ?_
  rintro e w5 ⟨hb5, rfl⟩
  clear K
  have HB5 := hide (HB4.out.trans (hb5.mono HB4.out.size))
  clear x0 x1 x2 y0 y1 y2
  have K := binade_calls w5 b hb
  rw [HP.out, HQ.out] at K
  go_wp2_with fail
  refine K.mono ?_
  rintro e w6 ⟨rfl, rfl⟩
  clear K
  have K := binadePR_calls w5 b hb
  rw [HP.out, HQ.out] at K
  go_wp2_with fail
  refine K.mono ?_
  rintro e w6 ⟨rfl, rfl⟩
  clear K
  have K := normal_calls w5 b hb
  rw [HM.out] at K
  go_wp2_with fail
  refine K.mono ?_
  rintro e w6 ⟨rfl, rfl⟩
  clear K
  have K := normalPR_calls w5 b hb
  rw [HM.out] at K
  go_wp2_with fail
  refine K.mono ?_
  rintro e w6 ⟨rfl, rfl⟩
  clear K
  go_wp2_with fail
  go_ret
  exact ⟨rfl, HB5.out⟩

theorem walk (a0 : Int) (w0 : (Lit.int .u64 a0).wf = true) (w : World) :
    Calls Try.prog 5 #[.int .u64 a0] w fun e w' => e = .returned (.bool true) ∧ Below w.heap.size w w' := by
  have hb := bounds_u64 w0
  obtain ⟨b, rfl⟩ : ∃ b : Nat, a0 = b := ⟨a0.toNat, by omega⟩
  exact walk_nat b (by unfold W; omega) w

/-! ### the row -/
set_option maxRecDepth 100000 in
theorem lifted (os : Os) (started : os.Started) (H : Type) (enc : TypeId × Value → H) :
    ReturnsInHanded {} Try.checked os 5 .any (Rows.bitsValuesSpec.pre6 enc Try.prog Try.f5 Rows.bitsValuesRow.domain false) (Rows.bitsValuesSpec.post enc Try.prog Try.f5 false true false false) := by
  refine returnsInHanded_of_change (C := Try.checked) own started (by kernel_rfl) Try.func5
    (ChangeSpec.witness6 (enc := enc) (C := Try.checked) false ⟨#[], #[.int .u64 0], []⟩ 8 (by kernel_rfl) (by kernel_rfl) (by kernel_rfl) (by kernel_rfl)) ?_
  intro W base args ds gs before hval0 hW hcnd _
  have hval : ∀ (j : Nat) t v, Try.f5.params[j]? = some t → args[j]? = some v → Value.okWide Try.prog W .any base t v := hval0
  have hW' := hW
  obtain ⟨p, q, hA0, hV, rfl, hfz, hnd⟩ := hW
  have hA : DataW.TrodAll enc Try.prog W 0 (fun _ => true) true Try.f5.params.toList args.toList ds p := hA0
  rw [Try.params5] at hA hval
  obtain ⟨v0, vs0, d0, ds0, p0, q0, hargs, rfl, rfl, h0, r0⟩ := trodAll_cons hA
  obtain ⟨rfl, rfl, rfl⟩ := trodAll_nil r0
  obtain rfl : args = #[v0] := by cases args; simp_all
  obtain ⟨rfl, rfl⟩ := trodVars_none hV
  obtain ⟨a0, rfl, rfl, rfl, w0⟩ := open_int Try.underlying32 (hval 0 32 v0 rfl rfl) h0
  clear hA0 hval0
  refine (walk a0 w0 W).mono fun e W' ⟨he, bel⟩ => ?_
  subst he
  exact ⟨_, rfl, _, _, _, [], _, [], hW', trodAll_mk1 (shut_bool Try.underlying4 _), (trodAll_cons_mk (shut_int Try.underlying32 w0) trodAll_mk0), rfl, bel.frame _, fun h => by cases h⟩

theorem over : Rows.bitsValuesRow.holds Try.pinned (OpenSpec.ofChange Rows.bitsValuesSpec) :=
  OpenClaim.holds_of_wide 5 Try.f5 rfl rfl rfl rfl rfl rfl rfl ⟨rfl, rfl, rfl, rfl, rfl⟩ rfl rfl rfl rfl rfl (by kernel_rfl) Try.func5 (by kernel_rfl)
    (of_decide_eq_true (by kernel_rfl)) (by unfold Func.isWrapper; first | (rw [if_pos (by decide +kernel)]; kernel_rfl) | (rw [if_neg (by decide +kernel)]; exact ⟨rfl, rfl⟩))
    (fun os started H enc _ => lifted os started H enc)

theorem proved : Rows.BitsValuesSaid := over
#print axioms proved
end Go.Proofs.Ytnkembnachhicaa.bitsValues

/-
  hairlinelaw18.JobInside returns true for any job and any place in it. Conditions: none.
-/
import Derived.Test.YtllgjggkchgpbaaGreatRows
import Derived.Test.YtllgjggkchgpbaaGreatOpK
import Derived.ProofKit
import Derived.OpenShut
namespace Go.Proofs.YtllgjggkchgpbaaGreat.jobInside
open Go.ChangeShapes Go.WideShapes Go.ChangeAt Go.RowKit
set_option linter.unusedVariables false
set_option linter.unusedSimpArgs false

theorem own : ownKnob Tryz.prog.godebug = none := by kernel_rfl
theorem laidOut : laidOutB Tryz.prog = true := by kernel_rfl
theorem walk (w : World) (f x a b m : Int) (hf : (Lit.int .i64 f).wf = true) (hx : (Lit.int .i64 x).wf = true) (ha : (Lit.int .u64 a).wf = true) (hb : (Lit.int .u64 b).wf = true) (hm : (Lit.int .i64 m).wf = true) (c : Int) (hc : (Lit.int .u64 c).wf = true) :
    Calls Tryz.prog 5 #[.agg #[.int .i64 f, .int .i64 x, .int .u64 a, .int .u64 b, .int .i64 m], .int .u64 c] w fun e w' => e = .returned (.bool true) ∧ Below w.heap.size w w' :=
  V.inside_v (bounds_i64 hf) (bounds_i64 hx) (bounds_u64 ha) (bounds_u64 hb) (bounds_i64 hm) (bounds_u64 hc)

/-! ### the row -/
set_option maxRecDepth 100000 in
theorem lifted (os : Os) (started : os.Started) (H : Type) (enc : TypeId × Value → H) :
    ReturnsInHanded {} Tryz.checked os 5 .any (Rows.jobInsideSpec.pre6 enc Tryz.prog Tryz.f5 Rows.jobInsideRow.domain false) (Rows.jobInsideSpec.post enc Tryz.prog Tryz.f5 false true false false) := by
  refine returnsInHanded_of_change (C := Tryz.checked) own started (by kernel_rfl) Tryz.func5
    (ChangeSpec.witness6 (enc := enc) (C := Tryz.checked) false ⟨#[], #[.agg #[.int .i64 0, .int .i64 0, .int .u64 0, .int .u64 0, .int .i64 0], .int .u64 0], []⟩ 8 (by kernel_rfl) (by kernel_rfl) (by kernel_rfl) (by kernel_rfl)) ?_
  intro W base args ds gs before hval0 hW hcnd _; have hval : ∀ (j : Nat) t v, Tryz.f5.params[j]? = some t → args[j]? = some v → Value.okWide Tryz.prog W .any base t v := hval0; have hW' := hW; obtain ⟨p, q, hA0, hV, rfl, hfz, hnd⟩ := hW; have hA : DataW.TrodAll enc Tryz.prog W 0 (fun _ => true) true Tryz.f5.params.toList args.toList ds p := hA0; rw [Tryz.params5] at hA hval; obtain ⟨v0, vs0, d0, ds0, p0, q0, hargs, rfl, rfl, h0, r0⟩ := trodAll_cons hA; obtain ⟨v1, vs1, d1, ds1, p1, q1, rfl, rfl, rfl, h1, r1⟩ := trodAll_cons r0; obtain ⟨rfl, rfl, rfl⟩ := trodAll_nil r1; obtain rfl : args = #[v0, v1] := by cases args; simp_all
  obtain ⟨rfl, rfl⟩ := trodVars_none hV; have k0 := h0; have lt0 : ∀ x ∈ p0, x.block < W.heap.size := by obtain ⟨m, hm⟩ := k0; exact DataW.trod_lt m _ _ _ hm
  obtain ⟨f0, x0, m0, n0, t0, rfl, wf, wx, wa, wb, wm⟩ := jsx (hval 0 38 v0 rfl rfl) h0; obtain ⟨a1, rfl, rfl, rfl, w1⟩ := open_int Tryz.underlying22 (hval 1 22 v1 rfl rfl) h1; clear hA0 hval0; refine (walk W f0 x0 m0 n0 t0 wf wx wa wb wm a1 w1).mono fun e W' ⟨he, bel⟩ => ?_
  subst he; exact ⟨_, rfl, _, _, _, [], _, [], hW', trodAll_mk1 (shut_bool Tryz.underlying4 _), (trodAll_cons_mk (Below.trod laidOut (by kernel_rfl) (of_decide_eq_true (by kernel_rfl)) k0 bel lt0) (trodAll_cons_mk (shut_int Tryz.underlying22 w1) trodAll_mk0)), rfl, bel.frame _, fun h => by cases h⟩

theorem over : Rows.jobInsideRow.holds Tryz.pinned (OpenSpec.ofChange Rows.jobInsideSpec) :=
  OpenClaim.holds_of_wide 5 Tryz.f5 rfl rfl rfl rfl rfl rfl rfl ⟨rfl, rfl, rfl, rfl, rfl⟩ rfl rfl rfl rfl rfl (by kernel_rfl) Tryz.func5 (by kernel_rfl)
    (of_decide_eq_true (by kernel_rfl)) (by unfold Func.isWrapper; first | (rw [if_pos (by decide +kernel)]; kernel_rfl) | (rw [if_neg (by decide +kernel)]; exact ⟨rfl, rfl⟩))
    (fun os started H enc _ => lifted os started H enc)

theorem proved : Rows.JobInsideSaid := over
#print axioms proved
end Go.Proofs.YtllgjggkchgpbaaGreat.jobInside

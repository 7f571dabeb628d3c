/-
  hairlinelaw22.CertOnce returns true for any bytes, any place and any byte, and leaves them as they were. Conditions: none.
-/
import Derived.Test.YtnkihnggghfioaaGreatRows
import Derived.Test.YtnkihnggghfioaaGreatChecked
import Derived.Test.YtnkihnggghfioaaGreatEv
import Derived.Test.YtnkihnggghfioaaGreatCh7
import Derived.ProofKit
import Derived.OpenShut
import Derived.SizedLaws
namespace Go.Proofs.YtnkihnggghfioaaGreat.certOnce
open Go.ChangeShapes Go.WideShapes Go.ChangeAt Go.RowKit
set_option linter.unusedVariables false
set_option linter.unusedSimpArgs false

theorem own : ownKnob Tryz.prog.godebug = none := by kernel_rfl
theorem laidOut : laidOutB Tryz.prog = true := by kernel_rfl
theorem walk (W : World) (v : Value) (l : List UInt8) (hv : Sl W v (cel l)) (hl : l.length ≤ 140737488351232) (a : Int) (ha : (Lit.int .i64 a).wf = true) (b : Int) (hb : (Lit.int .u8 b).wf = true) :
    Calls Tryz.prog 3 #[v, .int .i64 a, .int .u8 b] W fun e w' => e = .returned (.bool true) ∧ Below W.heap.size W w' := by
  have h1 := jhd hb; refine jn9 W v l hv hl a ?_ (UInt8.ofNat b.toNat) b ?_ fun W' => jkf W' jkn jh7
  · simp [Lit.wf, IntKind.min, IntKind.max, IntKind.bits, IntKind.signed] at ha
    omega
  · rw [UInt8.toNat_ofNat']
    omega

/-! ### the row -/
set_option maxRecDepth 100000 in
set_option maxHeartbeats 1000000 in
theorem lifted (os : Os) (started : os.Started) (H : Type) (enc : TypeId × Value → H) :
    ReturnsInHanded {} Tryz.checked os 3 .any (Rows.certOnceSpec.pre6 enc Tryz.prog Tryz.f3 Rows.certOnceRow.domain false) (Rows.certOnceSpec.post enc Tryz.prog Tryz.f3 false true false false) := by
  refine returnsInHanded_of_change_sized (C := Tryz.checked) own started (by kernel_rfl) Tryz.func3
    (ChangeSpec.witness6 (enc := enc) (C := Tryz.checked) false ⟨#[], #[.slice none 0 0, .int .i64 0, .int .u8 0], []⟩ 8 (by kernel_rfl) (by kernel_rfl) (by kernel_rfl) (by kernel_rfl)) ?_
  intro W base args ds gs before hval0 hW hcnd hsz0 _; have hval : ∀ (j : Nat) t v, Tryz.f3.params[j]? = some t → args[j]? = some v → Value.okWide Tryz.prog W .any base t v := hval0; have hsz : (DataW.weightsEach Tryz.prog (Tryz.f3.params.toList ++ Rows.certOnceSpec.plain.varTypes Tryz.prog) (ds ++ gs)).all (· ≤ reachBytes) = true := hsz0; have hW' := hW; obtain ⟨p, q, hA0, hV, rfl, hfz, hnd⟩ := hW; have hA : DataW.TrodAll enc Tryz.prog W 0 (fun _ => true) true Tryz.f3.params.toList args.toList ds p := hA0; rw [Tryz.params3] at hA hval hsz; obtain ⟨v0, vs0, d0, ds0, p0, q0, hargs, rfl, rfl, h0, r0⟩ := trodAll_cons hA; obtain ⟨v1, vs1, d1, ds1, p1, q1, rfl, rfl, rfl, h1, r1⟩ := trodAll_cons r0; obtain ⟨v2, vs2, d2, ds2, p2, q2, rfl, rfl, rfl, h2, r2⟩ := trodAll_cons r1; obtain ⟨rfl, rfl, rfl⟩ := trodAll_nil r2; obtain rfl : args = #[v0, v1, v2] := by cases args; simp_all
  obtain ⟨rfl, rfl⟩ := trodVars_none hV; have k0 := h0; have lt0 : ∀ x ∈ p0, x.block < W.heap.size := by obtain ⟨m, hm⟩ := k0; exact DataW.trod_lt m _ _ _ hm
  obtain ⟨a0, b0, c0, rfl⟩ := okWide_slice Tryz.underlying22 (hval 0 22 v0 rfl rfl); obtain ⟨fuel0, hf0⟩ := h0; obtain ⟨l0, hs0, hd0⟩ := jm8 hf0
  have hr0 : l0.length ≤ 140737488351232 := by
    rcases hd0 with ⟨-, h⟩ | ⟨es, ss, hd, hle⟩
    · rw [h]; exact Nat.zero_le _
    · have hd' : d0 = .slice es ss := hd
      have := sized_slice hsz (j := 0) (t := 22) (e := 5) rfl (by rw [hd']; rfl) Tryz.underlying22; rw [show Tryz.prog.bytesOf 5 = 1 from by kernel_rfl] at this; simp only [reachBytes] at this
      omega
  obtain ⟨a1, rfl, rfl, rfl, w1⟩ := open_int Tryz.underlying3 (hval 1 3 v1 rfl rfl) h1; obtain ⟨a2, rfl, rfl, rfl, w2⟩ := open_int Tryz.underlying5 (hval 2 5 v2 rfl rfl) h2; clear hA0 hval0; refine (walk W _ l0 hs0 hr0 a1 w1 a2 w2).mono fun e W' ⟨he, bel⟩ => ?_
  subst he; exact ⟨_, rfl, _, _, _, [], _, [], hW', trodAll_mk1 (shut_bool Tryz.underlying4 _), (trodAll_cons_mk (Below.trod laidOut (by kernel_rfl) (of_decide_eq_true (by kernel_rfl)) k0 bel lt0) (trodAll_cons_mk (shut_int Tryz.underlying3 w1) (trodAll_cons_mk (shut_int Tryz.underlying5 w2) trodAll_mk0))), rfl, bel.frame _, fun h => by cases h⟩

theorem over : Rows.certOnceRow.holds Tryz.pinned (OpenSpec.ofChange Rows.certOnceSpec) :=
  OpenClaim.holds_of_wide 3 Tryz.f3 rfl rfl rfl rfl rfl rfl rfl ⟨rfl, rfl, rfl, rfl, rfl⟩ rfl rfl rfl rfl rfl (by kernel_rfl) Tryz.func3 (by kernel_rfl)
    (of_decide_eq_true (by kernel_rfl)) (by unfold Func.isWrapper; first | (rw [if_pos (by decide +kernel)]; kernel_rfl) | (rw [if_neg (by decide +kernel)]; exact ⟨rfl, rfl⟩))
    (fun os started H enc _ => lifted os started H enc)

theorem proved : Rows.CertOnceSaid := over
#print axioms proved
end Go.Proofs.YtnkihnggghfioaaGreat.certOnce

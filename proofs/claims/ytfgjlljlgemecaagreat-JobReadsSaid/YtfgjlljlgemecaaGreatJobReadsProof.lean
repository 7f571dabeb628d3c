/-
  hairlinelaw18.JobReads returns true for any bytes, and leaves them as they were. Conditions: none.
-/
import Derived.Test.YtfgjlljlgemecaaGreatRows
import Derived.Test.YtfgjlljlgemecaaGreatEv
import Derived.Test.YtfgjlljlgemecaaGreatRk2
import Derived.Test.YtfgjlljlgemecaaGreatOpB
import Derived.ProofKit
import Derived.OpenShut
import Derived.SizedLaws
namespace Go.Proofs.YtfgjlljlgemecaaGreat.jobReads
open Go.ChangeShapes Go.WideShapes Go.ChangeAt Go.RowKit
set_option linter.unusedVariables false
set_option linter.unusedSimpArgs false

theorem own : ownKnob Tryz.prog.godebug = none := by kernel_rfl
theorem laidOut : laidOutB Tryz.prog = true := by kernel_rfl
theorem head (W : World) : Calls Tryz.prog 4 #[] W fun e w' => e = .returned (.bool true) ∧ Below W.heap.size W w' := by
  obtain ⟨-, -, g⟩ := V.fn_ok (V.R0_ok _) (fun n w0 => V.drawX_ok V.follows_any _ n w0) (V.sh18 (fun _ _ => 0)) (ρ := fun _ => 0) (β := id) (w := W) (vs := []) (by exact rfl) V.bxOK_nil trivial
  refine g.mono fun e w' ⟨h1, u, h2, h3⟩ => ⟨?_, h1⟩
  have h4 : [u] = [Value.bool true] := h3
  rw [h2, List.head_eq_of_cons_eq h4]
theorem walk (w : World) (A : Option Addr) (len cap : Nat) (xs : List Int) (h : BytesIn w A len cap xs) (hr : len ≤ 140737488351232) :
    Calls Tryz.prog 3 #[.slice A len cap] w fun e w' => e = .returned (.bool true) ∧ Below w.heap.size w w' :=
  reads_walk w A len cap xs h.1 h.2.2.2.1 hr h.2.2.2.2.1 h.2.2.2.2.2.1 h.2.2.2.2.2.2 head

/-! ### the row -/
set_option maxRecDepth 100000 in
theorem lifted (os : Os) (started : os.Started) (H : Type) (enc : TypeId × Value → H) :
    ReturnsInHanded {} Tryz.checked os 3 .any (Rows.jobReadsSpec.pre6 enc Tryz.prog Tryz.f3 Rows.jobReadsRow.domain false) (Rows.jobReadsSpec.post enc Tryz.prog Tryz.f3 false true false false) := by
  refine returnsInHanded_of_change_sized (C := Tryz.checked) own started (by kernel_rfl) Tryz.func3
    (ChangeSpec.witness6 (enc := enc) (C := Tryz.checked) false ⟨#[], #[.slice none 0 0], []⟩ 8 (by kernel_rfl) (by kernel_rfl) (by kernel_rfl) (by kernel_rfl)) ?_
  intro W base args ds gs before hval0 hW hcnd hsz0 _
  have hval : ∀ (j : Nat) t v, Tryz.f3.params[j]? = some t → args[j]? = some v → Value.okWide Tryz.prog W .any base t v := hval0
  have hsz : (DataW.weightsEach Tryz.prog (Tryz.f3.params.toList ++ Rows.jobReadsSpec.plain.varTypes Tryz.prog) (ds ++ gs)).all (· ≤ reachBytes) = true := hsz0
  have hW' := hW
  obtain ⟨p, q, hA0, hV, rfl, hfz, hnd⟩ := hW
  have hA : DataW.TrodAll enc Tryz.prog W 0 (fun _ => true) true Tryz.f3.params.toList args.toList ds p := hA0
  rw [Tryz.params3] at hA hval hsz
  obtain ⟨v0, vs0, d0, ds0, p0, q0, hargs, rfl, rfl, h0, r0⟩ := trodAll_cons hA
  obtain ⟨rfl, rfl, rfl⟩ := trodAll_nil r0
  obtain rfl : args = #[v0] := by cases args; simp_all
  obtain ⟨rfl, rfl⟩ := trodVars_none hV
  have k0 := h0
  have lt0 : ∀ x ∈ p0, x.block < W.heap.size := by obtain ⟨m, hm⟩ := k0; exact DataW.trod_lt m _ _ _ hm
  obtain ⟨fuel, hf0⟩ := h0
  have hsv := hval 0 22 v0 rfl rfl
  obtain ⟨a0, l0, k0', rfl⟩ := okWide_slice Tryz.underlying22 hsv
  obtain ⟨A0, len0, cap0, xs0, e0, hb0, hd0⟩ := open_bytes hf0
  injection e0 with e1 e2 e3
  subst e1 e2 e3
  have hr0 : l0 ≤ 140737488351232 := by
    rcases hd0 with ⟨-, h⟩ | ⟨es, ss, hd, hle⟩
    · omega
    · have hd' : d0 = .slice es ss := hd
      have := sized_slice hsz (j := 0) (t := 22) (e := 5) rfl (by rw [hd']; rfl) Tryz.underlying22
      rw [show Tryz.prog.bytesOf 5 = 1 from by kernel_rfl] at this
      simp only [reachBytes] at this
      omega
  clear hA0 hval0
  refine (walk W a0 l0 k0' xs0 hb0 hr0).mono fun e W' ⟨he, bel⟩ => ?_
  subst he
  exact ⟨_, rfl, _, _, _, [], _, [], hW', trodAll_mk1 (shut_bool Tryz.underlying4 _), (trodAll_cons_mk (Below.trod laidOut (by kernel_rfl) (of_decide_eq_true (by kernel_rfl)) k0 bel lt0) trodAll_mk0), rfl, bel.frame _, fun h => by cases h⟩

theorem over : Rows.jobReadsRow.holds Tryz.pinned (OpenSpec.ofChange Rows.jobReadsSpec) :=
  OpenClaim.holds_of_wide 3 Tryz.f3 rfl rfl rfl rfl rfl rfl rfl ⟨rfl, rfl, rfl, rfl, rfl⟩ rfl rfl rfl rfl rfl (by kernel_rfl) Tryz.func3 (by kernel_rfl)
    (of_decide_eq_true (by kernel_rfl)) (by unfold Func.isWrapper; first | (rw [if_pos (by decide +kernel)]; kernel_rfl) | (rw [if_neg (by decide +kernel)]; exact ⟨rfl, rfl⟩))
    (fun os started H enc _ => lifted os started H enc)

theorem proved : Rows.JobReadsSaid := over
#print axioms proved
end Go.Proofs.YtfgjlljlgemecaaGreat.jobReads

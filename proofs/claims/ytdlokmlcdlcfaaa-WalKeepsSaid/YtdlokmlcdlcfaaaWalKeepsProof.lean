/-
  hairlinelaw21.WalKeeps returns true for any slices of bytes, any number, any truths and any bytes, and leaves them as they were. Conditions: none.
-/
import Derived.Test.YtdlokmlcdlcfaaaRows
import Derived.Test.YtdlokmlcdlcfaaaChecked
import Derived.Test.YtdlokmlcdlcfaaaWq4
import Derived.Test.YtdlokmlcdlcfaaaOpW
import Derived.ProofKit
import Derived.OpenShut
import Derived.SizedLaws
namespace Go.Proofs.Ytdlokmlcdlcfaaa.walKeeps
open Go.ChangeShapes Go.WideShapes Go.ChangeAt Go.RowKit
set_option linter.unusedVariables false
set_option linter.unusedSimpArgs false

theorem own : ownKnob Try.prog.godebug = none := by kernel_rfl
theorem laidOut : laidOutB Try.prog = true := by kernel_rfl
theorem walk (W : World) (v : Value) (l : List (List UInt8)) (hv : Lst W v l) (hll : l.length ≤ 140737488351232) (hel : ∀ b ∈ l, b.length ≤ 140737488351232) (n : Int) (_ : (Lit.int .i64 n).wf = true) (kv : Value) (ks : List Bool) (hks : Sl W kv (ks.map Value.bool)) (hkl : ks.length ≤ 140737488351232) (mv : Value) (more : List UInt8) (hmv : Sl W mv (cel more)) (hml : more.length ≤ 140737488351232) :
    Calls Try.prog 7 #[v, .int .i64 n, kv, mv] W fun e w' => e = .returned (.bool true) ∧ Below W.heap.size W w' := keeps_calls W v l hv hll hel n kv ks hks hkl mv more hmv hml


/-! ### the row -/
set_option maxRecDepth 100000 in
set_option maxHeartbeats 1000000 in
theorem lifted (os : Os) (started : os.Started) (H : Type) (enc : TypeId × Value → H) :
    ReturnsInHanded {} Try.checked os 7 .any (Rows.walKeepsSpec.pre6 enc Try.prog Try.f7 Rows.walKeepsRow.domain false) (Rows.walKeepsSpec.post enc Try.prog Try.f7 false true false false) := by
  refine returnsInHanded_of_change_sized (C := Try.checked) own started (by kernel_rfl) Try.func7
    (ChangeSpec.witness6 (enc := enc) (C := Try.checked) false ⟨#[], #[.slice none 0 0, .int .i64 0, .slice none 0 0, .slice none 0 0], []⟩ 8 (by kernel_rfl) (by kernel_rfl) (by kernel_rfl) (by kernel_rfl)) ?_
  intro W base args ds gs before hval0 hW hcnd hsz0 _
  have hval : ∀ (j : Nat) t v, Try.f7.params[j]? = some t → args[j]? = some v → Value.okWide Try.prog W .any base t v := hval0
  have hsz : (DataW.weightsEach Try.prog (Try.f7.params.toList ++ Rows.walKeepsSpec.plain.varTypes Try.prog) (ds ++ gs)).all (· ≤ reachBytes) = true := hsz0
  have hW' := hW
  obtain ⟨p, q, hA0, hV, rfl, hfz, hnd⟩ := hW
  have hA : DataW.TrodAll enc Try.prog W 0 (fun _ => true) true Try.f7.params.toList args.toList ds p := hA0
  rw [Try.params7] at hA hval hsz
  obtain ⟨v0, vs0, d0, ds0, p0, q0, hargs, rfl, rfl, h0, r0⟩ := trodAll_cons hA
  obtain ⟨v1, vs1, d1, ds1, p1, q1, rfl, rfl, rfl, h1, r1⟩ := trodAll_cons r0
  obtain ⟨v2, vs2, d2, ds2, p2, q2, rfl, rfl, rfl, h2, r2⟩ := trodAll_cons r1
  obtain ⟨v3, vs3, d3, ds3, p3, q3, rfl, rfl, rfl, h3, r3⟩ := trodAll_cons r2
  obtain ⟨rfl, rfl, rfl⟩ := trodAll_nil r3
  obtain rfl : args = #[v0, v1, v2, v3] := by cases args; simp_all
  obtain ⟨rfl, rfl⟩ := trodVars_none hV
  have k0 := h0
  have lt0 : ∀ x ∈ p0, x.block < W.heap.size := by obtain ⟨m, hm⟩ := k0; exact DataW.trod_lt m _ _ _ hm
  obtain ⟨a0, b0, c0, rfl⟩ := okWide_slice Try.underlying52 (hval 0 52 v0 rfl rfl)
  obtain ⟨fuel0, hf0⟩ := h0
  obtain ⟨l0, hs0, hr0, he0⟩ := open_rows hf0 fun n hn => by
    have := List.all_eq_true.1 hsz _ (DataW.weights_mem_each (j := 0) (t := 52) (d := d0) rfl rfl n hn)
    simpa using this
  obtain ⟨a1, rfl, rfl, rfl, w1⟩ := open_int Try.underlying3 (hval 1 3 v1 rfl rfl) h1
  have k2 := h2
  have lt2 : ∀ x ∈ p2, x.block < W.heap.size := by obtain ⟨m, hm⟩ := k2; exact DataW.trod_lt m _ _ _ hm
  obtain ⟨a2, b2, c2, rfl⟩ := okWide_slice Try.underlying22 (hval 2 22 v2 rfl rfl)
  obtain ⟨fuel2, hf2⟩ := h2
  obtain ⟨l2, hs2, hd2⟩ := open_boolv hf2
  have hr2 : l2.length ≤ 140737488351232 := by
    rcases hd2 with ⟨-, h⟩ | ⟨es, ss, hd, hle⟩
    · rw [h]; exact Nat.zero_le _
    · have hd' : d2 = .slice es ss := hd
      have := sized_slice hsz (j := 2) (t := 22) (e := 4) rfl (by rw [hd']; rfl) Try.underlying22
      rw [show Try.prog.bytesOf 4 = 1 from by kernel_rfl] at this
      simp only [reachBytes] at this
      omega
  have k3 := h3
  have lt3 : ∀ x ∈ p3, x.block < W.heap.size := by obtain ⟨m, hm⟩ := k3; exact DataW.trod_lt m _ _ _ hm
  obtain ⟨a3, b3, c3, rfl⟩ := okWide_slice Try.underlying30 (hval 3 30 v3 rfl rfl)
  obtain ⟨fuel3, hf3⟩ := h3
  obtain ⟨l3, hs3, hd3⟩ := open_bytev hf3
  have hr3 : l3.length ≤ 140737488351232 := by
    rcases hd3 with ⟨-, h⟩ | ⟨es, ss, hd, hle⟩
    · rw [h]; exact Nat.zero_le _
    · have hd' : d3 = .slice es ss := hd
      have := sized_slice hsz (j := 3) (t := 30) (e := 5) rfl (by rw [hd']; rfl) Try.underlying30
      rw [show Try.prog.bytesOf 5 = 1 from by kernel_rfl] at this
      simp only [reachBytes] at this
      omega
  clear hA0 hval0
  refine (walk W _ l0 hs0 hr0 he0 a1 w1 _ l2 hs2 hr2 _ l3 hs3 hr3).mono fun e W' ⟨he, bel⟩ => ?_
  subst he
  exact ⟨_, rfl, _, _, _, [], _, [], hW', trodAll_mk1 (shut_bool Try.underlying4 _), (trodAll_cons_mk (Below.trod laidOut (by kernel_rfl) (of_decide_eq_true (by kernel_rfl)) k0 bel lt0) (trodAll_cons_mk (shut_int Try.underlying3 w1) (trodAll_cons_mk (Below.trod laidOut (by kernel_rfl) (of_decide_eq_true (by kernel_rfl)) k2 bel lt2) (trodAll_cons_mk (Below.trod laidOut (by kernel_rfl) (of_decide_eq_true (by kernel_rfl)) k3 bel lt3) trodAll_mk0)))), rfl, bel.frame _, fun h => by cases h⟩

theorem over : Rows.walKeepsRow.holds Try.pinned (OpenSpec.ofChange Rows.walKeepsSpec) :=
  OpenClaim.holds_of_wide 7 Try.f7 rfl rfl rfl rfl rfl rfl rfl ⟨rfl, rfl, rfl, rfl, rfl⟩ rfl rfl rfl rfl rfl (by kernel_rfl) Try.func7 (by kernel_rfl)
    (of_decide_eq_true (by kernel_rfl)) (by unfold Func.isWrapper; first | (rw [if_pos (by decide +kernel)]; kernel_rfl) | (rw [if_neg (by decide +kernel)]; exact ⟨rfl, rfl⟩))
    (fun os started H enc _ => lifted os started H enc)

theorem proved : Rows.WalKeepsSaid := over
#print axioms proved
end Go.Proofs.Ytdlokmlcdlcfaaa.walKeeps

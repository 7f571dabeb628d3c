/-
  hairlinelaw04.BitsBack returns true for every pattern. Conditions: none.
-/
import Derived.Test.YtnkembnachhicaaRows
import Derived.Test.YtnkembnachhicaaBack
import Derived.ProofKit
import Derived.OpenShut
namespace Go.Proofs.Ytnkembnachhicaa.bitsBack
open Go.ChangeShapes Go.WideShapes Go.ChangeAt Go.RowKit
set_option linter.unusedVariables false

theorem own : ownKnob Try.prog.godebug = none := by kernel_rfl
theorem laidOut : laidOutB Try.prog = true := by kernel_rfl

set_option maxRecDepth 100000 in
theorem walk_nat (b : Nat) (hb : b < W) (w : World) :
    Calls Try.prog 4 #[.int .u64 b] w fun e w' => e = .returned (.bool true) ∧ Below w.heap.size w w' := by
  go_enter Try.func4, Try.ntmps4
  go_wp2_with fail
  refine (shown4_calls w).mono ?_
  rintro e w0 ⟨hb0, rfl⟩
  have HP := c_value (w := w0) b hb
  obtain ⟨z, HZ⟩ : ∃ z, Hid (vM b = z) := ⟨_, hide rfl⟩
  obtain ⟨x, HX⟩ : ∃ z, Hid (vE b = z) := ⟨_, hide rfl⟩
  rw [HZ.out, HX.out] at HP
  by_cases h7 : pFld b = 2047
  · have hx : vX b = 1 := by unfold vX; rw [if_pos h7]
    have h7' : (((pFld b : Nat) : Int) == 2047) = true := by rw [beq_iff_eq]; omega
    rw [hx] at HP
    clear hx h7
    go_wp2_with fail
    refine HP.mono ?_
    rintro e w1 ⟨hb1, n1, A1, len1, cap1, rfl, hq1⟩
    clear HP
    obtain ⟨w2, hW, hbx2, hB2, hs2⟩ := start1 w1 26 #[.bool n1, .slice A1 len1 cap1, .int .i64 x]
    have HB2 := hide ((hb0.trans (hb1.mono hb0.size)).trans (hB2.mono (by have := hb0.size; have := hb1.size; omega)))
    clear hs2
    go_upto_region 3 with (fail)
    rw [← hW]
    clear hW
    go_wp2_with fail
    refine (parts_calls _ b hb).mono ?_
    rintro e w3 ⟨rfl, rfl⟩
    go_wp2_with fail
    go_ret
    exact ⟨rfl, HB2.out⟩
  · have hx : vX b = 0 := by unfold vX; rw [if_neg h7]
    have h7' : (((pFld b : Nat) : Int) == 2047) = false := by rw [beq_eq_false_iff_ne]; omega
    have h7'' : (((pFld b : Nat) : Int) != 2047) = true := by rw [bne_iff_ne]; omega
    have hk := back b hb h7
    have hv := vE_bd b h7
    rw [HX.out] at hv
    rw [HZ.out, HX.out] at hk
    rw [hx] at HP
    clear hx h7
    go_wp2_with fail
    refine HP.mono ?_
    rintro e w1 ⟨hb1, n1, A1, len1, cap1, rfl, hq1⟩
    clear HP
    obtain ⟨w2, hW, hbx2, hB2, hs2⟩ := start1 w1 26 #[.bool n1, .slice A1 len1 cap1, .int .i64 x]
    have hq2 := hq1.below hB2
    have HB2 := hide ((hb0.trans (hb1.mono hb0.size)).trans (hB2.mono (by have := hb0.size; have := hb1.size; omega)))
    clear hs2
    obtain ⟨c0, c1, c2, -, -, -⟩ := hbx2.three
    have HP := c_ofpat (x := x) hq2 (by omega) (by omega) (by omega)
    obtain ⟨c, HC⟩ : ∃ c, Hid (oB1 (nM z x) (nE z x) = c) := ⟨_, hide rfl⟩
    rw [HC.out, hk.1] at HP
    have hk2 := hk.2
    rw [HC.out] at hk2
    have HK := hide hk2
    clear hk hk2
    go_upto_region 3 with (fail)
    rw [← hW]
    clear hW
    go_wp2_with fail
    refine (parts_calls _ b hb).mono ?_
    rintro e w3 ⟨rfl, rfl⟩
    go_wp2_with fail
    refine HP.mono ?_
    rintro e w4 ⟨hb4, rfl⟩
    clear HP
    by_cases hcb : c = b
    · have h1 : (((c : Nat) : Int) == (b : Int)) = true := by rw [beq_iff_eq]; omega
      clear hcb
      go_wp2_with fail
      go_ret
      exact ⟨rfl, HB2.out.trans (hb4.mono HB2.out.size)⟩
    · have h1 : (((c : Nat) : Int) == (b : Int)) = false := by rw [beq_eq_false_iff_ne]; omega
      obtain ⟨hb63, hc0⟩ := HK.out.resolve_left hcb
      have h2 : (((b : Nat) : Int) == 9223372036854775808) = true := by rw [beq_iff_eq, hb63]; rfl
      have h3 : (((c : Nat) : Int) == 0) = true := by rw [beq_iff_eq, hc0]; rfl
      clear hcb hb63 hc0
      go_wp2_with fail
      go_ret
      exact ⟨rfl, HB2.out.trans (hb4.mono HB2.out.size)⟩

theorem walk (a0 : Int) (w0 : (Lit.int .u64 a0).wf = true) (w : World) :
    Calls Try.prog 4 #[.int .u64 a0] w fun e w' => e = .returned (.bool true) ∧ Below w.heap.size w w' := by
  have hb := bounds_u64 w0
  obtain ⟨b, rfl⟩ : ∃ b : Nat, a0 = b := ⟨a0.toNat, by omega⟩
  exact walk_nat b (by unfold W; omega) w

/-! ### the row -/
set_option maxRecDepth 100000 in
theorem lifted (os : Os) (started : os.Started) (H : Type) (enc : TypeId × Value → H) :
    ReturnsInHanded {} Try.checked os 4 .any (Rows.bitsBackSpec.pre6 enc Try.prog Try.f4 Rows.bitsBackRow.domain false) (Rows.bitsBackSpec.post enc Try.prog Try.f4 false true false false) := by
  refine returnsInHanded_of_change (C := Try.checked) own started (by kernel_rfl) Try.func4
    (ChangeSpec.witness6 (enc := enc) (C := Try.checked) false ⟨#[], #[.int .u64 0], []⟩ 8 (by kernel_rfl) (by kernel_rfl) (by kernel_rfl) (by kernel_rfl)) ?_
  intro W base args ds gs before hval0 hW hcnd _
  have hval : ∀ (j : Nat) t v, Try.f4.params[j]? = some t → args[j]? = some v → Value.okWide Try.prog W .any base t v := hval0
  have hW' := hW
  obtain ⟨p, q, hA0, hV, rfl, hfz, hnd⟩ := hW
  have hA : DataW.TrodAll enc Try.prog W 0 (fun _ => true) true Try.f4.params.toList args.toList ds p := hA0
  rw [Try.params4] at hA hval
  obtain ⟨v0, vs0, d0, ds0, p0, q0, hargs, rfl, rfl, h0, r0⟩ := trodAll_cons hA
  obtain ⟨rfl, rfl, rfl⟩ := trodAll_nil r0
  obtain rfl : args = #[v0] := by cases args; simp_all
  obtain ⟨rfl, rfl⟩ := trodVars_none hV
  obtain ⟨a0, rfl, rfl, rfl, w0⟩ := open_int Try.underlying32 (hval 0 32 v0 rfl rfl) h0
  clear hA0 hval0
  refine (walk a0 w0 W).mono fun e W' ⟨he, bel⟩ => ?_
  subst he
  exact ⟨_, rfl, _, _, _, [], _, [], hW', trodAll_mk1 (shut_bool Try.underlying4 _), (trodAll_cons_mk (shut_int Try.underlying32 w0) trodAll_mk0), rfl, bel.frame _, fun h => by cases h⟩

theorem over : Rows.bitsBackRow.holds Try.pinned (OpenSpec.ofChange Rows.bitsBackSpec) :=
  OpenClaim.holds_of_wide 4 Try.f4 rfl rfl rfl rfl rfl rfl rfl ⟨rfl, rfl, rfl, rfl, rfl⟩ rfl rfl rfl rfl rfl (by kernel_rfl) Try.func4 (by kernel_rfl)
    (of_decide_eq_true (by kernel_rfl)) (by unfold Func.isWrapper; first | (rw [if_pos (by decide +kernel)]; kernel_rfl) | (rw [if_neg (by decide +kernel)]; exact ⟨rfl, rfl⟩))
    (fun os started H enc _ => lifted os started H enc)

theorem proved : Rows.BitsBackSaid := over
#print axioms proved
end Go.Proofs.Ytnkembnachhicaa.bitsBack

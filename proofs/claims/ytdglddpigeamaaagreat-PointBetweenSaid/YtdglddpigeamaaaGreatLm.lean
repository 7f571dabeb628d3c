/- hairlinelaw09: limbs. -/
import Derived.Test.YtdglddpigeamaaaGreatRb1
import Derived.Test.YtdglddpigeamaaaGreatEv
set_option linter.unusedVariables false
set_option linter.unusedSimpArgs false
namespace Go.Proofs.YtdglddpigeamaaaGreat
open Go.RowKit
open L (val dig nth)
set_option maxHeartbeats 1000000 in
set_option maxRecDepth 100000 in
theorem jka (w : World) (n : Bool) (A : Option Addr) (len cap : Nat) (k : Nat) (L : List Nat) (h : Nums w 0 (.slice A len cap) L) (hk : k ≤ 1000) :
    Calls Tryz.prog 12 #[.agg #[.bool n, .slice A len cap], .int .i64 k] w fun e w' => Below w.heap.size w w' ∧ ∃ A' len' cap', e = .returned (.agg #[.bool n, .slice A' len' cap']) ∧ Nums w' w.heap.size (.slice A' len' cap') (L.take k) := by
  have hlen : L.length = len := by
    obtain ⟨A', cap', h1, -⟩ := h; injection h1 with _ h1 _
    exact h1.symm
  have hcl : len ≤ cap ∧ cap ≤ 9223372036854775807 := by
    obtain ⟨A', cap', h1, h2, h3, -⟩ := h; injection h1 with _ e2 e3
    subst e3
    omega
  obtain ⟨W0, hW, hbx, hrs, hB0, hs⟩ := start2 w 24 24 #[.bool n, .slice A len cap] #[.bool false, .slice none 0 0]; have h0 := h.up hB0; obtain ⟨c0, c1, -, -⟩ := hbx.two; obtain ⟨d0, d1, d3, d4⟩ := hrs.two; have HS := hide hs; have hs2 : w.heap.size + 1 < W0.heap.size := by omega
  clear hs
  go_enter Tryz.func12, Tryz.ntmps12
  go_upto_region 1 with (fail)
  rw [← hW]; clear hW
  go_upto_if 11 with (fail)
  go_cut [5] (fun m wx => W0 = wx ∧ ∃ A' l' c', m = .slice A' l' c' ∧ Nums W0 0 (.slice A' l' c') (L.take k))
  case first =>
    by_cases hlt : (k : Int) < (len : Int)
    · have hk0 : (0 : Int) ≤ (k : Int) := by omega
      have hkc : (k : Int) ≤ (cap : Int) := by omega
      have HN := hide (Nums.first (l := L) (n := k) (by rw [hlen]; exact h0) (by omega)); clear hlen
      go_wp2_with fail
      go_meet
      exact ⟨rfl, _, _, _, rfl, HN.out⟩
    · have HN := hide (show Nums W0 0 (.slice A len cap) (L.take k) from by rw [List.take_of_length_le (by omega)]; exact h0)
      clear hlen
      go_wp2_with fail
      go_meet
      exact ⟨rfl, _, _, _, rfl, HN.out⟩
  case rest =>
    obtain ⟨rfl, A', l', c', rfl, hm⟩ := hcut; have hml : (L.take k).length ≤ k := by simp; omega
    obtain ⟨M, HM⟩ : ∃ M, Hid (L.take k = M) := ⟨_, hide rfl⟩; rw [HM.out] at hm hml; clear hlen
    go_upto_region 4 with (fail)
    go_region_held3 (fun w' => w'.cell? ⟨w.heap.size, 0, none⟩ = some (.bool n)) (go_keep)
      ((refine jj9 _ (by rfl) _ _ (by rfl) W0.heap.size _ [] (by rfl) (OwnU.empty W0.drew (Nat.le_refl _)) 0 _ M (by rfl) ((hm.drew).alloc _) (by have := hml; simp only [List.length_nil]; omega) (by simp) ?_
        intro v' w' hown hgrow; have hB1 : Below W0.heap.size W0 w' := Below.grown (B := W0.heap.size) (((Below.refl _ _).drew).alloc (Nat.le_refl _) _) hgrow (by simp) (by intro j hj; simp only [Value.ownBlock, Option.some.injEq] at hj; exact Nat.le_of_eq hj); obtain ⟨Ao, co, hvo⟩ := hown.form; rw [hvo] at hown ⊢; have hbx1 := hbx.below hB1 (by omega); have hrs1 := hrs.below hB1 (by omega); obtain ⟨i0, i1, -, -⟩ := hbx1.two; obtain ⟨j0, j1, j3, j4⟩ := hrs1.two))
    go_wp2_with fail
    refine bodyPost_ret (jaa rfl _ _ _ _ _ _ rfl (jac hrs1)) rfl ⟨below2 (hB0.trans (hB1.mono hB0.size)) (by omega) _ _, ?_⟩; refine ⟨Ao, M.length, co, rfl, ?_⟩; rw [HM.out]; have hn := OwnU.nums hown (by rw [List.nil_append]; exact hm.lt); exact (jad hn hs2 _ _).mono hB0.size
theorem jkb (l : List Nat) (hl : ∀ x ∈ l, x < W) (k : Nat) : val W (l.take k) = val W l % W ^ k := by
  by_cases hk : k ≤ l.length
  · have e : val W l = val W (l.take k) + W ^ k * val W (l.drop k) := by
      conv => lhs; rw [← List.take_append_drop k l]
      rw [L.val_append, List.length_take, Nat.min_eq_left hk]
    have h1 := L.val_lt (l.take k) (fun x hx => hl x (List.mem_of_mem_take hx)); rw [List.length_take, Nat.min_eq_left hk] at h1; rw [e, Nat.add_mul_mod_self_left, Nat.mod_eq_of_lt h1]
  · have h1 := L.val_lt l hl
    rw [List.take_of_length_le (by omega), Nat.mod_eq_of_lt]; exact Nat.lt_of_lt_of_le h1 (Nat.pow_le_pow_right jay (by omega))
theorem jp7 (n : Bool) (a b : Nat) : ival n (a % b) = (ival n a).tmod b := by
  cases n
  · show ((a % b : Nat) : Int) = (a : Int).tmod b
    rw [Int.tmod_eq_emod_of_nonneg (Int.natCast_nonneg _)]
    push_cast
    rfl
  · show -((a % b : Nat) : Int) = (-(a : Int)).tmod b
    rw [Int.neg_tmod, Int.tmod_eq_emod_of_nonneg (Int.natCast_nonneg _)]
    push_cast
    rfl
namespace V
open Go.Shelf
def hugeK : Nat := 9223372036854775807
def limbsS (f : FuncId) (m : Nat) : Spec := dsp f [vz 9223372036854775807 false (.v 0), i64 (.n m)] 1 [] (vz m false (ap2 7 (.v 0) (.n ((W ^ m : Nat) : Int))))
theorem limbsOK (h : Nat → List Int → Int) (m : Nat) (hm : m ≤ 1000) : SpecOK Tryz.prog (FD h) (limbsS 12 m) := by
  intro ρ β w vs ha _ _; obtain ⟨v, u, rfl, hv, hu⟩ := args2 ha; obtain ⟨n, A, l, c, rfl, hq, -⟩ := jca (k := 9223372036854775807) (c := false) (t := .v 0) rfl hv; rw [jih hu]; obtain ⟨d, h1, h2, h3⟩ := hq; refine ⟨trivial, (jka w n A l c m d h1 hm).mono fun e w' ⟨k1, A', l', c', k2, k3⟩ => ⟨k1, _, k2, ?_⟩⟩; refine ⟨[.bool n, .slice A' l' c'], rfl, _, [], rfl, ⟨n, A', l', c', rfl, ⟨d.take m, k3.mono (Nat.zero_le _), by simp; omega, ?_⟩, fun hh => by cases hh⟩, rfl⟩
  show ival n (val W (d.take m)) = (ρ 0).tmod ((W ^ m : Nat) : Int)
  rw [jkb d h1.lt, jp7, h3]
  rfl
end V
end Go.Proofs.YtdglddpigeamaaaGreat

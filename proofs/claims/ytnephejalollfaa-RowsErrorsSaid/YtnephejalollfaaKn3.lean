/- nat.short: division by one limb. -/
import Derived.Test.YtnephejalollfaaKn2
set_option linter.unusedVariables false
set_option linter.unusedSimpArgs false
namespace Go.Proofs.Ytnephejalollfaa
open Go.RowKit
open L (val dig nth)

/-- Two numbers are handed back: a quotient and what is left. -/
def RetQR (B q r : Nat) (e : Ending) (w : World) : Prop := ∃ u d u' d', e = .returned (.tuple #[u, u', .bool true]) ∧ Nums w B u d ∧ Canon d q ∧ Nums w B u' d' ∧ Canon d' r
theorem Nums.oneB (w : World) (B : Nat) (z : Int) (x : Nat) (hz : z = x) (hx : x < W) (hB : B ≤ w.heap.size) : Nums (w.alloc (.cells #[.int .u64 z] 54)) B (.slice (some ⟨w.heap.size, 0, none⟩) 1 1) [x] := by
  subst hz
  have h : Out (w.alloc (.cells (cellsU [x]) 54)) w.heap.size [x] := Out.new w [x]
  exact h.nums hB (by simp) (by simpa using hx)
set_option maxHeartbeats 1000000 in
set_option maxRecDepth 100000 in
theorem short_calls (w : World) (B : Nat) (va : Value) (p : List Nat) (y : Nat) (hp : Nums w B va p) (hp6 : p.length ≤ 60000) (hy0 : 0 < y) (hy : y < W) :
    Calls Try.prog 81 #[va, .int .u64 y] w fun e w' => Below w.heap.size w w' ∧ RetQR w.heap.size (val W p / y) (val W p % y) e w' := by
  have hp0 := hp.lt
  obtain ⟨A1, c1, rfl, -, -, -, hcp⟩ := hp
  have hmk := mkU_run (p.length : Int) p.length (by omega) (by omega)
  go_enter Try.func81, Try.ntmps81
  go_wp2_with fail
  clear hmk
  go_loopw [8, 9] (fun r i wr => ∃ (m rN : Nat) (o : List Nat), m ≤ p.length ∧ i = .int .i64 ((m : Int) - 1) ∧ r = .int .u64 rN ∧ rN < y ∧ Out wr w.heap.size o ∧ Hid (o.length = p.length) ∧ Hid (∀ x ∈ o, x < W) ∧
      Hid (val W (p.drop m) = y * val W (o.drop m) + rN) ∧ Below w.heap.size w wr) (fun _ i _ => (intOf i + 1).toNat)
  case atStart => exact ⟨p.length, 0, _, Nat.le_refl _, rfl, rfl, hy0, Out.made w _, hide (by simp), hide (fun x hx => by rw [(List.mem_replicate.1 hx).2]; exact W_pos), hide (by rw [List.drop_eq_nil_of_le (Nat.le_refl _), List.drop_eq_nil_of_le (by simp)]; simp [L.val]), (Below.refl _ _).alloc (Nat.le_refl _) _⟩
  case round =>
    obtain ⟨m, rN, o, hm, rfl, rfl, hr, hO, HO, HOlt, HI, hB⟩ := hrel
    cases m with
    | zero =>
      have hge : ¬ ((0 : Int) ≤ ((0 : Nat) : Int) - 1) := by omega
      have HV := HI.out
      rw [List.drop_zero, List.drop_zero] at HV
      have HQ : Hid (val W o = val W p / y) := hide (by rw [HV, Nat.mul_add_div hy0, Nat.div_eq_of_lt hr, Nat.add_zero])
      have HR : Hid (rN = val W p % y) := hide (by rw [HV, Nat.mul_add_mod, Nat.mod_eq_of_lt hr])
      have hrW : rN < W := by omega
      have hN := hO.nums (Nat.le_refl _) (by have := HO.out; omega) HOlt.out
      rw [HO.out] at hN
      have HN := hide hN
      clear hN hcp HV HI
      go_wp2_with fail
      refine (trim_calls _ _ _ _ HN.out).mono ?_
      rintro e w1 ⟨rfl, u, d, rfl, hu, hd⟩
      have h1 := Nums.oneB wr w.heap.size (rN : Nat) rN rfl hrW hB.size
      have hu1 := hu.alloc (.cells #[.int .u64 (rN : Nat)] 54)
      have HB1 := hide (hB.alloc hB.size (.cells #[.int .u64 (rN : Nat)] 54))
      go_wp2_with fail
      refine (trim_calls _ _ _ _ h1).mono ?_
      rintro e w1 ⟨rfl, u', d', rfl, hu', hd'⟩
      go_wp2_with fail
      go_ret3
      refine ⟨HB1.out, u, d, u', d', rfl, hu1, ?_, hu', ?_⟩
      · rw [← HQ.out]; exact hd
      · rw [← HR.out]; simpa [L.val] using hd'
    | succ k =>
      have hlt : k < p.length := by omega
      have hge : (0 : Int) ≤ ((k + 1 : Nat) : Int) - 1 := by omega
      have hk1 : ((k + 1 : Nat) : Int) - 1 = (k : Int) := by omega
      have hol : k < o.length := by have := HO.out; omega
      obtain ⟨b1, o1, rfl, -, hb1, hcell1⟩ := hcp (by omega)
      have h1 : wr.cell? ⟨b1, o1 + k, none⟩ = _ := (hB.cell (p := ⟨b1, o1 + k, none⟩) hb1).trans (hcell1 k hlt)
      have h3 := hO.cell hol
      have h4 := hO.frozen k
      have px := nth_lt hp0 k
      have HST := hide (L.divD_step W y p o k rN hlt hol HI.out)
      have HQL : Hid ((rN * W + nth p k) / y < W) := hide (by rw [Nat.div_lt_iff_lt_mul hy0]; have : (rN + 1) * W ≤ y * W := Nat.mul_le_mul_right _ hr; rw [Nat.add_mul] at this; have h2 : nth p k < W := px; rw [Nat.mul_comm W y]; omega)
      have HRL : Hid ((rN * W + nth p k) % y < y) := hide (Nat.mod_lt _ hy0)
      have HP := div64_calls rN (nth p k) y hr px hy
      rw [show rN * 18446744073709551616 = rN * W from rfl] at HP
      generalize (rN * W + nth p k) / y = Q at *
      generalize (rN * W + nth p k) % y = R at *
      rw [hk1]
      clear hcell1 hcp hk1
      go_wp2_with fail
      refine (HP wr).mono ?_
      rintro e w1 ⟨⟨n, rfl⟩, rfl⟩
      have h3 : (wr.drewN n).cell? ⟨w.heap.size, k, none⟩ = _ := h3
      have h4 : (wr.drewN n).frozen? ⟨w.heap.size, k, none⟩ = _ := h4
      clear HP
      go_wp2_with fail
      go_roundw
      case rel =>
        exact ⟨k, R, _, by omega, by go_num, rfl, HRL.out, (hO.drewN n).set k Q, hide (by simpa using HO.out), hide (L.mem_set_lt o HOlt.out k Q HQL.out), HST, (hB.trans ((Dr.refl _).next n |>.below _)).setCell (Nat.le_refl _) _⟩
      case measure => simp [intOf]
end Go.Proofs.Ytnephejalollfaa

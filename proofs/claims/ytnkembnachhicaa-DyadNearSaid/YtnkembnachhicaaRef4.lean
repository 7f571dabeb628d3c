/- The document's numbers: products of digits. -/
import Derived.Test.YtnkembnachhicaaRef3
set_option linter.unusedVariables false
namespace Go.Proofs.Ytnkembnachhicaa
open Go.RowKit
open L (val dig nth)

set_option maxHeartbeats 1000000 in
theorem mulD_calls (w : World) (B C : Nat) (va vb : Value) (p q : List Nat) (hp : Nums w B va p) (hq : Nums w C vb q) (hp0 : ∀ x ∈ p, x < B32) (hq0 : ∀ x ∈ q, x < B32) (hpl : p.length ≤ 400000) (hql : q.length ≤ 400000) :
    Calls Try.prog 122 #[va, vb] w fun e w' => Below w.heap.size w w' ∧ RetG w.heap.size (val B32 p * val B32 q) e w' := by
  obtain ⟨A1, c1, rfl, -, -, -, hcp⟩ := hp
  obtain ⟨A2, c2, rfl, -, -, -, hcq⟩ := hq
  have hmk := mkU_run ((p.length : Int) + (q.length : Int) + 1) (p.length + q.length + 1) (by omega) (by omega)
  go_enter Try.func122, Try.ntmps122
  go_wp2_with fail
  clear hmk
  go_loopw [6] (fun i wr => ∃ (k : Nat) (o : List Nat), k ≤ p.length ∧ i = .int .i64 k ∧ Out wr w.heap.size o ∧ Hid (o.length = p.length + q.length + 1) ∧ Hid (∀ x ∈ o, x < B32) ∧
      Hid (val B32 o = val B32 (p.take k) * val B32 q) ∧ Hid (∀ j, k + q.length ≤ j → nth o j = 0) ∧ Below w.heap.size w wr) (fun i _ => p.length - (intOf i).toNat)
  case atStart => exact ⟨0, _, Nat.zero_le _, rfl, Out.made w _, hide (by simp), hide (fun x hx => by rw [(List.mem_replicate.1 hx).2]; exact B32_pos), hide (by simp [L.val, L.val_replicate]), hide (fun j _ => by simp [L.nth_def, List.getD_eq_getElem?_getD, List.getElem?_replicate]; split <;> rfl), (Below.refl _ _).alloc (Nat.le_refl _) _⟩
  case round =>
    obtain ⟨i, o, hi, rfl, hO, HO, HOlt, HI, HZ, hB⟩ := hrel
    by_cases hlt : i < p.length
    · obtain ⟨b1, o1, rfl, -, hb1, hcell1⟩ := hcp (by omega)
      have px := nthD_lt hp0 i
      have bp : (i : Int) < (p.length : Int) := by omega
      obtain ⟨wo, rfl⟩ : ∃ wo : World, wo = wr := ⟨_, rfl⟩
      have HC1 := hide (hcell1 i hlt)
      clear hcell1 hcp
      go_wp2_with fail
      go_loopw [7, 8] (fun c k wr => ∃ (k' cN : Nat) (o' : List Nat), k' ≤ q.length ∧ k = .int .i64 k' ∧ c = .int .u64 cN ∧ cN < 4294967296 ∧ Out wr w.heap.size o' ∧ Hid (o'.length = p.length + q.length + 1) ∧ Hid (∀ x ∈ o', x < B32) ∧
        Hid (val B32 o' + B32 ^ (i + k') * cN = val B32 (p.take i) * val B32 q + B32 ^ i * (nth p i * val B32 (q.take k'))) ∧ Hid (∀ j, i + q.length ≤ j → nth o' j = 0) ∧ Below w.heap.size w wr) (fun _ k _ => q.length - (intOf k).toNat)
      case atStart => exact ⟨0, 0, o, Nat.zero_le _, rfl, rfl, by omega, hO, HO, HOlt, hide (by rw [HI.out]; simp [L.val]), HZ, hB⟩
      case round =>
        obtain ⟨k, cN, o', hk, rfl, rfl, hcN, hO', HO', HOlt', HI', HZ', hB'⟩ := hrel
        by_cases hltq : k < q.length
        · have hol : i + k < o'.length := by have := HO'.out; omega
          obtain ⟨b2, o2, rfl, -, hb2, hcell2⟩ := hcq (by omega)
          have h1 : wr.cell? ⟨b1, o1 + i, none⟩ = _ := (hB'.cell (p := ⟨b1, o1 + i, none⟩) hb1).trans HC1.out
          have h2 : wr.cell? ⟨b2, o2 + k, none⟩ = _ := (hB'.cell (p := ⟨b2, o2 + k, none⟩) hb2).trans (hcell2 k hltq)
          have h3 := hO'.cell hol
          have h4 := hO'.frozen (i + k)
          have qx := nthD_lt hq0 k
          have ox := nthD_lt HOlt'.out (i + k)
          have hmul : nth p i * nth q k ≤ 4294967295 * 4294967295 := Nat.mul_le_mul (by omega) (by omega)
          obtain ⟨P, HP⟩ : ∃ P, Hid (nth p i * nth q k = P) := ⟨_, hide rfl⟩
          rw [HP.out] at hmul
          have hw1 : IntKind.u64.wrap (((nth p i : Nat) : Int) * ((nth q k : Nat) : Int)) = (P : Int) := by rw [← Int.natCast_mul, HP.out]; exact IntWalk.u64_in _ (by omega)
          have hw2 : IntKind.u64.wrap (((nth o' (i + k) : Nat) : Int) + (P : Int)) = ((nth o' (i + k) : Nat) : Int) + (P : Int) := IntWalk.u64_in _ (by omega)
          have hw3 : IntKind.u64.wrap (((nth o' (i + k) : Nat) : Int) + (P : Int) + (cN : Int)) = ((nth o' (i + k) + P + cN : Nat) : Int) := by rw [IntWalk.u64_in _ (by omega)]; omega
          have bi : (i : Int) + (k : Int) < (p.length : Int) + (q.length : Int) + 1 := by omega
          have s1 : IntKind.i64.wrap ((i : Int) + (k : Int)) = (i : Int) + (k : Int) := IntWalk.i64_in _ (by omega)
          have s3 : (0 : Int) ≤ (i : Int) + (k : Int) := by omega
          have s4 : ((i : Int) + (k : Int)).toNat = i + k := by omega
          have bq : (k : Int) < (q.length : Int) := by omega
          have b0 : (0 : Int) ≤ (i : Int) := by omega
          have b0' : (0 : Int) ≤ (k : Int) := by omega
          obtain ⟨S, HS⟩ : ∃ S, Hid (nth o' (i + k) + P + cN = S) := ⟨_, hide rfl⟩
          rw [HS.out] at hw3
          have hS : S < 18446744073709551616 := by have := HS.out; omega
          have HST := hide (L.mul_step B32 q o' _ (nth p i) i k cN (S % B32) (S / B32) hol HI'.out (by rw [Nat.mod_add_div, HP.out, ← HS.out]; omega))
          have e1 : (S : Int) % 4294967296 = ((S % B32 : Nat) : Int) := by unfold B32; omega
          have e2 : (S : Int) / 4294967296 = ((S / B32 : Nat) : Int) := by unfold B32; omega
          have E1 := hide e1
          have E2 := hide e2
          have e3 : S % B32 < B32 := Nat.mod_lt _ B32_pos
          have e4 : S / B32 < 4294967296 := by unfold B32; omega
          clear hcell2 hcq hmul e1 e2
          go_wp2_with fail
          go_quiet (fail)
          clear hw1 hw2 hw3 s1 s4
          go_wp2_with fail
          go_roundw
          case rel =>
            exact ⟨k + 1, S / B32, _, by omega, by go_num, by rw [E2.out], e4, hO'.drewN _ |>.set_of (i + k) _ E1.out, hide (by simpa using HO'.out), hide (L.mem_set_lt o' HOlt'.out (i + k) _ e3), HST,
              hide (fun j hj => by rw [L.getD_set_ne _ _ _ _ (by omega)]; exact HZ'.out j hj), (hB'.trans ((Dr.refl wr).next _ |>.below _)).setCell (Nat.le_refl _) _⟩
          case measure => simp [intOf]; omega
        · have hke : k = q.length := by omega
          subst hke
          have hol : i + q.length < o'.length := by have := HO'.out; omega
          have h3 := hO'.cell hol
          have h4 := hO'.frozen (i + q.length)
          have bi : (i : Int) + (q.length : Int) < (p.length : Int) + (q.length : Int) + 1 := by omega
          have bq : ¬ ((q.length : Int) < (q.length : Int)) := by omega
          have hzz := HZ'.out (i + q.length) (Nat.le_refl _)
          have HZZ := hide hzz
          have HST := hide (L.mul_row B32 p q o' i cN hol hzz (by have := HI'.out; rwa [List.take_of_length_le (Nat.le_refl _)] at this))
          have ox := nthD_lt HOlt'.out (i + q.length)
          clear hzz
          go_wp2_with fail
          go_roundw
          case rel =>
            exact ⟨i + 1, _, by omega, by go_num, hO'.set_of (i + q.length) cN (by rw [HZZ.out]; omega), hide (by simpa using HO'.out), hide (L.mem_set_lt o' HOlt'.out _ _ hcN), HST,
              hide (fun j hj => by rw [L.getD_set_ne _ _ _ _ (by omega)]; exact HZ'.out j (by omega)), hB'.setCell (Nat.le_refl _) _⟩
          case measure => simp [intOf]; omega
    · have hke : i = p.length := by omega
      subst hke
      have bp : ¬ ((p.length : Int) < (p.length : Int)) := by omega
      have HV : Hid (val B32 o = val B32 p * val B32 q) := hide (by rw [HI.out, List.take_of_length_le (Nat.le_refl _)])
      have hN := hO.nums (Nat.le_refl _) (by have := HO.out; omega) (fun x hx => Nat.lt_of_lt_of_le (HOlt.out x hx) B32_lt)
      rw [HO.out] at hN
      have HN := hide hN
      clear hN hcp hcq
      go_wp2_with fail
      refine (trimD_calls _ _ _ _ HN.out HOlt.out).mono ?_
      rintro e w1 ⟨rfl, u, d, rfl, hu, hd⟩
      go_wp2_with fail
      go_ret
      refine ⟨hB, u, d, rfl, hu, ?_⟩
      rw [← HV.out]
      exact hd
end Go.Proofs.Ytnkembnachhicaa

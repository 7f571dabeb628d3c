/- nat.Mul: products of limbs. -/
import Derived.Test.YtnkembnachhicaaNat2
set_option linter.unusedVariables false
namespace Go.Proofs.Ytnkembnachhicaa
open Go.RowKit
open L (val dig nth)

/-- What one place of a product comes to: no limb runs over. -/
theorem mul_place (x y o c : Nat) (hx : x < 18446744073709551616) (hy : y < 18446744073709551616) (ho : o < 18446744073709551616) (hc : c < 18446744073709551616) :
    ∃ h l l1 c1 l2 c2, x * y = l + 18446744073709551616 * h ∧ l < 18446744073709551616 ∧ l + o + 0 = l1 + 18446744073709551616 * c1 ∧ l1 < 18446744073709551616 ∧
      l1 + c + 0 = l2 + 18446744073709551616 * c2 ∧ l2 < 18446744073709551616 ∧ h + c1 < 18446744073709551616 ∧ h + c1 + c2 < 18446744073709551616 ∧ x * y + o + c = l2 + 18446744073709551616 * (h + c1 + c2) := by
  have hxy : x * y ≤ 18446744073709551615 * 18446744073709551615 := Nat.mul_le_mul (by omega) (by omega)
  generalize x * y = P at *
  refine ⟨P / 18446744073709551616, P % 18446744073709551616, (P % 18446744073709551616 + o) % 18446744073709551616, (P % 18446744073709551616 + o) / 18446744073709551616,
    ((P % 18446744073709551616 + o) % 18446744073709551616 + c) % 18446744073709551616, ((P % 18446744073709551616 + o) % 18446744073709551616 + c) / 18446744073709551616, ?_⟩
  refine ⟨by omega, by omega, by omega, by omega, by omega, by omega, by omega, by omega, by omega⟩

theorem mul_calls (w : World) (B C : Nat) (va vb : Value) (la lb : List Nat) (ha : Nums w B va la) (hb : Nums w C vb lb) (hla : la.length ≤ 60000) (hlb : lb.length ≤ 60000) :
    Calls Try.prog 106 #[va, vb] w fun e w' => Below w.heap.size w w' ∧ RetU w.heap.size (val W la * val W lb) e w' := by
  go_enter Try.func106, Try.ntmps106
  go_wp2_with fail
  refine (trim_calls _ B _ la ha).mono ?_
  rintro e w1 ⟨rfl, u1, p, rfl, hp, hda⟩
  go_wp2_with fail
  refine (trim_calls _ C _ lb hb).mono ?_
  rintro e w1 ⟨rfl, u2, q, rfl, hq, hdb⟩
  have lp := Nat.le_trans (canon_len_le hda ha.lt) hla
  have lq := Nat.le_trans (canon_len_le hdb hb.lt) hlb
  have HA := hide hda
  have HB := hide hdb
  have hp0 := hp.lt
  have hq0 := hq.lt
  clear hda hdb
  obtain ⟨A1, c1, rfl, -, -, -, hcp⟩ := hp
  obtain ⟨A2, c2, rfl, -, -, -, hcq⟩ := hq
  have hmk := mkU_run ((p.length : Int) + (q.length : Int)) (p.length + q.length) (by omega) (by omega)
  go_wp2_with fail
  clear hmk
  go_loopw [26] (fun i wr => ∃ (k : Nat) (o : List Nat), k ≤ p.length ∧ i = .int .i64 k ∧ Out wr w.heap.size o ∧ Hid (o.length = p.length + q.length) ∧ Hid (∀ x ∈ o, x < W) ∧
      Hid (val W o = val W (p.take k) * val W q) ∧ Hid (∀ j, k + q.length ≤ j → nth o j = 0) ∧ Below w.heap.size w wr) (fun i _ => p.length - (intOf i).toNat)
  case atStart => exact ⟨0, _, Nat.zero_le _, rfl, Out.made w _, hide (by simp), hide (fun x hx => by rw [(List.mem_replicate.1 hx).2]; exact W_pos), hide (by simp [L.val, L.val_replicate]), hide (fun j _ => by simp [L.nth_def, List.getD_eq_getElem?_getD, List.getElem?_replicate]; split <;> rfl), (Below.refl _ _).alloc (Nat.le_refl _) _⟩
  case round =>
    obtain ⟨i, o, hi, rfl, hO, HO, HOlt, HI, HZ, hB⟩ := hrel
    by_cases hlt : i < p.length
    · obtain ⟨b1, o1, rfl, -, hb1, hcell1⟩ := hcp (by omega)
      have h1 : wr.cell? ⟨b1, o1 + i, none⟩ = _ := (hB.cell (p := ⟨b1, o1 + i, none⟩) hb1).trans (hcell1 i hlt)
      have px := nth_lt hp0 i
      obtain ⟨wo, rfl⟩ : ∃ wo : World, wo = wr := ⟨_, rfl⟩
      clear hcell1 hcp
      go_wp2_with fail
      go_loopw [8, 33] (fun c k wr => ∃ (k' cN : Nat) (o' : List Nat), k' ≤ q.length ∧ k = .int .i64 k' ∧ c = .int .u64 cN ∧ cN < 18446744073709551616 ∧ Out wr w.heap.size o' ∧ Hid (o'.length = p.length + q.length) ∧ Hid (∀ x ∈ o', x < W) ∧
        Hid (val W o' + W ^ (i + k') * cN = val W (p.take i) * val W q + W ^ i * (nth p i * val W (q.take k'))) ∧ Hid (∀ j, i + q.length ≤ j → nth o' j = 0) ∧ Below w.heap.size w wr) (fun _ k _ => q.length - (intOf k).toNat)
      case atStart => exact ⟨0, 0, o, Nat.zero_le _, rfl, rfl, by omega, hO, HO, HOlt, hide (by rw [HI.out]; simp [L.val]), HZ, hB⟩
      case round =>
        obtain ⟨k, cN, o', hk, rfl, rfl, hcN, hO', HO', HOlt', HI', HZ', hB'⟩ := hrel
        by_cases hltq : k < q.length
        · have hol : i + k < o'.length := by have := HO'.out; omega
          obtain ⟨b2, o2, rfl, -, hb2, hcell2⟩ := hcq (by omega)
          have h2 : wr.cell? ⟨b2, o2 + k, none⟩ = _ := (hB'.cell (p := ⟨b2, o2 + k, none⟩) hb2).trans (hcell2 k hltq)
          have h3 := hO'.cell hol
          have h4 := hO'.frozen (i + k)
          have qx := nth_lt hq0 k
          have ox := nth_lt HOlt'.out (i + k)
          obtain ⟨h, l, l1, c1', l2, c2', e1, e2, e3, e4, e5, e6, e7, e8, e9⟩ := mul_place (nth p i) (nth q k) (nth o' (i + k)) cN px qx ox hcN
          have HST := hide (L.mul_step W q o' _ (nth p i) i k cN l2 (h + c1' + c2') hol HI'.out e9)
          have hadd1 : ∀ w, (callFunc 115 #[.int .u64 (l : Nat), .int .u64 (nth o' (i + k) : Nat), .int .u64 0]).run Try.prog w = _ := add64_run l (nth o' (i + k)) 0 l1 c1' (by omega) e3 e4
          have hadd2 : ∀ w, (callFunc 115 #[.int .u64 (l1 : Nat), .int .u64 (cN : Nat), .int .u64 0]).run Try.prog w = _ := add64_run l1 cN 0 l2 c2' (by omega) e5 e6
          have E1 := hide e1
          have bi : (i : Int) + (k : Int) < (p.length : Int) + (q.length : Int) := by omega
          clear hcell2 hcq e9 e3 e5 e1 e4
          go_wp2_with fail
          refine (mul64_calls' (nth p i) (nth q k) h l px qx E1.out e2 _).mono ?_
          rintro e w1 ⟨rfl, rfl⟩
          go_wp2_with fail
          go_roundw
          case rel =>
            exact ⟨k + 1, h + c1' + c2', _, by omega, by go_num, by go_num, e8, hO'.set (i + k) l2, hide (by simpa using HO'.out), hide (L.mem_set_lt o' HOlt'.out (i + k) l2 e6), HST,
              hide (fun j hj => by rw [L.getD_set_ne _ _ _ _ (by omega)]; exact HZ'.out j hj), hB'.setCell (Nat.le_refl _) _⟩
          case measure => simp [intOf]; omega
        · have hke : k = q.length := by omega
          subst hke
          have hol : i + q.length < o'.length := by have := HO'.out; omega
          have h3 := hO'.cell hol
          have h4 := hO'.frozen (i + q.length)
          have bi : (i : Int) + (q.length : Int) < (p.length : Int) + (q.length : Int) := by omega
          have HST := hide (L.mul_row W p q o' i cN hol (HZ'.out _ (Nat.le_refl _)) (by have := HI'.out; rwa [List.take_of_length_le (Nat.le_refl _)] at this))
          go_wp2_with fail
          go_roundw
          case rel =>
            exact ⟨i + 1, _, by omega, by go_num, hO'.set (i + q.length) cN, hide (by simpa using HO'.out), hide (L.mem_set_lt o' HOlt'.out _ cN hcN), HST,
              hide (fun j hj => by rw [L.getD_set_ne _ _ _ _ (by omega)]; exact HZ'.out j (by omega)), hB'.setCell (Nat.le_refl _) _⟩
          case measure => simp [intOf]; omega
    · have hke : i = p.length := by omega
      subst hke
      have HV : Hid (val W o = val W la * val W lb) := hide (by rw [HI.out, List.take_of_length_le (Nat.le_refl _), HA.out.val, HB.out.val])
      have hN := hO.nums (Nat.le_refl _) (by have := HO.out; omega) HOlt.out
      rw [HO.out] at hN
      have HN := hide hN
      clear hN hcp hcq
      go_wp2_with fail
      refine (trim_calls _ _ _ _ HN.out).mono ?_
      rintro e w1 ⟨rfl, u, d, rfl, hu, hd⟩
      go_wp2_with fail
      go_ret
      refine ⟨hB, u, d, rfl, hu, ?_⟩
      rw [← HV.out]
      exact hd
end Go.Proofs.Ytnkembnachhicaa

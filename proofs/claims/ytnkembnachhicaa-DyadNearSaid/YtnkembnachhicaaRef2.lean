/- The document's numbers: sums, differences of digits. -/
import Derived.Test.YtnkembnachhicaaRef1
set_option linter.unusedVariables false
namespace Go.Proofs.Ytnkembnachhicaa
open Go.RowKit
open L (val dig nth)

/-- What is handed back reads as digits that stand for N, at most m of them. -/
def RetV (B N m : Nat) (e : Ending) (w : World) : Prop := ∃ u o, e = .returned u ∧ Nums w B u o ∧ (∀ x ∈ o, x < B32) ∧ val B32 o = N ∧ o.length ≤ m

set_option maxHeartbeats 1000000 in
theorem addD_calls (w : World) (B C : Nat) (va vb : Value) (p q : List Nat) (hp : Nums w B va p) (hq : Nums w C vb q) (hp0 : ∀ x ∈ p, x < B32) (hq0 : ∀ x ∈ q, x < B32) (hpl : p.length ≤ 400000) (hql : q.length ≤ 400000) :
    Calls Try.prog 118 #[va, vb] w fun e w' => Below w.heap.size w w' ∧ RetV w.heap.size (val B32 p + val B32 q) (max p.length q.length + 1) e w' := by
  obtain ⟨A1, c1, rfl, -, -, -, hcp⟩ := hp
  obtain ⟨A2, c2, rfl, -, -, -, hcq⟩ := hq
  go_enter Try.func118, Try.ntmps118
  go_wp2_with fail
  go_loopw [5, 6, 7] (fun v cv i wr => ∃ (k c : Nat) (o : List Nat), k ≤ max p.length q.length + 1 ∧ i = .int .i64 k ∧ cv = .int .u64 c ∧ c ≤ 1 ∧ Hid (p.length < k → q.length < k → c = 0) ∧ OwnU wr w.heap.size v o ∧ Hid (o.length = k) ∧ Hid (∀ x ∈ o, x < B32) ∧
      Hid (val B32 o + B32 ^ k * c = val B32 (p.take k) + val B32 (q.take k)) ∧ Below w.heap.size w wr) (fun _ _ i _ => max p.length q.length + 1 - (intOf i).toNat)
  case atStart => exact ⟨0, 0, [], by omega, rfl, rfl, by omega, hide (fun _ _ => rfl), OwnU.nil w _, hide rfl, hide (by simp), hide (by simp [L.val]), Below.refl _ _⟩
  case round =>
    obtain ⟨k, c, o, hk, rfl, rfl, hc1, HE, hO, HO, HOlt, HI, hB⟩ := hrel
    have hbs := hB.size
    have hkm : c = 0 ∨ k ≤ max p.length q.length := by
      by_cases h : k ≤ max p.length q.length
      · exact .inr h
      · exact .inl (HE.out (by omega) (by omega))
    have px := nthD_lt hp0 k
    have qx := nthD_lt hq0 k
    have hol : o.length ≤ 500000 := by have := HO.out; omega
    by_cases hkp : k < p.length
    · by_cases hkq : k < q.length
      · skip
        obtain ⟨b1, o1, rfl, -, hb1, hcell1⟩ := hcp (by omega)
        have h1 : wr.cell? ⟨b1, o1 + k, none⟩ = _ := (hB.cell (p := ⟨b1, o1 + k, none⟩) hb1).trans (hcell1 k hkp)
        have bp : (k : Int) < (p.length : Int) := by omega
        clear hcell1 hcp
        obtain ⟨b2, o2, rfl, -, hb2, hcell2⟩ := hcq (by omega)
        have h2 : wr.cell? ⟨b2, o2 + k, none⟩ = _ := (hB.cell (p := ⟨b2, o2 + k, none⟩) hb2).trans (hcell2 k hkq)
        have bq : (k : Int) < (q.length : Int) := by omega
        clear hcell2 hcq
        have ez : ((c : Int) + ((nth p k : Nat) : Int) + ((nth q k : Nat) : Int)) % 4294967296 = (((c + nth p k + nth q k) % B32 : Nat) : Int) := by unfold B32; omega
        have ey : ((c : Int) + ((nth p k : Nat) : Int) + ((nth q k : Nat) : Int)) / 4294967296 = (((c + nth p k + nth q k) / B32 : Nat) : Int) := by unfold B32; omega
        have EZ := hide ez
        have EY := hide ey
        have ezl : (c + nth p k + nth q k) % B32 < B32 := Nat.mod_lt _ B32_pos
        have eyl : (c + nth p k + nth q k) / B32 ≤ 1 := by unfold B32; omega
        have EF : Hid (p.length ≤ k → q.length ≤ k → (c + nth p k + nth q k) / B32 = 0) := hide (fun h1 h2 => by rw [L.getD_ge p k h1, L.getD_ge q k h2]; unfold B32; omega)
        clear ez ey
        go_wp2_with (at_builtin; refine wpList_appendU _ rfl _ _ rfl w.heap.size _ o rfl (hO.alloc _) 0 _ [(c + nth p k + nth q k) % B32] rfl (Nums.one wr _ _ EZ.out (Nat.lt_of_lt_of_le ezl B32_lt)) (by simp; omega) (by simp; omega) ?_; intro v1 w1 hown1 hgrow1)
        go_roundw
        case rel =>
          refine ⟨k + 1, (c + nth p k + nth q k) / B32, _, by omega, by go_num, by rw [EY.out], eyl, hide ?_, hown1, hide (by simp; exact HO.out), hide ?_, hide (L.addD_step B32 p q o k c _ HO.out HI.out rfl), (hB.alloc hbs _).grown hgrow1 (by simp; omega) hO.own_ge⟩
          · intro h1 h2; exact EF.out (by omega) (by omega)
          · intro x hx
            rcases List.mem_append.1 hx with hx | hx
            · exact HOlt.out x hx
            · rw [List.mem_singleton.1 hx]; exact ezl
        case measure => simp [intOf]; omega
      · skip
        obtain ⟨b1, o1, rfl, -, hb1, hcell1⟩ := hcp (by omega)
        have h1 : wr.cell? ⟨b1, o1 + k, none⟩ = _ := (hB.cell (p := ⟨b1, o1 + k, none⟩) hb1).trans (hcell1 k hkp)
        have bp : (k : Int) < (p.length : Int) := by omega
        clear hcell1 hcp
        have bq : ¬ ((k : Int) < (q.length : Int)) := by omega
        have hzq : nth q k = 0 := L.getD_ge q k (by omega)
        have HZQ := hide hzq
        clear hzq
        have ez : ((c : Int) + ((nth p k : Nat) : Int)) % 4294967296 = (((c + nth p k + nth q k) % B32 : Nat) : Int) := by rw [HZQ.out]; unfold B32; omega
        have ey : ((c : Int) + ((nth p k : Nat) : Int)) / 4294967296 = (((c + nth p k + nth q k) / B32 : Nat) : Int) := by rw [HZQ.out]; unfold B32; omega
        have EZ := hide ez
        have EY := hide ey
        have ezl : (c + nth p k + nth q k) % B32 < B32 := Nat.mod_lt _ B32_pos
        have eyl : (c + nth p k + nth q k) / B32 ≤ 1 := by unfold B32; omega
        have EF : Hid (p.length ≤ k → q.length ≤ k → (c + nth p k + nth q k) / B32 = 0) := hide (fun h1 h2 => by rw [L.getD_ge p k h1, L.getD_ge q k h2]; unfold B32; omega)
        clear ez ey
        go_wp2_with (at_builtin; refine wpList_appendU _ rfl _ _ rfl w.heap.size _ o rfl (hO.alloc _) 0 _ [(c + nth p k + nth q k) % B32] rfl (Nums.one wr _ _ EZ.out (Nat.lt_of_lt_of_le ezl B32_lt)) (by simp; omega) (by simp; omega) ?_; intro v1 w1 hown1 hgrow1)
        go_roundw
        case rel =>
          refine ⟨k + 1, (c + nth p k + nth q k) / B32, _, by omega, by go_num, by rw [EY.out], eyl, hide ?_, hown1, hide (by simp; exact HO.out), hide ?_, hide (L.addD_step B32 p q o k c _ HO.out HI.out rfl), (hB.alloc hbs _).grown hgrow1 (by simp; omega) hO.own_ge⟩
          · intro h1 h2; exact EF.out (by omega) (by omega)
          · intro x hx
            rcases List.mem_append.1 hx with hx | hx
            · exact HOlt.out x hx
            · rw [List.mem_singleton.1 hx]; exact ezl
        case measure => simp [intOf]; omega
    · by_cases hkq : k < q.length
      · skip
        have bp : ¬ ((k : Int) < (p.length : Int)) := by omega
        have hzp : nth p k = 0 := L.getD_ge p k (by omega)
        have HZP := hide hzp
        clear hzp
        obtain ⟨b2, o2, rfl, -, hb2, hcell2⟩ := hcq (by omega)
        have h2 : wr.cell? ⟨b2, o2 + k, none⟩ = _ := (hB.cell (p := ⟨b2, o2 + k, none⟩) hb2).trans (hcell2 k hkq)
        have bq : (k : Int) < (q.length : Int) := by omega
        clear hcell2 hcq
        have ez : ((c : Int) + ((nth q k : Nat) : Int)) % 4294967296 = (((c + nth p k + nth q k) % B32 : Nat) : Int) := by rw [HZP.out]; unfold B32; omega
        have ey : ((c : Int) + ((nth q k : Nat) : Int)) / 4294967296 = (((c + nth p k + nth q k) / B32 : Nat) : Int) := by rw [HZP.out]; unfold B32; omega
        have EZ := hide ez
        have EY := hide ey
        have ezl : (c + nth p k + nth q k) % B32 < B32 := Nat.mod_lt _ B32_pos
        have eyl : (c + nth p k + nth q k) / B32 ≤ 1 := by unfold B32; omega
        have EF : Hid (p.length ≤ k → q.length ≤ k → (c + nth p k + nth q k) / B32 = 0) := hide (fun h1 h2 => by rw [L.getD_ge p k h1, L.getD_ge q k h2]; unfold B32; omega)
        clear ez ey
        go_wp2_with (at_builtin; refine wpList_appendU _ rfl _ _ rfl w.heap.size _ o rfl (hO.alloc _) 0 _ [(c + nth p k + nth q k) % B32] rfl (Nums.one wr _ _ EZ.out (Nat.lt_of_lt_of_le ezl B32_lt)) (by simp; omega) (by simp; omega) ?_; intro v1 w1 hown1 hgrow1)
        go_roundw
        case rel =>
          refine ⟨k + 1, (c + nth p k + nth q k) / B32, _, by omega, by go_num, by rw [EY.out], eyl, hide ?_, hown1, hide (by simp; exact HO.out), hide ?_, hide (L.addD_step B32 p q o k c _ HO.out HI.out rfl), (hB.alloc hbs _).grown hgrow1 (by simp; omega) hO.own_ge⟩
          · intro h1 h2; exact EF.out (by omega) (by omega)
          · intro x hx
            rcases List.mem_append.1 hx with hx | hx
            · exact HOlt.out x hx
            · rw [List.mem_singleton.1 hx]; exact ezl
        case measure => simp [intOf]; omega
      · by_cases hc0 : c = 0
        · subst hc0
          have bp : ¬ ((k : Int) < (p.length : Int)) := by omega
          have bq : ¬ ((k : Int) < (q.length : Int)) := by omega
          have HV : Hid (val B32 o = val B32 p + val B32 q) := hide (by
            have := HI.out
            rwa [List.take_of_length_le (by omega), List.take_of_length_le (by omega), Nat.mul_zero, Nat.add_zero] at this)
          go_wp2_with fail
          go_ret
          exact ⟨hB, _, o, rfl, hO.nums (fun x hx => Nat.lt_of_lt_of_le (HOlt.out x hx) B32_lt), HOlt.out, HV.out, by have := HO.out; omega⟩
        · skip
          have bp : ¬ ((k : Int) < (p.length : Int)) := by omega
          have hzp : nth p k = 0 := L.getD_ge p k (by omega)
          have HZP := hide hzp
          clear hzp
          have bq : ¬ ((k : Int) < (q.length : Int)) := by omega
          have hzq : nth q k = 0 := L.getD_ge q k (by omega)
          have HZQ := hide hzq
          clear hzq
          have hc1' : (0 : Int) < (c : Int) := by omega
          have ez : ((c : Int)) % 4294967296 = (((c + nth p k + nth q k) % B32 : Nat) : Int) := by rw [HZP.out, HZQ.out]; unfold B32; omega
          have ey : ((c : Int)) / 4294967296 = (((c + nth p k + nth q k) / B32 : Nat) : Int) := by rw [HZP.out, HZQ.out]; unfold B32; omega
          have EZ := hide ez
          have EY := hide ey
          have ezl : (c + nth p k + nth q k) % B32 < B32 := Nat.mod_lt _ B32_pos
          have eyl : (c + nth p k + nth q k) / B32 ≤ 1 := by unfold B32; omega
          have EF : Hid (p.length ≤ k → q.length ≤ k → (c + nth p k + nth q k) / B32 = 0) := hide (fun h1 h2 => by rw [L.getD_ge p k h1, L.getD_ge q k h2]; unfold B32; omega)
          clear ez ey
          go_wp2_with (at_builtin; refine wpList_appendU _ rfl _ _ rfl w.heap.size _ o rfl (hO.alloc _) 0 _ [(c + nth p k + nth q k) % B32] rfl (Nums.one wr _ _ EZ.out (Nat.lt_of_lt_of_le ezl B32_lt)) (by simp; omega) (by simp; omega) ?_; intro v1 w1 hown1 hgrow1)
          go_roundw
          case rel =>
            refine ⟨k + 1, (c + nth p k + nth q k) / B32, _, by omega, by go_num, by rw [EY.out], eyl, hide ?_, hown1, hide (by simp; exact HO.out), hide ?_, hide (L.addD_step B32 p q o k c _ HO.out HI.out rfl), (hB.alloc hbs _).grown hgrow1 (by simp; omega) hO.own_ge⟩
            · intro h1 h2; exact EF.out (by omega) (by omega)
            · intro x hx
              rcases List.mem_append.1 hx with hx | hx
              · exact HOlt.out x hx
              · rw [List.mem_singleton.1 hx]; exact ezl
          case measure => simp [intOf]; omega
end Go.Proofs.Ytnkembnachhicaa

/- The document's numbers: differences of digits, comparing, a digit's multiple. -/
import Derived.Test.YtnkembnachhicaaRef2
set_option linter.unusedVariables false
namespace Go.Proofs.Ytnkembnachhicaa
open Go.RowKit
open L (val dig nth)

theorem subD_calls (w : World) (B C : Nat) (va vb : Value) (p q : List Nat) (hp : Nums w B va p) (hq : Nums w C vb q) (hp0 : ∀ x ∈ p, x < B32) (hq0 : ∀ x ∈ q, x < B32) (hpl : p.length ≤ 400000) (hqp : q.length ≤ p.length) (hle : val B32 q ≤ val B32 p) :
    Calls Try.prog 120 #[va, vb] w fun e w' => Below w.heap.size w w' ∧ RetG w.heap.size (val B32 p - val B32 q) e w' := by
  have HLE := hide hle
  clear hle
  obtain ⟨A1, c1, rfl, -, -, -, hcp⟩ := hp
  obtain ⟨A2, c2, rfl, -, -, -, hcq⟩ := hq
  go_enter Try.func120, Try.ntmps120
  go_wp2_with fail
  go_loopw [5, 6, 7] (fun v cv i wr => ∃ (k c : Nat) (o : List Nat), k ≤ p.length ∧ i = .int .i64 k ∧ cv = .int .u64 c ∧ c ≤ 1 ∧ OwnU wr w.heap.size v o ∧ Hid (o.length = k) ∧ Hid (∀ x ∈ o, x < B32) ∧
      Hid (val B32 o + val B32 (q.take k) = val B32 (p.take k) + B32 ^ k * c) ∧ Below w.heap.size w wr) (fun _ _ i _ => p.length - (intOf i).toNat)
  case atStart => exact ⟨0, 0, [], by omega, rfl, rfl, by omega, OwnU.nil w _, hide rfl, hide (by simp), hide (by simp [L.val]), Below.refl _ _⟩
  case round =>
    obtain ⟨k, c, o, hk, rfl, rfl, hc1, hO, HO, HOlt, HI, hB⟩ := hrel
    have hbs := hB.size
    by_cases hlt : k < p.length
    · have px := nthD_lt hp0 k
      have qx := nthD_lt hq0 k
      have hol : o.length ≤ 500000 := by have := HO.out; omega
      obtain ⟨b1, o1, rfl, -, hb1, hcell1⟩ := hcp (by omega)
      have h1 : wr.cell? ⟨b1, o1 + k, none⟩ = _ := (hB.cell (p := ⟨b1, o1 + k, none⟩) hb1).trans (hcell1 k hlt)
      have bp : (k : Int) < (p.length : Int) := by omega
      clear hcell1 hcp
      by_cases hkq : k < q.length
      · obtain ⟨b2, o2, rfl, -, hb2, hcell2⟩ := hcq (by omega)
        have h2 : wr.cell? ⟨b2, o2 + k, none⟩ = _ := (hB.cell (p := ⟨b2, o2 + k, none⟩) hb2).trans (hcell2 k hkq)
        have bq : (k : Int) < (q.length : Int) := by omega
        clear hcell2 hcq
        by_cases hbo : nth p k < nth q k + c
        · skip
          have hbo' : (((nth p k : Nat) : Int) < (c : Int) + ((nth q k : Nat) : Int)) := by omega
          have ez : ((nth p k : Nat) : Int) + 4294967296 - ((c : Int) + ((nth q k : Nat) : Int)) = (((nth p k + B32 - (nth q k + c)) : Nat) : Int) := by (try unfold B32); omega
          have EZ := hide ez
          have ezl : (nth p k + B32 - (nth q k + c)) < B32 := by unfold B32; omega
          have EST := hide (L.subD_step B32 p q o k c (nth p k + B32 - (nth q k + c)) 1 HO.out HI.out (by unfold B32; omega))
          clear ez hbo
          go_wp2_with (at_builtin; refine wpList_appendU _ rfl _ _ rfl w.heap.size _ o rfl (hO.alloc _) 0 _ [(nth p k + B32 - (nth q k + c))] rfl (Nums.one wr _ _ EZ.out (Nat.lt_of_lt_of_le ezl B32_lt)) (by simp; omega) (by simp; omega) ?_; intro v1 w1 hown1 hgrow1)
          go_roundw
          case rel =>
            refine ⟨k + 1, 1, _, by omega, by go_num, rfl, by omega, hown1, hide (by simp; exact HO.out), hide ?_, EST, (hB.alloc hbs _).grown hgrow1 (by simp; omega) hO.own_ge⟩
            intro x hx
            rcases List.mem_append.1 hx with hx | hx
            · exact HOlt.out x hx
            · rw [List.mem_singleton.1 hx]; exact ezl
          case measure => simp [intOf]; omega
        · skip
          have hbo' : ¬ (((nth p k : Nat) : Int) < (c : Int) + ((nth q k : Nat) : Int)) := by omega
          have ez : ((nth p k : Nat) : Int) - ((c : Int) + ((nth q k : Nat) : Int)) = (((nth p k - (nth q k + c)) : Nat) : Int) := by (try unfold B32); omega
          have EZ := hide ez
          have ezl : (nth p k - (nth q k + c)) < B32 := by unfold B32; omega
          have EST := hide (L.subD_step B32 p q o k c (nth p k - (nth q k + c)) 0 HO.out HI.out (by unfold B32; omega))
          clear ez hbo
          go_wp2_with (at_builtin; refine wpList_appendU _ rfl _ _ rfl w.heap.size _ o rfl (hO.alloc _) 0 _ [(nth p k - (nth q k + c))] rfl (Nums.one wr _ _ EZ.out (Nat.lt_of_lt_of_le ezl B32_lt)) (by simp; omega) (by simp; omega) ?_; intro v1 w1 hown1 hgrow1)
          go_roundw
          case rel =>
            refine ⟨k + 1, 0, _, by omega, by go_num, rfl, by omega, hown1, hide (by simp; exact HO.out), hide ?_, EST, (hB.alloc hbs _).grown hgrow1 (by simp; omega) hO.own_ge⟩
            intro x hx
            rcases List.mem_append.1 hx with hx | hx
            · exact HOlt.out x hx
            · rw [List.mem_singleton.1 hx]; exact ezl
          case measure => simp [intOf]; omega
      · have bq : ¬ ((k : Int) < (q.length : Int)) := by omega
        have hzq : nth q k = 0 := L.getD_ge q k (by omega)
        have HZQ := hide hzq
        clear hzq
        by_cases hbo : nth p k < nth q k + c
        · skip
          have hbo' : (((nth p k : Nat) : Int) < (c : Int)) := by rw [HZQ.out] at hbo; omega
          have ez : ((nth p k : Nat) : Int) + 4294967296 - (c : Int) = (((nth p k + B32 - (nth q k + c)) : Nat) : Int) := by rw [HZQ.out]; (try unfold B32); rw [HZQ.out] at hbo; omega
          have EZ := hide ez
          have ezl : (nth p k + B32 - (nth q k + c)) < B32 := by unfold B32; omega
          have EST := hide (L.subD_step B32 p q o k c (nth p k + B32 - (nth q k + c)) 1 HO.out HI.out (by unfold B32; omega))
          clear ez hbo
          go_wp2_with (at_builtin; refine wpList_appendU _ rfl _ _ rfl w.heap.size _ o rfl (hO.alloc _) 0 _ [(nth p k + B32 - (nth q k + c))] rfl (Nums.one wr _ _ EZ.out (Nat.lt_of_lt_of_le ezl B32_lt)) (by simp; omega) (by simp; omega) ?_; intro v1 w1 hown1 hgrow1)
          go_roundw
          case rel =>
            refine ⟨k + 1, 1, _, by omega, by go_num, rfl, by omega, hown1, hide (by simp; exact HO.out), hide ?_, EST, (hB.alloc hbs _).grown hgrow1 (by simp; omega) hO.own_ge⟩
            intro x hx
            rcases List.mem_append.1 hx with hx | hx
            · exact HOlt.out x hx
            · rw [List.mem_singleton.1 hx]; exact ezl
          case measure => simp [intOf]; omega
        · skip
          have hbo' : ¬ (((nth p k : Nat) : Int) < (c : Int)) := by rw [HZQ.out] at hbo; omega
          have ez : ((nth p k : Nat) : Int) - (c : Int) = (((nth p k - (nth q k + c)) : Nat) : Int) := by rw [HZQ.out]; (try unfold B32); rw [HZQ.out] at hbo; omega
          have EZ := hide ez
          have ezl : (nth p k - (nth q k + c)) < B32 := by unfold B32; omega
          have EST := hide (L.subD_step B32 p q o k c (nth p k - (nth q k + c)) 0 HO.out HI.out (by unfold B32; omega))
          clear ez hbo
          go_wp2_with (at_builtin; refine wpList_appendU _ rfl _ _ rfl w.heap.size _ o rfl (hO.alloc _) 0 _ [(nth p k - (nth q k + c))] rfl (Nums.one wr _ _ EZ.out (Nat.lt_of_lt_of_le ezl B32_lt)) (by simp; omega) (by simp; omega) ?_; intro v1 w1 hown1 hgrow1)
          go_roundw
          case rel =>
            refine ⟨k + 1, 0, _, by omega, by go_num, rfl, by omega, hown1, hide (by simp; exact HO.out), hide ?_, EST, (hB.alloc hbs _).grown hgrow1 (by simp; omega) hO.own_ge⟩
            intro x hx
            rcases List.mem_append.1 hx with hx | hx
            · exact HOlt.out x hx
            · rw [List.mem_singleton.1 hx]; exact ezl
          case measure => simp [intOf]; omega
    · have hke : k = p.length := by omega
      subst hke
      have bp : ¬ ((p.length : Int) < (p.length : Int)) := by omega
      obtain ⟨A3, c3, rfl⟩ := hO.form
      have HV : Hid (val B32 o = val B32 p - val B32 q) := hide (by
        have h1 := HI.out
        have h2 := HLE.out
        rw [List.take_of_length_le (Nat.le_refl _), List.take_of_length_le hqp] at h1
        have h3 := L.val_lt o HOlt.out
        rw [HO.out] at h3
        have h4 : c = 0 := by
          rcases Nat.eq_zero_or_pos c with h | h
          · exact h
          · have : c = 1 := by omega
            subst this
            rw [Nat.mul_one] at h1
            omega
        subst h4
        omega)
      have HN := hide (hO.nums (fun x hx => Nat.lt_of_lt_of_le (HOlt.out x hx) B32_lt))
      go_wp2_with fail
      refine (trimD_calls _ _ _ _ HN.out HOlt.out).mono ?_
      rintro e w1 ⟨rfl, u, d, rfl, hu, hd⟩
      go_wp2_with fail
      go_ret
      refine ⟨hB, u, d, rfl, hu, ?_⟩
      rw [← HV.out]
      exact hd

theorem cmpD_calls (w : World) (B C : Nat) (va vb : Value) (p q : List Nat) (M N : Nat) (hp : Nums w B va p) (hq : Nums w C vb q) (hM : CanonD p M) (hN : CanonD q N) :
    Calls Try.prog 119 #[va, vb] w fun e w' => Dr w w' ∧ e = .returned (.int .i64 (cmpN M N)) := by
  obtain ⟨A1, c1, rfl, hl1, hm1, hlt1, hc1⟩ := hp
  obtain ⟨A2, c2, rfl, hl2, hm2, hlt2, hc2⟩ := hq
  have HM := hide hM
  have HN := hide hN
  clear hM hN
  go_enter Try.func119, Try.ntmps119
  by_cases hne : p.length < q.length
  · have hv : M < N := by
      rw [show p = dig B32 M from HM.out, show q = dig B32 N from HN.out] at hne
      exact L.lt_of_dig_len B32_gt hne
    have d1 : ((p.length : Int) != (q.length : Int)) = true := by rw [bne_iff_ne]; omega
    have d2 : (p.length : Int) < (q.length : Int) := by omega
    go_wp2_with fail
    go_ret
    exact ⟨Dr.refl w, ret_int (cmpN_lt hv).symm⟩
  · by_cases hne2 : q.length < p.length
    · have hv : N < M := by
        rw [show p = dig B32 M from HM.out, show q = dig B32 N from HN.out] at hne2
        exact L.lt_of_dig_len B32_gt hne2
      have d1 : ((p.length : Int) != (q.length : Int)) = true := by rw [bne_iff_ne]; omega
      have d2 : ¬ ((p.length : Int) < (q.length : Int)) := by omega
      go_wp2_with fail
      go_ret
      exact ⟨Dr.refl w, ret_int (cmpN_gt hv).symm⟩
    · have HL : Hid (p.length = q.length) := hide (by omega)
      have d1 : ((p.length : Int) != (q.length : Int)) = false := by simp; omega
      clear hne hne2
      go_wp2_with fail
      go_loopw [5] (fun s wr => ∃ i : Int, -1 ≤ i ∧ i < p.length ∧ s = .int .i64 i ∧ Hid (p.drop (i + 1).toNat = q.drop (i + 1).toNat) ∧ Dr w wr) (fun s _ => (intOf s + 1).toNat)
      case atStart => exact ⟨(p.length : Int) - 1, by omega, by omega, rfl, hide (by have := HL.out; rw [List.drop_of_length_le (by omega), List.drop_of_length_le (by omega)]), Dr.refl w⟩
      case round =>
        obtain ⟨i, hi1, hi2, rfl, hd, hdr0⟩ := hrel
        by_cases hneg : i = -1
        · subst hneg
          have E1 : Hid (M = N) := hide (by
            have e : p = q := by simpa using hd.out
            rw [← HM.out.val, ← HN.out.val, e])
          go_wp2_with fail
          go_ret
          exact ⟨hdr0, ret_int (cmpN_eq E1.out).symm⟩
        · obtain ⟨m, rfl⟩ := Int.eq_ofNat_of_zero_le (show 0 ≤ i by omega)
          obtain ⟨b1, o1, rfl, _, hb1, hcell1⟩ := hc1 (by omega)
          obtain ⟨b2, o2, rfl, _, hb2, hcell2⟩ := hc2 (by have := HL.out; omega)
          have h1 : wr.cell? ⟨b1, o1 + m, none⟩ = _ := ((hdr0.below w.heap.size).cell (p := ⟨b1, o1 + m, none⟩) hb1).trans (hcell1 m (by omega))
          have h2 : wr.cell? ⟨b2, o2 + m, none⟩ = _ := ((hdr0.below w.heap.size).cell (p := ⟨b2, o2 + m, none⟩) hb2).trans (hcell2 m (by have := HL.out; omega))
          clear hcell1 hcell2 hc1 hc2
          have b0 : (0 : Int) ≤ (m : Int) := by omega
          have b1' : (m : Int) < (p.length : Int) := by omega
          have b2' : (m : Int) < (q.length : Int) := by have := HL.out; omega
          go_wp2_with fail
          go_quiet (fail)
          go_wp2_with fail
          · have hlt : nth p m < nth q m := by assumption
            have hv := L.val_lt_of_top p q HM.out.lt HL.out m (by omega) (by simpa using hd.out) hlt
            rw [HM.out.val, HN.out.val] at hv
            go_ret
            exact ⟨hdr0.next _, ret_int (cmpN_lt hv).symm⟩
          · have hge : ¬ nth p m < nth q m := by assumption
            go_quiet (fail)
            go_wp2_with fail
            · have hlt : nth q m < nth p m := by assumption
              have hv := L.val_lt_of_top q p HN.out.lt HL.out.symm m (by omega) (by simpa using hd.out.symm) hlt
              rw [HM.out.val, HN.out.val] at hv
              go_ret
              exact ⟨by repeat (first | exact hdr0 | refine Dr.next ?_ _), ret_int (cmpN_gt hv).symm⟩
            · have hge2 : ¬ nth q m < nth p m := by assumption
              have he : nth p m = nth q m := by omega
              have hdr : p.drop m = q.drop m := by
                have e1 : p.drop m = nth p m :: p.drop (m + 1) := by
                  rw [List.drop_eq_getElem_cons (by omega), L.nth_def, List.getD_eq_getElem?_getD, List.getElem?_eq_getElem (by omega)]; rfl
                have e2 : q.drop m = nth q m :: q.drop (m + 1) := by
                  rw [List.drop_eq_getElem_cons (by omega), L.nth_def, List.getD_eq_getElem?_getD, List.getElem?_eq_getElem (by omega)]; rfl
                rw [e1, e2, he, show p.drop (m + 1) = q.drop (m + 1) from by simpa using hd.out]
              go_roundw
              case rel => exact ⟨(m : Int) - 1, by omega, by omega, rfl, hide (by simpa using hdr), by repeat (first | exact hdr0 | refine Dr.next ?_ _)⟩
              case measure => simp [intOf]

theorem timesD_calls (w : World) (B : Nat) (va : Value) (p : List Nat) (y : Nat) (hp : Nums w B va p) (hp0 : ∀ x ∈ p, x < B32) (hpl : p.length ≤ 400000) (hy : y < 4294967296) :
    Calls Try.prog 127 #[va, .int .u64 y] w fun e w' => Below w.heap.size w w' ∧ RetG w.heap.size (val B32 p * y) e w' := by
  obtain ⟨A1, c1, rfl, -, -, -, hcp⟩ := hp
  go_enter Try.func127, Try.ntmps127
  go_wp2_with fail
  go_loopw [5, 6, 7] (fun v cv i wr => ∃ (k c : Nat) (o : List Nat), k ≤ p.length + 1 ∧ i = .int .i64 k ∧ cv = .int .u64 c ∧ c < 4294967296 ∧ Hid (p.length < k → c = 0) ∧ OwnU wr w.heap.size v o ∧ Hid (o.length = k) ∧ Hid (∀ x ∈ o, x < B32) ∧
      Hid (val B32 o + B32 ^ k * c = val B32 (p.take k) * y) ∧ Below w.heap.size w wr) (fun _ _ i _ => p.length + 1 - (intOf i).toNat)
  case atStart => exact ⟨0, 0, [], by omega, rfl, rfl, by omega, hide (fun _ => rfl), OwnU.nil w _, hide rfl, hide (by simp), hide (by simp [L.val]), Below.refl _ _⟩
  case round =>
    obtain ⟨k, c, o, hk, rfl, rfl, hc1, HE, hO, HO, HOlt, HI, hB⟩ := hrel
    have hbs := hB.size
    have px := nthD_lt hp0 k
    have hol : o.length ≤ 500000 := by have := HO.out; omega
    have hmul : nth p k * y ≤ 4294967295 * 4294967295 := Nat.mul_le_mul (by omega) (by omega)
    obtain ⟨P, HP⟩ : ∃ P, Hid (nth p k * y = P) := ⟨_, hide rfl⟩
    rw [HP.out] at hmul
    by_cases hkp : k < p.length
    · obtain ⟨b1, o1, rfl, -, hb1, hcell1⟩ := hcp (by omega)
      have h1 : wr.cell? ⟨b1, o1 + k, none⟩ = _ := (hB.cell (p := ⟨b1, o1 + k, none⟩) hb1).trans (hcell1 k hkp)
      have bp : (k : Int) < (p.length : Int) := by omega
      clear hcell1 hcp
      have hcP : c + P < 18446744073709551616 := by omega
      have hw1 : IntKind.u64.wrap (((nth p k : Nat) : Int) * (y : Int)) = (P : Int) := by rw [← Int.natCast_mul, HP.out]; exact IntWalk.u64_in _ (by omega)
      have ez : ((c : Int) + (P : Int)) % 4294967296 = (((c + P) % B32 : Nat) : Int) := by unfold B32; omega
      have ey : ((c : Int) + (P : Int)) / 4294967296 = (((c + P) / B32 : Nat) : Int) := by unfold B32; omega
      have EZ := hide ez
      have EY := hide ey
      have ezl : (c + P) % B32 < B32 := Nat.mod_lt _ B32_pos
      have eyl : (c + P) / B32 < 4294967296 := by unfold B32; omega
      have EF : Hid (p.length ≤ k → (c + P) / B32 = 0) := hide (fun h1 => by rw [← HP.out, L.getD_ge p k h1, Nat.zero_mul, Nat.add_zero, Nat.div_eq_of_lt]; exact hc1)
      have EM := hide hmul
      clear ez ey hmul
      go_wp2_with (at_builtin; refine wpList_appendU _ rfl _ _ rfl w.heap.size _ o rfl (hO.alloc _) 0 _ [(c + P) % B32] rfl (Nums.one wr _ _ EZ.out (Nat.lt_of_lt_of_le ezl B32_lt)) (by simp; omega) (by simp; omega) ?_; intro v1 w1 hown1 hgrow1)
      go_roundw
      case rel =>
        refine ⟨k + 1, (c + P) / B32, _, by omega, by go_num, by rw [EY.out], eyl, hide ?_, hown1, hide (by simp; exact HO.out), hide ?_, hide (L.timesD_step B32 p o k c _ y HO.out HI.out (by rw [HP.out])), (hB.alloc hbs _).grown hgrow1 (by simp; omega) hO.own_ge⟩
        · intro h1; exact EF.out (by omega)
        · intro x hx
          rcases List.mem_append.1 hx with hx | hx
          · exact HOlt.out x hx
          · rw [List.mem_singleton.1 hx]; exact ezl
      case measure => simp [intOf]; omega
    · have bp : ¬ ((k : Int) < (p.length : Int)) := by omega
      by_cases hc0 : c = 0
      · subst hc0
        obtain ⟨A3, c3, rfl⟩ := hO.form
        have HV : Hid (val B32 o = val B32 p * y) := hide (by
          have := HI.out
          rwa [List.take_of_length_le (by omega), Nat.mul_zero, Nat.add_zero] at this)
        have HN := hide (hO.nums (fun x hx => Nat.lt_of_lt_of_le (HOlt.out x hx) B32_lt))
        clear hmul
        go_wp2_with fail
        refine (trimD_calls _ _ _ _ HN.out HOlt.out).mono ?_
        rintro e w1 ⟨rfl, u, d, rfl, hu, hd⟩
        go_wp2_with fail
        go_ret
        refine ⟨hB, u, d, rfl, hu, ?_⟩
        rw [← HV.out]
        exact hd
      · have hc2 : (0 : Int) < (c : Int) := by omega
        have hzp : nth p k = 0 := L.getD_ge p k (by omega)
        have HZP := hide hzp
        have hkm : k ≤ p.length := by
          rcases Nat.lt_or_ge p.length k with h | h
          · exact absurd (HE.out h) hc0
          · exact h
        clear hzp
        have hP0 : P = 0 := by rw [← HP.out, HZP.out, Nat.zero_mul]
        have ez : ((c : Int)) % 4294967296 = (((c + P) % B32 : Nat) : Int) := by unfold B32; omega
        have ey : ((c : Int)) / 4294967296 = (((c + P) / B32 : Nat) : Int) := by unfold B32; omega
        have EZ := hide ez
        have EY := hide ey
        have ezl : (c + P) % B32 < B32 := Nat.mod_lt _ B32_pos
        have eyl : (c + P) / B32 < 4294967296 := by unfold B32; omega
        have EF : Hid (p.length ≤ k → (c + P) / B32 = 0) := hide (fun h1 => by rw [← HP.out, L.getD_ge p k h1, Nat.zero_mul, Nat.add_zero, Nat.div_eq_of_lt]; exact hc1)
        have EM := hide hmul
        clear ez ey hmul
        go_wp2_with (at_builtin; refine wpList_appendU _ rfl _ _ rfl w.heap.size _ o rfl (hO.alloc _) 0 _ [(c + P) % B32] rfl (Nums.one wr _ _ EZ.out (Nat.lt_of_lt_of_le ezl B32_lt)) (by simp; omega) (by simp; omega) ?_; intro v1 w1 hown1 hgrow1)
        go_roundw
        case rel =>
          refine ⟨k + 1, (c + P) / B32, _, by omega, by go_num, by rw [EY.out], eyl, hide ?_, hown1, hide (by simp; exact HO.out), hide ?_, hide (L.timesD_step B32 p o k c _ y HO.out HI.out (by rw [HP.out])), (hB.alloc hbs _).grown hgrow1 (by simp; omega) hO.own_ge⟩
          · intro h1; exact EF.out (by omega)
          · intro x hx
            rcases List.mem_append.1 hx with hx | hx
            · exact HOlt.out x hx
            · rw [List.mem_singleton.1 hx]; exact ezl
        case measure => simp [intOf]; omega
end Go.Proofs.Ytnkembnachhicaa

/- The document's numbers: Add, Sub, Mul, Shl, Shr, BitLen, Same. -/
import Derived.Test.YtnkembnachhicaaRef4
import Derived.Test.YtnkembnachhicaaNat4
set_option linter.unusedVariables false
namespace Go.Proofs.Ytnkembnachhicaa
open Go.RowKit
open L (val dig nth)

theorem digits_len {d l : List Nat} (hd : CanonD d (val W l)) (hl : ∀ x ∈ l, x < W) : d.length ≤ 2 * l.length := by
  rw [hd.len]
  have h1 := L.val_lt l hl
  rwa [← B32_pow] at h1

theorem addR_calls (w : World) (B C : Nat) (va vb : Value) (la lb : List Nat) (ha : Nums w B va la) (hb : Nums w C vb lb) (hla : la.length ≤ 100000) (hlb : lb.length ≤ 100000) :
    Calls Try.prog 103 #[va, vb] w fun e w' => Below w.heap.size w w' ∧ RetU w.heap.size (val W la + val W lb) e w' := by
  go_enter Try.func103, Try.ntmps103
  go_wp2_with fail
  refine (digits_calls _ B _ la ha hla).mono ?_
  rintro e w1 ⟨hB1, u1, d1, rfl, hu1, hd1⟩
  go_wp2_with fail
  refine (digits_calls _ C _ lb (hb.below hB1) hlb).mono ?_
  rintro e w2 ⟨hB2, u2, d2, rfl, hu2, hd2⟩
  have l1 := digits_len hd1 ha.lt
  have l2 := digits_len hd2 hb.lt
  go_wp2_with fail
  refine (addD_calls _ _ _ _ _ d1 d2 (hu1.below hB2) hu2 hd1.lt hd2.lt (by omega) (by omega)).mono ?_
  rintro e w3 ⟨hB3, u3, o, rfl, hu3, ho, hv, hol⟩
  go_wp2_with fail
  refine (limbs_calls _ _ _ o hu3 ho (by omega)).mono ?_
  rintro e w4 ⟨hB4, u4, d4, rfl, hu4, hd4⟩
  go_wp2_with fail
  go_ret
  have s1 := hB1.size
  have s2 := hB2.size
  have s3 := hB3.size
  refine ⟨((hB1.trans (hB2.mono (by omega))).trans (hB3.mono (by omega))).trans (hB4.mono (by omega)), u4, d4, rfl, hu4.mono (by omega), ?_⟩
  rw [hv, hd1.val, hd2.val] at hd4
  exact hd4

theorem mulR_calls (w : World) (B C : Nat) (va vb : Value) (la lb : List Nat) (ha : Nums w B va la) (hb : Nums w C vb lb) (hla : la.length ≤ 60000) (hlb : lb.length ≤ 60000) :
    Calls Try.prog 107 #[va, vb] w fun e w' => Below w.heap.size w w' ∧ RetU w.heap.size (val W la * val W lb) e w' := by
  go_enter Try.func107, Try.ntmps107
  go_wp2_with fail
  refine (digits_calls _ B _ la ha (by omega)).mono ?_
  rintro e w1 ⟨hB1, u1, d1, rfl, hu1, hd1⟩
  go_wp2_with fail
  refine (digits_calls _ C _ lb (hb.below hB1) (by omega)).mono ?_
  rintro e w2 ⟨hB2, u2, d2, rfl, hu2, hd2⟩
  have l1 := digits_len hd1 ha.lt
  have l2 := digits_len hd2 hb.lt
  go_wp2_with fail
  refine (mulD_calls _ _ _ _ _ d1 d2 (hu1.below hB2) hu2 hd1.lt hd2.lt (by omega) (by omega)).mono ?_
  rintro e w3 ⟨hB3, u3, o, rfl, hu3, ho⟩
  have hol : o.length ≤ d1.length + d2.length := by
    rw [ho.len, Nat.pow_add]
    exact Nat.mul_lt_mul'' (L.val_lt d1 hd1.lt) (L.val_lt d2 hd2.lt)
  go_wp2_with fail
  refine (limbs_calls _ _ _ o hu3 ho.lt (by omega)).mono ?_
  rintro e w4 ⟨hB4, u4, d4, rfl, hu4, hd4⟩
  go_wp2_with fail
  go_ret
  have s1 := hB1.size
  have s2 := hB2.size
  have s3 := hB3.size
  refine ⟨((hB1.trans (hB2.mono (by omega))).trans (hB3.mono (by omega))).trans (hB4.mono (by omega)), u4, d4, rfl, hu4.mono (by omega), ?_⟩
  rw [ho.val, hd1.val, hd2.val] at hd4
  exact hd4

theorem subR_no_calls (w : World) (B C : Nat) (va vb : Value) (la lb : List Nat) (ha : Nums w B va la) (hb : Nums w C vb lb) (hla : la.length ≤ 100000) (hlb : lb.length ≤ 100000) (hlt : val W la < val W lb) :
    Calls Try.prog 104 #[va, vb] w fun e w' => Below w.heap.size w w' ∧ e = .returned (.tuple #[.slice none 0 0, .bool false]) := by
  have HC := hide (cmpN_lt hlt)
  clear hlt
  go_enter Try.func104, Try.ntmps104
  go_wp2_with fail
  refine (digits_calls _ B _ la ha hla).mono ?_
  rintro e w1 ⟨hB1, u1, d1, rfl, hu1, hd1⟩
  go_wp2_with fail
  refine (digits_calls _ C _ lb (hb.below hB1) hlb).mono ?_
  rintro e w2 ⟨hB2, u2, d2, rfl, hu2, hd2⟩
  go_wp2_with fail
  refine (cmpD_calls _ _ _ _ _ d1 d2 _ _ (hu1.below hB2) hu2 hd1 hd2).mono ?_
  rintro e w3 ⟨hd, rfl⟩
  rw [HC.out]
  go_wp2_with fail
  go_ret2
  exact ⟨(hB1.trans (hB2.mono hB1.size)).trans (hd.below _), rfl⟩

theorem subR_calls (w : World) (B C : Nat) (va vb : Value) (la lb : List Nat) (ha : Nums w B va la) (hb : Nums w C vb lb) (hla : la.length ≤ 100000) (hlb : lb.length ≤ 100000) (hle : val W lb ≤ val W la) :
    Calls Try.prog 104 #[va, vb] w fun e w' => Below w.heap.size w w' ∧ ∃ u d, e = .returned (.tuple #[u, .bool true]) ∧ Nums w' w.heap.size u d ∧ Canon d (val W la - val W lb) := by
  have hcmp : 0 ≤ cmpN (val W la) (val W lb) := by
    rcases Nat.lt_or_ge (val W lb) (val W la) with h | h
    · rw [cmpN_gt h]; omega
    · rw [cmpN_eq (by omega)]; omega
  have HLE := hide hle
  clear hle
  go_enter Try.func104, Try.ntmps104
  go_wp2_with fail
  refine (digits_calls _ B _ la ha hla).mono ?_
  rintro e w1 ⟨hB1, u1, d1, rfl, hu1, hd1⟩
  go_wp2_with fail
  refine (digits_calls _ C _ lb (hb.below hB1) hlb).mono ?_
  rintro e w2 ⟨hB2, u2, d2, rfl, hu2, hd2⟩
  have l1 := digits_len hd1 ha.lt
  have l2 : d2.length ≤ d1.length := by
    rw [show d1 = dig B32 (val W la) from hd1, show d2 = dig B32 (val W lb) from hd2]
    exact L.dig_len_mono B32_gt HLE.out
  go_wp2_with fail
  refine (cmpD_calls _ _ _ _ _ d1 d2 _ _ (hu1.below hB2) hu2 hd1 hd2).mono ?_
  rintro e w3 ⟨hd, rfl⟩
  have hB3 := hd.below w2.heap.size
  generalize cmpN (val W la) (val W lb) = cmp at *
  go_wp2_with fail
  refine (subD_calls _ _ _ _ _ d1 d2 ((hu1.below hB2).below hB3) (hu2.below hB3) hd1.lt hd2.lt (by omega) l2 (by rw [hd1.val, hd2.val]; exact HLE.out)).mono ?_
  rintro e w4 ⟨hB4, u4, o, rfl, hu4, ho⟩
  have hol : o.length ≤ d1.length := by
    rw [ho.len]
    exact Nat.lt_of_le_of_lt (Nat.sub_le _ _) (L.val_lt d1 hd1.lt)
  go_wp2_with fail
  refine (limbs_calls _ _ _ o hu4 ho.lt (by omega)).mono ?_
  rintro e w5 ⟨hB5, u5, d5, rfl, hu5, hd5⟩
  go_wp2_with fail
  go_ret2
  have s1 := hB1.size
  have s2 := hB2.size
  have s3 := hB3.size
  have s4 := hB4.size
  refine ⟨(((hB1.trans (hB2.mono (by omega))).trans (hB3.mono (by omega))).trans (hB4.mono (by omega))).trans (hB5.mono (by omega)), u5, d5, rfl, hu5.mono (by omega), ?_⟩
  rw [ho.val, hd1.val, hd2.val] at hd5
  exact hd5

theorem shift_calls (w : World) (n : Int) : Calls Try.prog 126 #[.int .i64 n] w fun e w' => w = w' ∧ e = .returned (.int .i64 (clampN n : Nat)) := by
  go_enter Try.func126, Try.ntmps126
  go_wp2_with fail
  go_ret
  exact ⟨rfl, ret_int (clampN_max n)⟩

theorem sameR_calls (w : World) (B C : Nat) (va vb : Value) (p q : List Nat) (hp : Nums w B va p) (hq : Nums w C vb q) :
    Calls Try.prog 63 #[va, vb] w fun e w' => Dr w w' ∧ e = .returned (.bool (p == q)) := by
  obtain ⟨A1, c1, rfl, hl1, hm1, hlt1, hc1⟩ := hp
  obtain ⟨A2, c2, rfl, hl2, hm2, hlt2, hc2⟩ := hq
  go_enter Try.func63, Try.ntmps63
  by_cases hne : p.length = q.length
  · have HL := hide hne
    have d1 : ((p.length : Int) != (q.length : Int)) = false := by simp; omega
    clear hne
    go_wp2_with fail
    go_loopw [5] (fun s wr => ∃ k : Nat, k ≤ p.length ∧ s = .int .i64 k ∧ Hid (p.take k = q.take k) ∧ Dr w wr) (fun s _ => p.length - (intOf s).toNat)
    case atStart => exact ⟨0, by omega, rfl, hide (by simp), Dr.refl w⟩
    case round =>
      obtain ⟨k, hk, rfl, hd, hdr0⟩ := hrel
      by_cases hlt : k < p.length
      · obtain ⟨b1, o1, rfl, _, hb1, hcell1⟩ := hc1 (by omega)
        obtain ⟨b2, o2, rfl, _, hb2, hcell2⟩ := hc2 (by have := HL.out; omega)
        have h1 : wr.cell? ⟨b1, o1 + k, none⟩ = _ := ((hdr0.below w.heap.size).cell (p := ⟨b1, o1 + k, none⟩) hb1).trans (hcell1 k (by omega))
        have h2 : wr.cell? ⟨b2, o2 + k, none⟩ = _ := ((hdr0.below w.heap.size).cell (p := ⟨b2, o2 + k, none⟩) hb2).trans (hcell2 k (by have := HL.out; omega))
        have b0 : (0 : Int) ≤ (k : Int) := by omega
        have b1' : (k : Int) < (p.length : Int) := by omega
        have b2' : (k : Int) < (q.length : Int) := by have := HL.out; omega
        clear hcell1 hcell2 hc1 hc2
        by_cases he : nth p k = nth q k
        · have hb : (((nth p k : Nat) : Int) != ((nth q k : Nat) : Int)) = false := by simp [he]
          have HE := hide he
          clear he
          go_wp2_with fail
          go_quiet (fail)
          go_wp2_with fail
          go_roundw
          case rel =>
            exact ⟨k + 1, by omega, by go_num, hide (by rw [L.take_succ' p k hlt, L.take_succ' q k (by have := HL.out; omega), hd.out, HE.out]), hdr0.next _⟩
          case measure => simp [intOf]; omega
        · have hb : (((nth p k : Nat) : Int) != ((nth q k : Nat) : Int)) = true := by rw [bne_iff_ne]; omega
          have HF : Hid ((p == q) = false) := hide (by
            rw [beq_eq_false_iff_ne]; intro h; subst h; exact he rfl)
          clear he
          go_wp2_with fail
          go_quiet (fail)
          go_wp2_with fail
          go_ret
          exact ⟨hdr0.next _, ret_bool HF.out.symm⟩
      · have b1' : ¬ ((k : Int) < (p.length : Int)) := by omega
        have HT : Hid ((p == q) = true) := hide (by
          have := hd.out
          rw [List.take_of_length_le (by omega), List.take_of_length_le (by have := HL.out; omega)] at this
          rw [beq_iff_eq]; exact this)
        go_wp2_with fail
        go_ret
        exact ⟨hdr0, ret_bool HT.out.symm⟩
  · have d1 : ((p.length : Int) != (q.length : Int)) = true := by rw [bne_iff_ne]; omega
    have HF : Hid ((p == q) = false) := hide (by
      rw [beq_eq_false_iff_ne]; intro h; subst h; exact hne rfl)
    go_wp2_with fail
    go_ret
    exact ⟨Dr.refl w, ret_bool HF.out.symm⟩
end Go.Proofs.Ytnkembnachhicaa

/- nat.Add, nat.less, nat.Sub: sums and differences of limbs. -/
import Derived.Test.YtnkembnachhicaaNat1
import Derived.Test.YtnkembnachhicaaPlain1
import Derived.Deep.DeepCutAuto
set_option linter.unusedVariables false
namespace Go.Proofs.Ytnkembnachhicaa
open Go.RowKit
open L (val dig nth)

theorem nth_lt {l : List Nat} (h : ∀ x ∈ l, x < W) (i : Nat) : nth l i < 18446744073709551616 := L.lt_of_getD W_pos l h i
theorem canon_len_le {d l : List Nat} (hd : Canon d (val W l)) (hl : ∀ x ∈ l, x < W) : d.length ≤ l.length := by
  rw [show d = dig W (val W l) from hd]; exact L.dig_len_val W_gt l hl

theorem add_calls (w : World) (B C : Nat) (va vb : Value) (la lb : List Nat) (ha : Nums w B va la) (hb : Nums w C vb lb) (hla : la.length ≤ 60000) (hlb : lb.length ≤ 60000) :
    Calls Try.prog 98 #[va, vb] w fun e w' => Below w.heap.size w w' ∧ RetU w.heap.size (val W la + val W lb) e w' := by
  go_enter Try.func98, Try.ntmps98
  go_wp2_with fail
  refine (trim_calls _ B _ la ha).mono ?_
  rintro e w1 ⟨rfl, u1, da, rfl, hu1, hda⟩
  go_wp2_with fail
  refine (trim_calls _ C _ lb hb).mono ?_
  rintro e w1 ⟨rfl, u2, db, rfl, hu2, hdb⟩
  have la' := Nat.le_trans (canon_len_le hda ha.lt) hla
  have lb' := Nat.le_trans (canon_len_le hdb hb.lt) hlb
  have hu1' := hu1.mono (Nat.zero_le B)
  have hu2' := hu2.mono (Nat.zero_le C)
  obtain ⟨A1, c1, rfl, -⟩ := hu1
  obtain ⟨A2, c2, rfl, -⟩ := hu2
  go_upto_if 17 with (fail)
  go_cut [0, 1] (fun x y wx => w = wx ∧ ∃ p q, Nums w 0 x p ∧ Nums w 0 y q ∧ q.length ≤ p.length ∧ p.length ≤ 60000 ∧ Hid (val W p + val W q = val W la + val W lb))
  case first =>
    go_wp2_with fail
    · have hlt : da.length < db.length := by assumption
      go_meet
      exact ⟨rfl, db, da, hu2', hu1', by omega, lb', hide (by rw [hda.val, hdb.val, Nat.add_comm])⟩
    · have hlt : ¬ da.length < db.length := by assumption
      go_meet
      exact ⟨rfl, da, db, hu1', hu2', by omega, la', hide (by rw [hda.val, hdb.val])⟩
  case rest =>
    clear hu1' hu2' la' lb'
    obtain ⟨rfl, p, q, hp, hq, hqp, hp6, HV⟩ := hcut
    have hp0 := hp.lt
    have hq0 := hq.lt
    obtain ⟨A1, c1, rfl, -, -, -, hcp⟩ := hp
    obtain ⟨A2, c2, rfl, -, -, -, hcq⟩ := hq
    have hmk := mkU_run ((p.length : Int) + 1) (p.length + 1) (by omega) (by omega)
    go_wp2_with fail
    clear hmk
    go_loopw [6, 26] (fun c i wr => ∃ (k cN : Nat) (o : List Nat), k ≤ p.length ∧ i = .int .i64 k ∧ c = .int .u64 cN ∧ cN ≤ 1 ∧ Out wr w.heap.size o ∧ Hid (o.length = p.length + 1) ∧ Hid (∀ x ∈ o, x < W) ∧
      Hid (val W (o.take k) + W ^ k * cN = val W (p.take k) + val W (q.take k)) ∧ Below w.heap.size w wr) (fun _ i _ => p.length - (intOf i).toNat)
    case atStart => exact ⟨0, 0, _, Nat.zero_le _, rfl, rfl, by omega, Out.made w _, hide (by simp), hide (fun x hx => by rw [(List.mem_replicate.1 hx).2]; exact W_pos), hide (by simp [L.val]), (Below.refl _ _).alloc (Nat.le_refl _) _⟩
    case round =>
      obtain ⟨k, cN, o, hk, rfl, rfl, hc1', hO, HO, HOlt, HI, hB⟩ := hrel
      by_cases hlt : k < p.length
      · have hol : k < o.length := by have := HO.out; omega
        obtain ⟨b1, o1, rfl, -, hb1, hcell1⟩ := hcp (by omega)
        have h1 : wr.cell? ⟨b1, o1 + k, none⟩ = _ := (hB.cell (p := ⟨b1, o1 + k, none⟩) hb1).trans (hcell1 k hlt)
        have h3 := hO.cell hol
        have h4 := hO.frozen k
        have px := nth_lt hp0 k
        have qx := nth_lt hq0 k
        obtain ⟨s, d, hs, hsl⟩ : ∃ s d, nth p k + nth q k + cN = s + 18446744073709551616 * d ∧ s < 18446744073709551616 :=
          ⟨(nth p k + nth q k + cN) % 18446744073709551616, (nth p k + nth q k + cN) / 18446744073709551616, by omega, by omega⟩
        have hd1 : d ≤ 1 := by omega
        have hadd := add64_run (nth p k) (nth q k) cN s d hc1' hs hsl
        have HST := hide (L.add_step W p q o k cN s d hol HI.out hs)
        clear hcell1 hcp hs px qx
        by_cases hltq : k < q.length
        · obtain ⟨b2, o2, rfl, -, hb2, hcell2⟩ := hcq (by omega)
          have h2 : wr.cell? ⟨b2, o2 + k, none⟩ = _ := (hB.cell (p := ⟨b2, o2 + k, none⟩) hb2).trans (hcell2 k hltq)
          clear hcell2 hcq
          go_wp2_with fail
          go_roundw
          case rel =>
            exact ⟨k + 1, d, _, by omega, by go_num, rfl, hd1, hO.set k s, hide (by simpa using HO.out), hide (L.mem_set_lt o HOlt.out k s hsl), HST, hB.setCell (Nat.le_refl _) _⟩
          case measure => simp [intOf]; omega
        · have hz : nth q k = 0 := L.getD_ge q k (by omega)
          rw [hz] at hadd
          have hadd' : ∀ w, (callFunc 115 #[.int .u64 (nth p k : Nat), .int .u64 0, .int .u64 cN]).run Try.prog w = _ := hadd
          clear hadd hz
          go_wp2_with fail
          go_roundw
          case rel =>
            exact ⟨k + 1, d, _, by omega, by go_num, rfl, hd1, hO.set k s, hide (by simpa using HO.out), hide (L.mem_set_lt o HOlt.out k s hsl), HST, hB.setCell (Nat.le_refl _) _⟩
          case measure => simp [intOf]; omega
      · have hke : k = p.length := by omega
        subst hke
        have hol : p.length < o.length := by have := HO.out; omega
        have h3 := hO.cell hol
        have h4 := hO.frozen p.length
        have HV2 : Hid (val W (o.set p.length cN) = val W la + val W lb) := hide (by
          rw [L.val_last W _ p.length (by simpa using HO.out), L.take_set_self, L.getD_set_self _ _ _ hol, HI.out, ← HV.out, L.val_take_ge W p _ (Nat.le_refl _), L.val_take_ge W q _ (by omega)])
        have hO2 := hO.set p.length cN
        have hlt2 := L.mem_set_lt o HOlt.out p.length cN (show cN < W from by unfold W; omega)
        have hlen2 : (o.set p.length cN).length = p.length + 1 := by simpa using HO.out
        have hN := hO2.nums (Nat.le_refl _) (by omega) hlt2
        rw [hlen2] at hN
        have HN := hide hN
        have hB2 := hB.setCell (p := ⟨w.heap.size, p.length, none⟩) (Nat.le_refl _) (.int .u64 (cN : Nat))
        clear hlen2 hlt2 hO2 hN hcp hcq
        go_wp2_with fail
        refine (trim_calls _ _ _ _ HN.out).mono ?_
        rintro e w1 ⟨rfl, u, d, rfl, hu, hd⟩
        go_wp2_with fail
        go_ret
        refine ⟨hB2, u, d, rfl, hu, ?_⟩
        rw [← HV2.out]
        exact hd

theorem less_calls (w : World) (B C : Nat) (va vb : Value) (p q : List Nat) (hp : Nums w B va p) (hq : Nums w C vb q) (hp6 : p.length ≤ 60000) (hqp : q.length ≤ p.length) (hle : val W q ≤ val W p) :
    Calls Try.prog 116 #[va, vb] w fun e w' => Below w.heap.size w w' ∧ ∃ u o, e = .returned u ∧ Nums w' w.heap.size u o ∧ Hid (val W o = val W p - val W q) := by
  have hp0 := hp.lt
  have hq0 := hq.lt
  have HLE := hide hle
  obtain ⟨A1, c1, rfl, -, -, -, hcp⟩ := hp
  obtain ⟨A2, c2, rfl, -, -, -, hcq⟩ := hq
  have hmk := mkU_run (p.length : Int) p.length (by omega) (by omega)
  clear hle
  go_enter Try.func116, Try.ntmps116
  go_wp2_with fail
  clear hmk
  go_loopw [6, 14] (fun c i wr => ∃ (k cN : Nat) (o : List Nat), k ≤ p.length ∧ i = .int .i64 k ∧ c = .int .u64 cN ∧ cN ≤ 1 ∧ Out wr w.heap.size o ∧ Hid (o.length = p.length) ∧ Hid (∀ x ∈ o, x < W) ∧
      Hid (val W (o.take k) + val W (q.take k) = val W (p.take k) + W ^ k * cN) ∧ Below w.heap.size w wr) (fun _ i _ => p.length - (intOf i).toNat)
  case atStart => exact ⟨0, 0, _, Nat.zero_le _, rfl, rfl, by omega, Out.made w _, hide (by simp), hide (fun x hx => by rw [(List.mem_replicate.1 hx).2]; exact W_pos), hide (by simp [L.val]), (Below.refl _ _).alloc (Nat.le_refl _) _⟩
  case round =>
    obtain ⟨k, cN, o, hk, rfl, rfl, hc1', hO, HO, HOlt, HI, hB⟩ := hrel
    by_cases hlt : k < p.length
    · have hol : k < o.length := by have := HO.out; omega
      obtain ⟨b1, o1, rfl, -, hb1, hcell1⟩ := hcp (by omega)
      have h1 : wr.cell? ⟨b1, o1 + k, none⟩ = _ := (hB.cell (p := ⟨b1, o1 + k, none⟩) hb1).trans (hcell1 k hlt)
      have h3 := hO.cell hol
      have h4 := hO.frozen k
      have px := nth_lt hp0 k
      have qx := nth_lt hq0 k
      obtain ⟨s, d, hs, hsl, hd1⟩ : ∃ s d, nth p k + 18446744073709551616 * d = s + nth q k + cN ∧ s < 18446744073709551616 ∧ d ≤ 1 := by
        by_cases hbo : nth p k < nth q k + cN
        · exact ⟨nth p k + 18446744073709551616 - nth q k - cN, 1, by omega, by omega, by omega⟩
        · exact ⟨nth p k - nth q k - cN, 0, by omega, by omega, by omega⟩
      have hadd := sub64_run (nth p k) (nth q k) cN s d hc1' hs px qx hsl
      have HST := hide (L.sub_step W p q o k cN s d hol HI.out hs)
      clear hcell1 hcp hs px qx
      by_cases hltq : k < q.length
      · obtain ⟨b2, o2, rfl, -, hb2, hcell2⟩ := hcq (by omega)
        have h2 : wr.cell? ⟨b2, o2 + k, none⟩ = _ := (hB.cell (p := ⟨b2, o2 + k, none⟩) hb2).trans (hcell2 k hltq)
        clear hcell2 hcq
        go_wp2_with fail
        go_roundw
        case rel =>
          exact ⟨k + 1, d, _, by omega, by go_num, rfl, hd1, hO.set k s, hide (by simpa using HO.out), hide (L.mem_set_lt o HOlt.out k s hsl), HST, hB.setCell (Nat.le_refl _) _⟩
        case measure => simp [intOf]; omega
      · have hz : nth q k = 0 := L.getD_ge q k (by omega)
        rw [hz] at hadd
        have hadd' : ∀ w, (callFunc 129 #[.int .u64 (nth p k : Nat), .int .u64 0, .int .u64 cN]).run Try.prog w = _ := hadd
        clear hadd hz
        go_wp2_with fail
        go_roundw
        case rel =>
          exact ⟨k + 1, d, _, by omega, by go_num, rfl, hd1, hO.set k s, hide (by simpa using HO.out), hide (L.mem_set_lt o HOlt.out k s hsl), HST, hB.setCell (Nat.le_refl _) _⟩
        case measure => simp [intOf]; omega
    · have hke : k = p.length := by omega
      subst hke
      have HV : Hid (val W o = val W p - val W q) := hide (by
        have h1 := HI.out
        have h2 := HLE.out
        rw [List.take_of_length_le (by have := HO.out; omega), L.val_take_ge W p _ (Nat.le_refl _), L.val_take_ge W q _ (by omega)] at h1
        have h3 := L.val_lt o HOlt.out
        rw [HO.out] at h3
        have h4 : cN = 0 := by
          rcases Nat.eq_zero_or_pos cN with h | h
          · exact h
          · have : cN = 1 := by omega
            subst this
            rw [Nat.mul_one] at h1
            omega
        subst h4
        omega)
      have hN := hO.nums (Nat.le_refl _) (by have := HO.out; omega) HOlt.out
      rw [HO.out] at hN
      have HN := hide hN
      clear hN hcp hcq
      go_wp2_with fail
      go_ret
      exact ⟨hB, _, o, rfl, HN.out, HV⟩

theorem sub_no_calls (w : World) (B C : Nat) (va vb : Value) (la lb : List Nat) (ha : Nums w B va la) (hb : Nums w C vb lb) (hlt : val W la < val W lb) :
    Calls Try.prog 99 #[va, vb] w fun e w' => Below w.heap.size w w' ∧ e = .returned (.tuple #[.slice none 0 0, .bool false]) := by
  have HC := hide (cmpN_lt hlt)
  clear hlt
  go_enter Try.func99, Try.ntmps99
  go_wp2_with fail
  refine (cmp_calls _ B C _ _ la lb ha hb).mono ?_
  rintro e w1 ⟨hd, rfl⟩
  rw [HC.out]
  go_wp2_with fail
  go_ret2
  exact ⟨hd.below _, rfl⟩

theorem sub_calls (w : World) (B C : Nat) (va vb : Value) (la lb : List Nat) (ha : Nums w B va la) (hb : Nums w C vb lb) (hla : la.length ≤ 60000) (hle : val W lb ≤ val W la) :
    Calls Try.prog 99 #[va, vb] w fun e w' => Below w.heap.size w w' ∧ ∃ u d, e = .returned (.tuple #[u, .bool true]) ∧ Nums w' w.heap.size u d ∧ Canon d (val W la - val W lb) := by
  have hcmp : 0 ≤ cmpN (val W la) (val W lb) := by
    rcases Nat.lt_or_ge (val W lb) (val W la) with h | h
    · rw [cmpN_gt h]; omega
    · rw [cmpN_eq (by omega)]; omega
  have HLE := hide hle
  clear hle
  go_enter Try.func99, Try.ntmps99
  go_wp2_with fail
  refine (cmp_calls _ B C _ _ la lb ha hb).mono ?_
  rintro e w1 ⟨hd, rfl⟩
  have hb1 := hd.below w.heap.size
  have ha1 := ha.below hb1
  have hb2 := hb.below hb1
  have hsz : w1.heap.size = w.heap.size := by obtain ⟨k, rfl⟩ := hd; rfl
  have HS := hide hsz
  clear hsz
  generalize cmpN (val W la) (val W lb) = cmp at *
  go_wp2_with fail
  refine (trim_calls _ B _ la ha1).mono ?_
  rintro e w2 ⟨rfl, u1, da, rfl, hu1, hda⟩
  go_wp2_with fail
  refine (trim_calls _ C _ lb hb2).mono ?_
  rintro e w2 ⟨rfl, u2, db, rfl, hu2, hdb⟩
  have la' := Nat.le_trans (canon_len_le hda ha.lt) hla
  have lb' : db.length ≤ da.length := by
    rw [show da = dig W (val W la) from hda, show db = dig W (val W lb) from hdb]
    exact L.dig_len_mono W_gt HLE.out
  go_wp2_with fail
  refine (less_calls _ B C _ _ da db hu1 hu2 la' lb' (by rw [hda.val, hdb.val]; exact HLE.out)).mono ?_
  rintro e w2 ⟨hb3, u3, o, rfl, hu3, HV⟩
  go_wp2_with fail
  refine (trim_calls _ _ _ o hu3).mono ?_
  rintro e w3 ⟨rfl, u4, d4, rfl, hu4, hd4⟩
  go_wp2_with fail
  go_ret2
  refine ⟨hb1.trans (by rw [← HS.out]; exact hb3), u4, d4, rfl, ?_, ?_⟩
  · rw [← HS.out]; exact hu4
  · have := HV.out
    rw [hda.val, hdb.val] at this
    rw [← this]
    exact hd4
end Go.Proofs.Ytnkembnachhicaa

/- hairlinelaw20: DiskPlays, walked. -/
import Derived.Test.YtdlokmlcdlcfaaaDp
set_option linter.unusedVariables false
set_option linter.unusedSimpArgs false
namespace Go.Proofs.Ytdlokmlcdlcfaaa
open Go.RowKit Go.MapKept
set_option maxRecDepth 100000 in
set_option maxHeartbeats 8000000 in
theorem plays_calls (w : World) (n : Int) (v : Value) (l : List OpD) (hv : Ops w v l) :
    Calls Try.prog 5 #[.int .i64 n, v] w fun e w' => e = .returned (.bool true) ∧ Below w.heap.size w w' := by
  obtain ⟨A, c, rfl, hl2, hl3⟩ := hv
  by_cases h64 : 64 < n
  · by_cases h40 : n ≤ 4096
    · have hm : n.tmod 64 = n % 64 := Int.tmod_eq_emod_of_nonneg (by omega)
      obtain ⟨N, hN⟩ : ∃ N, n.tmod 64 = N := ⟨_, rfl⟩
      have hN2 : N ≤ 64 := by omega
      have hN0 : 0 ≤ N := by omega
      clear hm
      go_enter Try.func5, Try.ntmps5
      go_wp2_with (go_at_call 9; refine (shown_calls _).mono ?_; rintro e w1 ⟨rfl, hB1⟩)
      by_cases hN1 : N < 1
      · refine (new_none w1 N (.inl hN1)).mono ?_
        rintro e w2 ⟨rfl, e2⟩
        subst e2
        go_wp2_with fail
        refine (rnew_none w2 N (.inl hN1)).mono ?_
        rintro e w3 ⟨rfl, e2⟩
        subst e2
        go_wp2_with fail
        go_ret
        exact ⟨rfl, hB1⟩
      · replace hN1 : 1 ≤ N := by omega
        clear hN hN0
        refine (new_calls w1 N ⟨hN1, by omega⟩).mono ?_
        rintro e w2 ⟨rfl, hD2, hB2⟩
        go_wp2_with fail
        refine (rnew_calls w2 N ⟨hN1, by omega⟩).mono ?_
        rintro e w3 ⟨rfl, hR3, hB3⟩
        have h3 := two_new hB1 hD2 hB2 hR3 hB3
        obtain ⟨D, hD⟩ : ∃ D, w1.heap.size + 1 = D := ⟨_, rfl⟩
        obtain ⟨R, hR⟩ : ∃ R, w2.heap.size = R := ⟨_, rfl⟩
        rw [hD, hR] at h3 ⊢
        clear hD2 hR3 hD hR
        go_wp2_with fail
        go_loopw [8] (fun i wr => ∃ (k : Nat) (F G : Nat → Prop) (d : DS), k ≤ 200 ∧ k ≤ l.length ∧ i = .int .i64 (k : Int) ∧ Two w wr D R F G d d ∧ d.n = N ∧ d.loose.length ≤ k ∧ d.keep.length ≤ 140737488351232) (fun i _ => 200 - (intOf i).toNat)
        case atStart => exact ⟨0, _, _, _, by omega, Nat.zero_le _, rfl, h3, rfl, Nat.zero_le _, Nat.zero_le _⟩
        case round =>
          clear h3
          obtain ⟨k, F, G, d, hk2, hkl, rfl, hT, hdn, hll, hkp⟩ := hrel
          have hk0 : (0 : Int) ≤ (k : Int) := by omega
          have hk2i : (k : Int) ≤ 200 := by omega
          by_cases hk1 : k < l.length ∧ k < 200
          · obtain ⟨ho, b, p, sv, kv, rfl, hbl, hsv, hkv, c0, c1, c2, c3⟩ := hl3 k _ (List.getElem?_eq_getElem hk1.1)
            obtain ⟨o, hoo⟩ : ∃ o, l[k] = o := ⟨_, rfl⟩
            rw [hoo] at ho hsv hkv c0 c1
            have hkli : (k : Int) < (l.length : Int) := by omega
            have hk2j : (k : Int) < 200 := by omega
            have bc : ∀ q, wr.cell? ⟨b, q, none⟩ = w.cell? ⟨b, q, none⟩ := fun q => hT.below.cell (p := ⟨b, q, none⟩) hbl
            have c0 := (bc _).trans c0
            have c1 := (bc _).trans c1
            have c2 := (bc _).trans c2
            have c3 := (bc _).trans c3
            clear bc
            have hdc := does_calls hT ⟨by omega, by omega⟩ o sv kv hsv hkv ho.n ho.s ho.keep
            have hft := does_fit d ho hkp
            rw [hdn] at hft
            go_wp2_with fail
            refine hdc.mono ?_
            rintro e w4 ⟨rfl, F1, G1, hT4⟩
            clear hdc c0 c1 c2 c3 hT
            obtain ⟨d1, hd1⟩ : ∃ d1, d.does o = d1 := ⟨_, rfl⟩
            rw [hd1] at hT4 hft
            replace hft : d1.keep.length ≤ 140737488351232 ∧ d1.loose.length ≤ k + 1 ∧ d1.n = N := ⟨hft.1, by omega, hft.2.2⟩
            clear hd1 hdn hll hkp hoo d
            obtain ⟨hkp, hll, hdn⟩ := hft
            go_wp2_with fail
            have hDd : DiskAt w4.drew D F1 d1 := hT4.disk.below ((Below.refl _ w4).drew)
            obtain ⟨fv, lv, kv', r0, r1, r2, r3, r4, -, -, -, -, ⟨lA, lc, rfl⟩⟩ := hT4.ref.cells
            clear r0 r3 r4
            have hT5 := hT4.over ((Below.refl _ w4).drew)
            go_region_held3 (fun w' => w' = w4.drew) (rfl) (first
              | (go_at_call 19; refine (loose_calls hDd).mono ?_; rintro e w5 ⟨rfl, e5⟩; subst e5)
              | (go_at_call 20; refine (down_calls hDd).mono ?_; rintro e w5 ⟨rfl, e5⟩; subst e5)
              | (go_at_call 21; refine (size_calls hDd).mono ?_; rintro e w5 ⟨rfl, e5⟩; subst e5))
            clear hDd r1 r2
            go_wp2_with fail
            go_loopw [10] (fun i wr => ∃ j : Nat, (j : Int) ≤ N ∧ j ≤ 6 ∧ i = .int .i64 (j : Int) ∧ Two w wr D R F1 G1 d1 d1) (fun i _ => 6 - (intOf i).toNat)
            case atStart => exact ⟨0, by omega, by omega, rfl, hT5⟩
            case round =>
              clear hT5 hT4
              obtain ⟨j, hj1, hj2, rfl, hT6⟩ := hrel
              have hj0 : (0 : Int) ≤ (j : Int) := by omega
              have hj3 : (j : Int) ≤ 6 := by omega
              by_cases hj : (j : Int) < N ∧ j < 6
              · have hj4 : (j : Int) < N := hj.1
                have hj5 : (j : Int) < 6 := by omega
                by_cases ha : d1.at_ (j : Int) = 0
                · have hrd := read_ok hT6.disk (by omega) j ha
                  go_wp2_with fail
                  refine hrd.mono ?_
                  rintro e w6 ⟨v, rfl, hv, ⟨A, m, c, rfl⟩, hvb, hB⟩
                  clear hrd
                  have hT7 := hT6.over hB
                  have hrr := rread_calls hT7.ref (by omega) j
                  unfold rreadV at hrr
                  rw [if_pos ha] at hrr
                  have hcv := conv_any (P := Try.prog) w6 30 5 Try.underlying30 Try.underlying5 _ _ hv _ Try.underlying9
                  clear hv hvb
                  go_wp2_with fail
                  refine hrr.mono ?_
                  rintro e w7 ⟨rfl, e2⟩
                  subst e2
                  clear hrr
                  go_wp2_with fail
                  exact ⟨⟨j + 1, by omega, by omega, rfl, hT7⟩, by simp only [intOf]; omega⟩
                · have hrd := read_bad hT6.disk j ha
                  obtain ⟨x, hx⟩ : ∃ x, d1.at_ (j : Int) = x := ⟨_, rfl⟩
                  rw [hx] at hrd
                  go_wp2_with fail
                  refine hrd.mono ?_
                  rintro e w6 ⟨rfl, hB⟩
                  clear hrd
                  have hT7 := hT6.over hB
                  have hrr := rread_calls hT7.ref (by omega) j
                  unfold rreadV at hrr
                  rw [if_neg ha, hx] at hrr
                  clear hx ha
                  have hcv : (convert 30 9 (.slice none 0 0)).run Try.prog w6 = .ok (.string ⟨#[]⟩) w6 := conv_any (P := Try.prog) w6 30 5 Try.underlying30 Try.underlying5 _ [] (Sl.nil _) _ Try.underlying9
                  go_wp2_with fail
                  refine hrr.mono ?_
                  rintro e w7 ⟨rfl, e2⟩
                  subst e2
                  clear hrr
                  go_wp2_with fail
                  exact ⟨⟨j + 1, by omega, by omega, rfl, hT7⟩, by simp only [intOf]; omega⟩
              · by_cases hj4 : (j : Int) < N
                · have hj5 : ¬(j : Int) < 6 := by omega
                  go_wp2_with fail
                  exact ⟨⟨k + 1, F1, G1, d1, by omega, by omega, rfl, hT6, hdn, hll, hkp⟩, by simp only [intOf]; omega⟩
                · go_wp2_with fail
                  exact ⟨⟨k + 1, F1, G1, d1, by omega, by omega, rfl, hT6, hdn, hll, hkp⟩, by simp only [intOf]; omega⟩
          · by_cases hkl' : k < l.length
            · have hkli : (k : Int) < (l.length : Int) := by omega
              have hk2j : ¬(k : Int) < 200 := by omega
              have hP := hT.below
              clear hT hl3
              go_wp2_with fail
              go_ret
              exact ⟨rfl, hP⟩
            · have hkli : ¬(k : Int) < (l.length : Int) := by omega
              have hP := hT.below
              clear hT hl3
              go_wp2_with fail
              go_ret
              exact ⟨rfl, hP⟩
    · have h40' : (4096 : Int) < n := by omega
      go_enter Try.func5, Try.ntmps5
      go_wp2_with (go_at_call 9; refine (shown_calls _).mono ?_; rintro e w1 ⟨rfl, hB1⟩)
      refine (new_none w1 n (.inr h40')).mono ?_
      rintro e w2 ⟨rfl, e2⟩
      subst e2
      go_wp2_with fail
      refine (rnew_none w2 n (.inr h40')).mono ?_
      rintro e w3 ⟨rfl, e2⟩
      subst e2
      go_wp2_with fail
      go_ret
      exact ⟨rfl, hB1⟩
  · have h64' : ¬(64 : Int) < n := h64
    by_cases hn1 : n < 1
    · go_enter Try.func5, Try.ntmps5
      go_wp2_with (go_at_call 9; refine (shown_calls _).mono ?_; rintro e w1 ⟨rfl, hB1⟩)
      refine (new_none w1 n (.inl hn1)).mono ?_
      rintro e w2 ⟨rfl, e2⟩
      subst e2
      go_wp2_with fail
      refine (rnew_none w2 n (.inl hn1)).mono ?_
      rintro e w3 ⟨rfl, e2⟩
      subst e2
      go_wp2_with fail
      go_ret
      exact ⟨rfl, hB1⟩
    · have hN1 : 1 ≤ n := by omega
      have hN2 : n ≤ 64 := by omega
      obtain ⟨N, hN⟩ : ∃ N, n = N := ⟨_, rfl⟩
      subst hN
      go_enter Try.func5, Try.ntmps5
      go_wp2_with (go_at_call 9; refine (shown_calls _).mono ?_; rintro e w1 ⟨rfl, hB1⟩)
      refine (new_calls w1 n ⟨hN1, by omega⟩).mono ?_
      rintro e w2 ⟨rfl, hD2, hB2⟩
      go_wp2_with fail
      refine (rnew_calls w2 n ⟨hN1, by omega⟩).mono ?_
      rintro e w3 ⟨rfl, hR3, hB3⟩
      have h3 := two_new hB1 hD2 hB2 hR3 hB3
      obtain ⟨D, hD⟩ : ∃ D, w1.heap.size + 1 = D := ⟨_, rfl⟩
      obtain ⟨R, hR⟩ : ∃ R, w2.heap.size = R := ⟨_, rfl⟩
      rw [hD, hR] at h3 ⊢
      clear hD2 hR3 hD hR
      go_wp2_with fail
      go_loopw [8] (fun i wr => ∃ (k : Nat) (F G : Nat → Prop) (d : DS), k ≤ 200 ∧ k ≤ l.length ∧ i = .int .i64 (k : Int) ∧ Two w wr D R F G d d ∧ d.n = n ∧ d.loose.length ≤ k ∧ d.keep.length ≤ 140737488351232) (fun i _ => 200 - (intOf i).toNat)
      case atStart => exact ⟨0, _, _, _, by omega, Nat.zero_le _, rfl, h3, rfl, Nat.zero_le _, Nat.zero_le _⟩
      case round =>
        clear h3
        obtain ⟨k, F, G, d, hk2, hkl, rfl, hT, hdn, hll, hkp⟩ := hrel
        have hk0 : (0 : Int) ≤ (k : Int) := by omega
        have hk2i : (k : Int) ≤ 200 := by omega
        by_cases hk1 : k < l.length ∧ k < 200
        · obtain ⟨ho, b, p, sv, kv, rfl, hbl, hsv, hkv, c0, c1, c2, c3⟩ := hl3 k _ (List.getElem?_eq_getElem hk1.1)
          obtain ⟨o, hoo⟩ : ∃ o, l[k] = o := ⟨_, rfl⟩
          rw [hoo] at ho hsv hkv c0 c1
          have hkli : (k : Int) < (l.length : Int) := by omega
          have hk2j : (k : Int) < 200 := by omega
          have bc : ∀ q, wr.cell? ⟨b, q, none⟩ = w.cell? ⟨b, q, none⟩ := fun q => hT.below.cell (p := ⟨b, q, none⟩) hbl
          have c0 := (bc _).trans c0
          have c1 := (bc _).trans c1
          have c2 := (bc _).trans c2
          have c3 := (bc _).trans c3
          clear bc
          have hdc := does_calls hT ⟨by omega, by omega⟩ o sv kv hsv hkv ho.n ho.s ho.keep
          have hft := does_fit d ho hkp
          rw [hdn] at hft
          go_wp2_with fail
          refine hdc.mono ?_
          rintro e w4 ⟨rfl, F1, G1, hT4⟩
          clear hdc c0 c1 c2 c3 hT
          obtain ⟨d1, hd1⟩ : ∃ d1, d.does o = d1 := ⟨_, rfl⟩
          rw [hd1] at hT4 hft
          replace hft : d1.keep.length ≤ 140737488351232 ∧ d1.loose.length ≤ k + 1 ∧ d1.n = n := ⟨hft.1, by omega, hft.2.2⟩
          clear hd1 hdn hll hkp hoo d
          obtain ⟨hkp, hll, hdn⟩ := hft
          go_wp2_with fail
          have hDd : DiskAt w4.drew D F1 d1 := hT4.disk.below ((Below.refl _ w4).drew)
          obtain ⟨fv, lv, kv', r0, r1, r2, r3, r4, -, -, -, -, ⟨lA, lc, rfl⟩⟩ := hT4.ref.cells
          clear r0 r3 r4
          have hT5 := hT4.over ((Below.refl _ w4).drew)
          go_region_held3 (fun w' => w' = w4.drew) (rfl) (first
            | (go_at_call 19; refine (loose_calls hDd).mono ?_; rintro e w5 ⟨rfl, e5⟩; subst e5)
            | (go_at_call 20; refine (down_calls hDd).mono ?_; rintro e w5 ⟨rfl, e5⟩; subst e5)
            | (go_at_call 21; refine (size_calls hDd).mono ?_; rintro e w5 ⟨rfl, e5⟩; subst e5))
          clear hDd r1 r2
          go_wp2_with fail
          go_loopw [10] (fun i wr => ∃ j : Nat, (j : Int) ≤ n ∧ j ≤ 6 ∧ i = .int .i64 (j : Int) ∧ Two w wr D R F1 G1 d1 d1) (fun i _ => 6 - (intOf i).toNat)
          case atStart => exact ⟨0, by omega, by omega, rfl, hT5⟩
          case round =>
            clear hT5 hT4
            obtain ⟨j, hj1, hj2, rfl, hT6⟩ := hrel
            have hj0 : (0 : Int) ≤ (j : Int) := by omega
            have hj3 : (j : Int) ≤ 6 := by omega
            by_cases hj : (j : Int) < n ∧ j < 6
            · have hj4 : (j : Int) < n := hj.1
              have hj5 : (j : Int) < 6 := by omega
              by_cases ha : d1.at_ (j : Int) = 0
              · have hrd := read_ok hT6.disk (by omega) j ha
                go_wp2_with fail
                refine hrd.mono ?_
                rintro e w6 ⟨v, rfl, hv, ⟨A, m, c, rfl⟩, hvb, hB⟩
                clear hrd
                have hT7 := hT6.over hB
                have hrr := rread_calls hT7.ref (by omega) j
                unfold rreadV at hrr
                rw [if_pos ha] at hrr
                have hcv := conv_any (P := Try.prog) w6 30 5 Try.underlying30 Try.underlying5 _ _ hv _ Try.underlying9
                clear hv hvb
                go_wp2_with fail
                refine hrr.mono ?_
                rintro e w7 ⟨rfl, e2⟩
                subst e2
                clear hrr
                go_wp2_with fail
                exact ⟨⟨j + 1, by omega, by omega, rfl, hT7⟩, by simp only [intOf]; omega⟩
              · have hrd := read_bad hT6.disk j ha
                obtain ⟨x, hx⟩ : ∃ x, d1.at_ (j : Int) = x := ⟨_, rfl⟩
                rw [hx] at hrd
                go_wp2_with fail
                refine hrd.mono ?_
                rintro e w6 ⟨rfl, hB⟩
                clear hrd
                have hT7 := hT6.over hB
                have hrr := rread_calls hT7.ref (by omega) j
                unfold rreadV at hrr
                rw [if_neg ha, hx] at hrr
                clear hx ha
                have hcv : (convert 30 9 (.slice none 0 0)).run Try.prog w6 = .ok (.string ⟨#[]⟩) w6 := conv_any (P := Try.prog) w6 30 5 Try.underlying30 Try.underlying5 _ [] (Sl.nil _) _ Try.underlying9
                go_wp2_with fail
                refine hrr.mono ?_
                rintro e w7 ⟨rfl, e2⟩
                subst e2
                clear hrr
                go_wp2_with fail
                exact ⟨⟨j + 1, by omega, by omega, rfl, hT7⟩, by simp only [intOf]; omega⟩
            · by_cases hj4 : (j : Int) < n
              · have hj5 : ¬(j : Int) < 6 := by omega
                go_wp2_with fail
                exact ⟨⟨k + 1, F1, G1, d1, by omega, by omega, rfl, hT6, hdn, hll, hkp⟩, by simp only [intOf]; omega⟩
              · go_wp2_with fail
                exact ⟨⟨k + 1, F1, G1, d1, by omega, by omega, rfl, hT6, hdn, hll, hkp⟩, by simp only [intOf]; omega⟩
        · by_cases hkl' : k < l.length
          · have hkli : (k : Int) < (l.length : Int) := by omega
            have hk2j : ¬(k : Int) < 200 := by omega
            have hP := hT.below
            clear hT hl3
            go_wp2_with fail
            go_ret
            exact ⟨rfl, hP⟩
          · have hkli : ¬(k : Int) < (l.length : Int) := by omega
            have hP := hT.below
            clear hT hl3
            go_wp2_with fail
            go_ret
            exact ⟨rfl, hP⟩
end Go.Proofs.Ytdlokmlcdlcfaaa

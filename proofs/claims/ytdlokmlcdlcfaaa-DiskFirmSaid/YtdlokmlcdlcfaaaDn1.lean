/- hairlinelaw20: DiskFirm, walked (one of four cases). -/
import Derived.Test.YtdlokmlcdlcfaaaDm
set_option linter.unusedVariables false
set_option linter.unusedSimpArgs false
namespace Go.Proofs.Ytdlokmlcdlcfaaa
open Go.RowKit Go.MapKept
set_option maxRecDepth 100000 in
set_option maxHeartbeats 8000000 in
theorem firm_1 (w : World) (v v' : Value) (l l' : List OpD) (hv : Ops w v l) (hv' : Ops w v' l') (hx : l.length ≤ 100) (hy : 60 < l'.length) (kv : Value) (ks : List Bool) (hks : Sl w kv (ks.map Value.bool)) (hkl : ks.length ≤ 140737488351232) (nb : Bool) :
    Calls Try.prog 4 #[v, v', kv, .bool nb] w fun e w' => e = .returned (.bool true) ∧ Below w.heap.size w w' := by
  obtain ⟨A, c, rfl, hl2, hl3⟩ := hv
  obtain ⟨A', c', rfl, hl2', hl3'⟩ := hv'
  go_enter Try.func4, Try.ntmps4
  go_wp2_with (go_at_call 9; refine (shown_calls _).mono ?_; rintro e w1 ⟨rfl, hB1⟩)
  refine (new_calls w1 8 ⟨by decide, by decide⟩).mono ?_
  rintro e w2 ⟨rfl, hD2, hB2⟩
  go_wp2_with fail
  refine (rnew_calls w2 8 ⟨by decide, by decide⟩).mono ?_
  rintro e w3 ⟨rfl, hR3, hB3⟩
  have h3 := two_new hB1 hD2 hB2 hR3 hB3
  obtain ⟨D, hD⟩ : ∃ D, w1.heap.size + 1 = D := ⟨_, rfl⟩
  obtain ⟨R, hR⟩ : ∃ R, w2.heap.size = R := ⟨_, rfl⟩
  rw [hD, hR] at h3 ⊢
  clear hD2 hR3 hD hR
  go_wp2_with fail
  go_loopw [12] (fun i wr => ∃ (k : Nat) (F G : Nat → Prop) (d : DS), k ≤ 100 ∧ k ≤ l.length ∧ i = .int .i64 (k : Int) ∧ Two w wr D R F G d d ∧ d.n = 8 ∧ d.loose.length ≤ k ∧ d.keep.length ≤ 140737488351232) (fun i _ => 100 - (intOf i).toNat)
  case atStart => exact ⟨0, _, _, _, by omega, Nat.zero_le _, rfl, h3, rfl, Nat.zero_le _, Nat.zero_le _⟩
  case round =>
    clear h3
    obtain ⟨k, F, G, d, hk2, hkl, rfl, hT, hdn, hll, hkp⟩ := hrel
    have hk0 : (0 : Int) ≤ (k : Int) := by omega
    have hk2i : (k : Int) ≤ 100 := by omega
    by_cases hk1 : k < l.length ∧ k < 100
    · obtain ⟨ho, b, p, sv, kv', rfl, hbl, hsv, hkv, c0, c1, c2, c3⟩ := hl3 k _ (List.getElem?_eq_getElem hk1.1)
      obtain ⟨o, hoo⟩ : ∃ o, l[k] = o := ⟨_, rfl⟩
      rw [hoo] at ho hsv hkv c0 c1
      have hkli : (k : Int) < (l.length : Int) := by omega
      have hk2j : (k : Int) < 100 := by omega
      have bc : ∀ q, wr.cell? ⟨b, q, none⟩ = w.cell? ⟨b, q, none⟩ := fun q => hT.below.cell (p := ⟨b, q, none⟩) hbl
      have c0 := (bc _).trans c0
      have c1 := (bc _).trans c1
      have c2 := (bc _).trans c2
      have c3 := (bc _).trans c3
      clear bc
      have hdc := does_calls hT ⟨by omega, by omega⟩ o sv kv' hsv hkv ho.n ho.s ho.keep
      have hft := does_fit d ho hkp
      rw [hdn] at hft
      go_wp2_with fail
      refine hdc.mono ?_
      rintro e w4 ⟨rfl, F1, G1, hT4⟩
      clear hdc c0 c1 c2 c3 hT
      obtain ⟨d1, hd1⟩ : ∃ d1, d.does o = d1 := ⟨_, rfl⟩
      rw [hd1] at hT4 hft
      replace hft : d1.keep.length ≤ 140737488351232 ∧ d1.loose.length ≤ k + 1 ∧ d1.n = 8 := ⟨hft.1, by omega, hft.2.2⟩
      clear hd1 hdn hll hkp hoo d
      obtain ⟨hkp, hll, hdn⟩ := hft
      go_wp2_with fail
      exact ⟨⟨k + 1, F1, G1, d1, by omega, by omega, rfl, hT4, hdn, hll, hkp⟩, by simp only [intOf]; omega⟩
    · have hO : Own w wr D F d := ⟨hT.disk, hT.geF, hT.below⟩
      clear hT
      have hkli : ¬(k : Int) < (l.length : Int) := by omega
      clear hl3
      go_wp2_with fail
      refine (own_start hO).mono ?_
      rintro e w4 ⟨rfl, F1, h1, -, -⟩
      go_wp2_with fail
      refine (own_arm h1 0 (by decide) _ [] (Sl.nil _) (by decide)).mono ?_
      rintro e w5 ⟨rfl, F2, h2, -, -⟩
      go_wp2_with fail
      refine (own_barrier h2 ⟨show d.loose.length ≤ 1000000 by omega, by show (0 : Nat) ≤ _; omega⟩).mono ?_
      rintro e w6 ⟨rfl, F3, h3, -, -⟩
      rw [dsE_start d hdn] at h3
      obtain ⟨f, hf⟩ : ∃ f, DS.put d.firm d.loose = f := ⟨_, rfl⟩
      rw [hf] at h3
      clear hO h1 h2 hf hdn hll hkp
      go_wp2_with (with_reducible refine al_big (t := 38) _ (zero8s _) ?_; intro W1 Wb hWs hWb hBl hsz)
      have hWF : ¬F3 Wb := fun hf => by have := h3.disk.lt Wb hf; omega
      have hWg : w.heap.size ≤ Wb := by have := h3.below.size; omega
      have hO4 : Own w W1 D F3 (dsE f []) := h3.over hBl
      have hWb : W1.heap[Wb]? = some (.cells (wasr f 0).toArray 38) := hWb
      go_loopw [14] (fun i wr => ∃ k : Nat, k ≤ 8 ∧ i = .int .i64 (k : Int) ∧ Own w wr D F3 (dsE f []) ∧ wr.heap[Wb]? = some (.cells (wasr f k).toArray 38)) (fun i _ => 8 - (intOf i).toNat)
      case atStart => exact ⟨0, by omega, rfl, hO4, hWb⟩
      case round =>
        clear hWb hO4 h3
        obtain ⟨k, hk8, rfl, hO, hWk⟩ := hrel
        have hk0 : (0 : Int) ≤ (k : Int) := by omega
        have hk8i : (k : Int) ≤ 8 := by omega
        by_cases hk : k < 8
        · have hki : (k : Int) < 8 := by omega
          have ha : (dsE f []).at_ (k : Int) = 0 := by rw [dsE_at, if_neg (by omega)]
          have hrd := read_ok hO.disk (Nat.zero_le _) k ha
          go_wp2_with fail
          refine hrd.mono ?_
          rintro e w7 ⟨rv, rfl, hrv, ⟨rA, rm, rc, rfl⟩, -, hB⟩
          clear hrd
          have hWl : Wb < wr.heap.size := (Array.getElem?_eq_some_iff.1 hWk).1
          have hO7 := hO.over hB
          have hW7 := (hB.block Wb hWl).trans hWk
          have hcv : (convert 30 9 (.slice rA rm rc)).run Try.prog w7 = .ok (.string (bstr (f (k : Int)))) w7 := conv_any (P := Try.prog) w7 30 5 Try.underlying30 Try.underlying5 _ _ hrv _ Try.underlying9
          obtain ⟨u, hu⟩ := wasr_some f k hk
          have c1 : w7.cell? ⟨Wb, k, none⟩ = some u := by rw [cell_of_row w7 Wb k _ _ _ hW7]; simpa using hu
          have z1 := frozen_row hW7 k
          have hO8 : Own w (w7.setCell ⟨Wb, k, none⟩ (.string (bstr (f (k : Int))))) D F3 (dsE f []) := hO7.aside (H := fun j => j = Wb) (only_set.chg rfl) fun j hj => by subst hj; exact ⟨hWF, hWg⟩
          have hW8 := box_set (o := k) (v := .string (bstr (f (k : Int)))) hW7
          rw [List.setIfInBounds_toArray, wasr_set f hk] at hW8
          clear hrv hO7 hW7 hO hWk hu
          go_wp2_with fail
          exact ⟨⟨k + 1, by omega, rfl, hO8, hW8⟩, by simp only [intOf]; omega⟩
        · have hki : ¬(k : Int) < 8 := by omega
          obtain rfl : k = 8 := by omega
          go_wp2_with (with_reducible refine al_big (t := 42) _ (zero8r _) ?_; intro W9 Mb hMs hMb hBm hsm)
          have hR0 : Rows8 w W9 Mb (fun q => F3 q ∨ q = Wb) (fun _ => .slice none 0 0) [] := rows8_start hMb (fun h => h.elim (fun h => by have := hO.disk.lt Mb h; omega) fun h => by have := (Array.getElem?_eq_some_iff.1 hWk).1; omega) (by have := hO.below.size; omega)
          have hW9 := (hBm.block Wb (Array.getElem?_eq_some_iff.1 hWk).1).trans hWk
          have hO9 := hO.over hBm
          clear hO hWk hMb
          go_loopw [18] (fun i wr => ∃ (k : Nat) (F : Nat → Prop) (L : List (Int × Sec)) (mv : Nat → Value), k ≤ 60 ∧ k ≤ l'.length ∧ i = .int .i64 (k : Int) ∧ Own w wr D F (dsE f L) ∧ wr.heap[Wb]? = some (.cells (wasr f 8).toArray 38) ∧ Rows8 w wr Mb (fun q => F q ∨ q = Wb) mv L ∧ L.length ≤ k ∧ ¬F Wb) (fun i _ => 60 - (intOf i).toNat)
          case atStart => exact ⟨0, F3, [], _, by omega, Nat.zero_le _, rfl, hO9, hW9, hR0, Nat.zero_le _, hWF⟩
          case round =>
            clear hO9 hW9 hR0 hWF
            obtain ⟨k, F, L, mv, hk6, hkl, rfl, hO, hWk, hR, hLl, hWF⟩ := hrel
            have hk0 : (0 : Int) ≤ (k : Int) := by omega
            have hk6i : (k : Int) ≤ 60 := by omega
            by_cases hk1 : k < l'.length ∧ k < 60
            · obtain ⟨ho, b, p, sv, kv2, rfl, hbl, hsv, -, -, c1, c2, -⟩ := hl3' k _ (List.getElem?_eq_getElem hk1.1)
              obtain ⟨o, hoo⟩ : ∃ o, l'[k] = o := ⟨_, rfl⟩
              rw [hoo] at ho hsv c1
              clear hoo
              have hkli : (k : Int) < (l'.length : Int) := by omega
              have hk6j : (k : Int) < 60 := by omega
              have hOd := hO.over ((Below.refl _ wr).drew)
              have hRd := hR.below ((Below.refl _ wr).drew)
              have hWd : wr.drew.heap[Wb]? = some (.cells (wasr f 8).toArray 38) := hWk
              have b1 : ∀ {W F d}, Own w W D F d → W.cell? ⟨b, p + k * 4 + 1, none⟩ = some (.int .i64 o.n) := fun h => (h.below.cell (p := ⟨b, p + k * 4 + 1, none⟩) hbl).trans c1
              have b2 : ∀ {W F d}, Own w W D F d → W.cell? ⟨b, p + k * 4 + 2, none⟩ = some sv := fun h => (h.below.cell (p := ⟨b, p + k * 4 + 2, none⟩) hbl).trans c2
              have hsv' : Sl wr.drew sv (cel o.s) := hsv.of hOd.below.size fun h0 b hb => hOd.below.block b (sl_old hsv h0 b hb)
              have hwr := write_calls hOd.disk (show (dsE f L).loose.length ≤ 1000000 by show L.length ≤ _; omega) (Nat.zero_le _) o.n sv o.s hsv' (fun h0 b hb hf => by have := hOd.ge b hf; have := sl_old hsv (by rw [cel_length]; exact h0) b hb; omega) (by have := ho.s; omega)
              obtain ⟨sA, sn, sc, rfl⟩ : ∃ A n c, sv = .slice A n c := by
                obtain ⟨A, c, e, -⟩ := hsv
                exact ⟨_, _, _, e⟩
              have d1 := b1 hO
              have d2 := b2 hO
              rcases dsE_write f L o.n o.s with ⟨e1, e2⟩ | ⟨h0, h8, hs5, e1, e2⟩
              · rw [e1, e2] at hwr
                clear hsv hsv' c1 c2 e1 e2
                go_wp2_with fail
                go_region_held3 (fun w' => w'.cell? ⟨b, p + k * 4 + 1, none⟩ = some (.int .i64 o.n) ∧ w'.cell? ⟨b, p + k * 4 + 2, none⟩ = some (.slice sA sn sc)) (first | exact ⟨d1, d2⟩ | exact ⟨n1, n2⟩) (first | (go_at_call 13; refine hwr.mono ?_; rintro e w5 ⟨rfl, hL⟩; have n1 := b1 (hOd.step hL); have n2 := b2 (hOd.step hL)))
                have hO5 : Own w w5 D (Grow F wr.drew w5) (dsE f L) := hOd.step hL
                have hWl := (Array.getElem?_eq_some_iff.1 hWd).1
                have hWF5 : ¬Grow F wr.drew w5 Wb := fun h => h.elim hWF fun h => by omega
                have hW5 := (hL.2.block Wb (Array.getElem?_eq_some_iff.1 hWd).1 hWF).trans hWd
                go_wp2_with fail
                exact ⟨⟨k + 1, _, L, mv, by omega, by omega, rfl, hO5, hW5, hRd.of (hL.2.mono fun _ _ h => .inl h) (fun q h => h.elim (fun h => h.elim (fun h => .inl (.inl h)) fun h => .inr h.1) fun h => .inl (.inr h)), by omega, hWF5⟩, by simp only [intOf]; omega⟩
              · rw [e1, e2] at hwr
                obtain ⟨N, hN⟩ : ∃ N : Nat, o.n = (N : Int) := ⟨o.n.toNat, by omega⟩
                rw [hN] at hwr d1 b1 h8
                have hN8 : N < 8 := by omega
                have hNi : (N : Int) < 8 := by omega
                have hN0 : (0 : Int) ≤ (N : Int) := by omega
                clear hsv hsv' c1 c2 e1 e2
                go_wp2_with fail
                go_region_held3 (fun w' => w'.cell? ⟨b, p + k * 4 + 1, none⟩ = some (.int .i64 (N : Int)) ∧ w'.cell? ⟨b, p + k * 4 + 2, none⟩ = some (.slice sA sn sc)) (first | exact ⟨d1, d2⟩ | exact ⟨n1, n2⟩) (first | (go_at_call 13; refine hwr.mono ?_; rintro e w5 ⟨rfl, hL⟩; have n1 := b1 (hOd.step hL); have n2 := b2 (hOd.step hL)))
                have hO5 : Own w w5 D (Grow F wr.drew w5) (dsE f (L ++ [((N : Int), pad o.s)])) := hOd.step hL
                have hWl := (Array.getElem?_eq_some_iff.1 hWd).1
                have hWF5 : ¬Grow F wr.drew w5 Wb := fun h => h.elim hWF fun h => by omega
                have hW5 := (hL.2.block Wb (Array.getElem?_eq_some_iff.1 hWd).1 hWF).trans hWd
                have hR5 : Rows8 w w5 Mb (fun q => Grow F wr.drew w5 q ∨ q = Wb) mv L := hRd.of (hL.2.mono fun _ _ h => .inl h) (fun q h => h.elim (fun h => h.elim (fun h => .inl (.inl h)) fun h => .inr h.1) fun h => .inl (.inr h))
                have n1 := b1 hO5
                have ha : (dsE f (L ++ [((N : Int), pad o.s)])).at_ (N : Int) = 0 := by rw [dsE_at, if_neg (by omega)]
                have hrd := read_ok hO5.disk (show (L ++ [((N : Int), pad o.s)]).length ≤ 1000000 by rw [List.length_append]; show L.length + 1 ≤ _; omega) N ha
                have hlk : (dsE f (L ++ [((N : Int), pad o.s)])).look (N : Int) = pad o.s := by
                  show DS.put f (L ++ [((N : Int), pad o.s)]) (N : Int) = _
                  rw [DS.put_snoc, if_pos rfl]
                rw [hlk] at hrd
                go_wp2_with fail
                refine hrd.mono ?_
                rintro e w6 ⟨rv, rfl, hrv, ⟨rA, rm, rc, rfl⟩, -, hB⟩
                clear hrd hlk ha
                have hO6 := hO5.over hB
                have hR6 := hR5.below hB
                have hWl5 : Wb < w5.heap.size := Nat.lt_of_lt_of_le hWl hL.2.size
                have hW6 := (hB.block Wb hWl5).trans hW5
                have hWl6 : Wb < w6.heap.size := Nat.lt_of_lt_of_le hWl5 hB.size
                have m1 := b1 hO6
                have hcv : (convert 30 9 (.slice rA rm rc)).run Try.prog w6.drew = .ok (.string (bstr (pad o.s))) w6.drew := conv_any (P := Try.prog) w6.drew 30 5 Try.underlying30 Try.underlying5 _ _ (hrv.of (Nat.le_refl _) fun _ _ _ => rfl) _ Try.underlying9
                have k1 : w6.cell? ⟨Mb, N, none⟩ = some (mv N) := hR6.cell hN8
                have hfr := frozen_row hR6.box N
                have hMl : Mb < w6.heap.size := (Array.getElem?_eq_some_iff.1 hR6.box).1
                have hbl6 : b < w6.heap.size := Nat.lt_of_lt_of_le hbl hO6.below.size
                have hB3 : Below w6.heap.size w6 (w6.drew.alloc (.cells #[.string (bstr (pad o.s))] 9)) := ((Below.refl _ w6).drew).alloc (Nat.le_refl _) _
                have n3 : (w6.drew.alloc (.cells #[.string (bstr (pad o.s))] 9)).cell? ⟨Mb, N, none⟩ = some (mv N) := (hB3.cell (p := ⟨Mb, N, none⟩) hMl).trans k1
                have m3 : (w6.drew.alloc (.cells #[.string (bstr (pad o.s))] 9)).cell? ⟨b, p + k * 4 + 1, none⟩ = some (.int .i64 (N : Int)) := (hB3.cell (p := ⟨b, p + k * 4 + 1, none⟩) hbl6).trans m1
                have hoB : (w6.drew.alloc (.cells #[.string (bstr (pad o.s))] 9)).ownsRow 0 9 1 (mv N) (mrow L N).length (mrow L N) := ownsRow_of (hR6.row N hN8) fun b hb => hB3.block b (hR6.at_ N b hN8 hb).2.2.2
                have hml := mrow_len L N
                have hrow1 : some Mb ≠ (mv N).ownBlock := fun e => (hR6.at_ N Mb hN8 e.symm).2.1 rfl
                have hrow2 : some b ≠ (mv N).ownBlock := fun e => by have := (hR6.at_ N b hN8 e.symm).2.2.1; omega
                have hbM : Mb ≠ b := by have := hR6.ge; omega
                obtain ⟨i0, hi, hz0, hz1, hz2⟩ := info_parts infs
                clear hrv
                go_wp2_with fail
                refine wp_region_noPanic ?_
                refine wp_region_held_drew (S := fun w' => w'.cell? ⟨b, p + k * 4 + 1, none⟩ = some (.int .i64 (N : Int))) (by kernel_rfl) m1 (fun hHeld => ?_)
                refine wpAnyH_take (i := 0) (oi := ⟨_, _, _, _, _, _⟩) (v := .slice (some ⟨b, p, none⟩) l'.length c') rfl (by kernel_rfl) (by kernel_rfl) (by kernel_rfl) (fun _ _ _ h => h) (Or.inl ⟨by rfl, ?_⟩) (by assumption) ?_
                · intro w' hS
                  go_simp
                try simp only [Act.put, List.setIfInBounds_toArray, List.set_cons_zero, List.set_cons_succ]
                refine wpAnyH_take (i := 1) (oi := ⟨_, _, _, _, _, _⟩) (v := .int .i64 (k : Int)) rfl (by kernel_rfl) (by kernel_rfl) (by kernel_rfl) (fun _ _ _ h => h) (Or.inl ⟨by rfl, ?_⟩) (by assumption) ?_
                · intro w' hS
                  go_simp
                try simp only [Act.put, List.setIfInBounds_toArray, List.set_cons_zero, List.set_cons_succ]
                refine wpAnyH_take (i := 2) (oi := ⟨_, _, _, _, _, _⟩) (v := .pointer (some ⟨b, p + k * 4, none⟩)) rfl (by kernel_rfl) (by kernel_rfl) (by kernel_rfl) (fun _ _ _ h => h) (Or.inl ⟨by rfl, ?_⟩) (by assumption) ?_
                · intro w' hS
                  go_simp
                try simp only [Act.put, List.setIfInBounds_toArray, List.set_cons_zero, List.set_cons_succ]
                refine wpAnyH_take (i := 3) (oi := ⟨_, _, _, _, _, _⟩) (v := .pointer (some ⟨b, p + k * 4 + 1, none⟩)) rfl (by kernel_rfl) (by kernel_rfl) (by kernel_rfl) (fun _ _ _ h => h) (Or.inl ⟨by rfl, ?_⟩) (by assumption) ?_
                · intro w' hS
                  go_simp
                try simp only [Act.put, List.setIfInBounds_toArray, List.set_cons_zero, List.set_cons_succ]
                refine wpAnyH_take (i := 4) (oi := ⟨_, _, _, _, _, _⟩) (v := .int .i64 (N : Int)) rfl (by kernel_rfl) (by kernel_rfl) (by kernel_rfl) (fun _ _ _ h => h) (Or.inl ⟨by rfl, ?_⟩) (by assumption) ?_
                · intro w' hS
                  go_simp
                try simp only [Act.put, List.setIfInBounds_toArray, List.set_cons_zero, List.set_cons_succ]
                refine wpAnyH_take (i := 5) (oi := ⟨_, _, _, _, _, _⟩) (v := .slice (some ⟨b, p, none⟩) l'.length c') rfl (by kernel_rfl) (by kernel_rfl) (by kernel_rfl) (fun _ _ _ h => h) (Or.inl ⟨by rfl, ?_⟩) (by assumption) ?_
                · intro w' hS
                  go_simp
                try simp only [Act.put, List.setIfInBounds_toArray, List.set_cons_zero, List.set_cons_succ]
                refine wpAnyH_take (i := 6) (oi := ⟨_, _, _, _, _, _⟩) (v := .int .i64 (k : Int)) rfl (by kernel_rfl) (by kernel_rfl) (by kernel_rfl) (fun _ _ _ h => h) (Or.inl ⟨by rfl, ?_⟩) (by assumption) ?_
                · intro w' hS
                  go_simp
                try simp only [Act.put, List.setIfInBounds_toArray, List.set_cons_zero, List.set_cons_succ]
                refine wpAnyH_take (i := 7) (oi := ⟨_, _, _, _, _, _⟩) (v := .pointer (some ⟨b, p + k * 4, none⟩)) rfl (by kernel_rfl) (by kernel_rfl) (by kernel_rfl) (fun _ _ _ h => h) (Or.inl ⟨by rfl, ?_⟩) (by assumption) ?_
                · intro w' hS
                  go_simp
                try simp only [Act.put, List.setIfInBounds_toArray, List.set_cons_zero, List.set_cons_succ]
                refine wpAnyH_take (i := 8) (oi := ⟨_, _, _, _, _, _⟩) (v := .pointer (some ⟨b, p + k * 4 + 1, none⟩)) rfl (by kernel_rfl) (by kernel_rfl) (by kernel_rfl) (fun _ _ _ h => h) (Or.inl ⟨by rfl, ?_⟩) (by assumption) ?_
                · intro w' hS
                  go_simp
                try simp only [Act.put, List.setIfInBounds_toArray, List.set_cons_zero, List.set_cons_succ]
                refine wpAnyH_take (i := 9) (oi := ⟨_, _, _, _, _, _⟩) (v := .int .i64 (N : Int)) rfl (by kernel_rfl) (by kernel_rfl) (by kernel_rfl) (fun _ _ _ h => h) (Or.inl ⟨by rfl, ?_⟩) (by assumption) ?_
                · intro w' hS
                  go_simp
                try simp only [Act.put, List.setIfInBounds_toArray, List.set_cons_zero, List.set_cons_succ]
                refine wpAnyH_take (i := 10) (oi := ⟨_, _, _, _, _, _⟩) (v := .pointer (some ⟨Mb, N, none⟩)) rfl (by kernel_rfl) (by kernel_rfl) (by kernel_rfl) (fun _ _ _ h => h) (Or.inl ⟨by rfl, ?_⟩) (by assumption) ?_
                · intro w' hS
                  go_simp
                try simp only [Act.put, List.setIfInBounds_toArray, List.set_cons_zero, List.set_cons_succ]
                refine wpAnyH_take (i := 12) (oi := ⟨_, _, _, _, _, _⟩) (v := .slice rA rm rc) rfl (by kernel_rfl) (by kernel_rfl) (by kernel_rfl) (fun _ _ _ h => h) (Or.inl ⟨by rfl, ?_⟩) (by assumption) ?_
                · intro w' hS
                  go_simp
                try simp only [Act.put, List.setIfInBounds_toArray, List.set_cons_zero, List.set_cons_succ]
                refine wpAnyH_ready (rs := [11, 13]) (by kernel_rfl) (by simp) ?_
                refine AllReadyH.cons (o := ⟨_, _, _, _, _, _⟩) rfl (fun K hK => ?_) (AllReadyH.cons (o := ⟨_, _, _, _, _, _⟩) rfl (fun K hK => ?_) AllReadyH.nil)
                · go_simp
                  refine hK.out _ _ (by first | exact m1 | exact m3) (fun hHeld => ?_)
                  clear hK K
                  try simp only [Act.put, List.setIfInBounds_toArray, List.set_cons_zero, List.set_cons_succ]
                  refine wpAnyH_ready (rs := [13]) (by kernel_rfl) (by simp) ?_
                  refine AllReadyH.cons (o := ⟨_, _, _, _, _, _⟩) rfl (fun K hK => ?_) AllReadyH.nil
                  go_simp
                  refine hK.out _ _ m1 (fun hHeld => ?_)
                  clear hK K
                  try simp only [Act.put, List.setIfInBounds_toArray, List.set_cons_zero, List.set_cons_succ]
                  refine wpAnyH_ready (rs := [14]) (by kernel_rfl) (by simp) ?_
                  refine AllReadyH.cons (o := ⟨_, _, _, _, _, _⟩) rfl (fun K hK => ?_) AllReadyH.nil
                  go_simp
                  refine hK.out _ _ m3 (fun hHeld => ?_)
                  clear hK K
                  try simp only [Act.put, List.setIfInBounds_toArray, List.set_cons_zero, List.set_cons_succ]
                  refine wpAnyH_ready (rs := [15]) (by kernel_rfl) (by simp) ?_
                  refine AllReadyH.cons (o := ⟨_, _, _, _, _, _⟩) rfl (fun K hK => ?_) AllReadyH.nil
                  refine step_append_lies _ (by rfl) _ _ _ (by rfl) 0 9 i0 (.string ⟨#[]⟩) 1 16 Try.underlying41 hi hz0 hz1 hz2 rfl (by decide) (mv N) (mrow L N).length (mrow L N) (by rfl) hoB ⟨w6.heap.size, 0, none⟩ 1 1 [.string (bstr (pad o.s))] (by rfl) rfl (World.news_of_block (heap_alloc_new w6.drew _)) (by intro u hu; obtain rfl : u = _ := List.mem_singleton.1 hu; rfl) (by decide) (by simp only [maxLen]; omega) (by omega) (Nat.zero_le _) _ rfl ?_
                  intro g cap w8 hown hgrow hat2 hlt2
                  have p0 : w8.cell? ⟨Mb, N, none⟩ = some (mv N) := (hgrow.cell_far ⟨Mb, N, none⟩ (Nat.lt_of_lt_of_le hMl hB3.size) hrow1).trans n3
                  have p1 : w8.frozen? ⟨Mb, N, none⟩ = false := (hgrow.frozen_far ⟨Mb, N, none⟩ (Nat.lt_of_lt_of_le hMl hB3.size) hrow1).trans ((World.frozen?_of_block (hB3.block Mb hMl)).trans hfr)
                  have p2 : w8.cell? ⟨b, p + k * 4 + 1, none⟩ = some (.int .i64 (N : Int)) := (hgrow.cell_far ⟨b, p + k * 4 + 1, none⟩ (Nat.lt_of_lt_of_le hbl6 hB3.size) hrow2).trans m3
                  refine hK.out _ _ p2 (fun hHeld => ?_)
                  clear hK K
                  try simp only [Act.put, List.setIfInBounds_toArray, List.set_cons_zero, List.set_cons_succ]
                  refine wpAnyH_ready (rs := [16]) (by kernel_rfl) (by simp) ?_
                  refine AllReadyH.cons (o := ⟨_, _, _, _, _, _⟩) rfl (fun K hK => ?_) AllReadyH.nil
                  go_simp
                  refine hK.out _ _ p2 (fun hHeld => ?_)
                  clear hK K
                  try simp only [Act.put, List.setIfInBounds_toArray, List.set_cons_zero, List.set_cons_succ]
                  refine wpAnyH_ready (rs := [17]) (by kernel_rfl) (by simp) ?_
                  refine AllReadyH.cons (o := ⟨_, _, _, _, _, _⟩) rfl (fun K hK => ?_) AllReadyH.nil
                  go_simp
                  refine hK.out _ _ ((World.cell?_setCell_far _ ⟨Mb, N, none⟩ ⟨b, p + k * 4 + 1, none⟩ _ hbM).trans p2) (fun hHeld => ?_)
                  clear hK K
                  try simp only [Act.put, List.setIfInBounds_toArray, List.set_cons_zero, List.set_cons_succ]
                  refine wpAnyH_done (by kernel_rfl) ?_ _
                  have hs3 := hB3.size
                  have hat3 : (mv N).ownBlock = some g ∨ w6.heap.size ≤ g := hat2.elim .inl fun e => .inr (by rw [e]; exact hs3)
                  obtain ⟨hR8, hC8⟩ := Rows8.add hR6 hN8 (pad o.s) (fun q hq => hq.elim (hO6.disk.lt q) fun e => by rw [e]; exact hWl6) hO6.below.size hB3 hown hgrow hat3 hlt2
                  have hH : ∀ q, (q = Mb ∨ (mv N).ownBlock = some q) → ¬(Grow F wr.drew w5 q ∨ q = Wb) ∧ w.heap.size ≤ q := fun q hq => by
                    rcases hq with rfl | hq
                    · exact ⟨hR6.nF, hR6.ge⟩
                    · exact ⟨(hR6.at_ N q hN8 hq).1, (hR6.at_ N q hN8 hq).2.2.1⟩
                  have hO8 := hO6.aside hC8 fun q hq => ⟨fun h => (hH q hq).1 (.inl h), (hH q hq).2⟩
                  have hW8 := (hC8.block Wb hWl6 fun hq => (hH Wb hq).1 (.inr rfl)).trans hW6
                  refine NoPanic.normal ?_
                  go_wp2_with fail
                  exact ⟨⟨k + 1, _, _, _, by omega, by omega, rfl, hO8, hW8, hR8, by rw [List.length_append]; show L.length + 1 ≤ _; omega, hWF5⟩, by simp only [intOf]; omega⟩
                · go_simp
                  refine hK.out _ _ m1 (fun hHeld => ?_)
                  clear hK K
                  try simp only [Act.put, List.setIfInBounds_toArray, List.set_cons_zero, List.set_cons_succ]
                  refine wpAnyH_ready (rs := [11, 14]) (by kernel_rfl) (by simp) ?_
                  refine AllReadyH.cons (o := ⟨_, _, _, _, _, _⟩) rfl (fun K hK => ?_) (AllReadyH.cons (o := ⟨_, _, _, _, _, _⟩) rfl (fun K hK => ?_) AllReadyH.nil)
                  · go_simp
                    refine hK.out _ _ (by first | exact m1 | exact m3) (fun hHeld => ?_)
                    clear hK K
                    try simp only [Act.put, List.setIfInBounds_toArray, List.set_cons_zero, List.set_cons_succ]
                    refine wpAnyH_ready (rs := [14]) (by kernel_rfl) (by simp) ?_
                    refine AllReadyH.cons (o := ⟨_, _, _, _, _, _⟩) rfl (fun K hK => ?_) AllReadyH.nil
                    go_simp
                    refine hK.out _ _ m3 (fun hHeld => ?_)
                    clear hK K
                    try simp only [Act.put, List.setIfInBounds_toArray, List.set_cons_zero, List.set_cons_succ]
                    refine wpAnyH_ready (rs := [15]) (by kernel_rfl) (by simp) ?_
                    refine AllReadyH.cons (o := ⟨_, _, _, _, _, _⟩) rfl (fun K hK => ?_) AllReadyH.nil
                    refine step_append_lies _ (by rfl) _ _ _ (by rfl) 0 9 i0 (.string ⟨#[]⟩) 1 16 Try.underlying41 hi hz0 hz1 hz2 rfl (by decide) (mv N) (mrow L N).length (mrow L N) (by rfl) hoB ⟨w6.heap.size, 0, none⟩ 1 1 [.string (bstr (pad o.s))] (by rfl) rfl (World.news_of_block (heap_alloc_new w6.drew _)) (by intro u hu; obtain rfl : u = _ := List.mem_singleton.1 hu; rfl) (by decide) (by simp only [maxLen]; omega) (by omega) (Nat.zero_le _) _ rfl ?_
                    intro g cap w8 hown hgrow hat2 hlt2
                    have p0 : w8.cell? ⟨Mb, N, none⟩ = some (mv N) := (hgrow.cell_far ⟨Mb, N, none⟩ (Nat.lt_of_lt_of_le hMl hB3.size) hrow1).trans n3
                    have p1 : w8.frozen? ⟨Mb, N, none⟩ = false := (hgrow.frozen_far ⟨Mb, N, none⟩ (Nat.lt_of_lt_of_le hMl hB3.size) hrow1).trans ((World.frozen?_of_block (hB3.block Mb hMl)).trans hfr)
                    have p2 : w8.cell? ⟨b, p + k * 4 + 1, none⟩ = some (.int .i64 (N : Int)) := (hgrow.cell_far ⟨b, p + k * 4 + 1, none⟩ (Nat.lt_of_lt_of_le hbl6 hB3.size) hrow2).trans m3
                    refine hK.out _ _ p2 (fun hHeld => ?_)
                    clear hK K
                    try simp only [Act.put, List.setIfInBounds_toArray, List.set_cons_zero, List.set_cons_succ]
                    refine wpAnyH_ready (rs := [16]) (by kernel_rfl) (by simp) ?_
                    refine AllReadyH.cons (o := ⟨_, _, _, _, _, _⟩) rfl (fun K hK => ?_) AllReadyH.nil
                    go_simp
                    refine hK.out _ _ p2 (fun hHeld => ?_)
                    clear hK K
                    try simp only [Act.put, List.setIfInBounds_toArray, List.set_cons_zero, List.set_cons_succ]
                    refine wpAnyH_ready (rs := [17]) (by kernel_rfl) (by simp) ?_
                    refine AllReadyH.cons (o := ⟨_, _, _, _, _, _⟩) rfl (fun K hK => ?_) AllReadyH.nil
                    go_simp
                    refine hK.out _ _ ((World.cell?_setCell_far _ ⟨Mb, N, none⟩ ⟨b, p + k * 4 + 1, none⟩ _ hbM).trans p2) (fun hHeld => ?_)
                    clear hK K
                    try simp only [Act.put, List.setIfInBounds_toArray, List.set_cons_zero, List.set_cons_succ]
                    refine wpAnyH_done (by kernel_rfl) ?_ _
                    have hs3 := hB3.size
                    have hat3 : (mv N).ownBlock = some g ∨ w6.heap.size ≤ g := hat2.elim .inl fun e => .inr (by rw [e]; exact hs3)
                    obtain ⟨hR8, hC8⟩ := Rows8.add hR6 hN8 (pad o.s) (fun q hq => hq.elim (hO6.disk.lt q) fun e => by rw [e]; exact hWl6) hO6.below.size hB3 hown hgrow hat3 hlt2
                    have hH : ∀ q, (q = Mb ∨ (mv N).ownBlock = some q) → ¬(Grow F wr.drew w5 q ∨ q = Wb) ∧ w.heap.size ≤ q := fun q hq => by
                      rcases hq with rfl | hq
                      · exact ⟨hR6.nF, hR6.ge⟩
                      · exact ⟨(hR6.at_ N q hN8 hq).1, (hR6.at_ N q hN8 hq).2.2.1⟩
                    have hO8 := hO6.aside hC8 fun q hq => ⟨fun h => (hH q hq).1 (.inl h), (hH q hq).2⟩
                    have hW8 := (hC8.block Wb hWl6 fun hq => (hH Wb hq).1 (.inr rfl)).trans hW6
                    refine NoPanic.normal ?_
                    go_wp2_with fail
                    exact ⟨⟨k + 1, _, _, _, by omega, by omega, rfl, hO8, hW8, hR8, by rw [List.length_append]; show L.length + 1 ≤ _; omega, hWF5⟩, by simp only [intOf]; omega⟩
                  · go_simp
                    refine hK.out _ _ m3 (fun hHeld => ?_)
                    clear hK K
                    try simp only [Act.put, List.setIfInBounds_toArray, List.set_cons_zero, List.set_cons_succ]
                    refine wpAnyH_ready (rs := [11]) (by kernel_rfl) (by simp) ?_
                    refine AllReadyH.cons (o := ⟨_, _, _, _, _, _⟩) rfl (fun K hK => ?_) AllReadyH.nil
                    go_simp
                    refine hK.out _ _ (by first | exact m1 | exact m3) (fun hHeld => ?_)
                    clear hK K
                    try simp only [Act.put, List.setIfInBounds_toArray, List.set_cons_zero, List.set_cons_succ]
                    refine wpAnyH_ready (rs := [15]) (by kernel_rfl) (by simp) ?_
                    refine AllReadyH.cons (o := ⟨_, _, _, _, _, _⟩) rfl (fun K hK => ?_) AllReadyH.nil
                    refine step_append_lies _ (by rfl) _ _ _ (by rfl) 0 9 i0 (.string ⟨#[]⟩) 1 16 Try.underlying41 hi hz0 hz1 hz2 rfl (by decide) (mv N) (mrow L N).length (mrow L N) (by rfl) hoB ⟨w6.heap.size, 0, none⟩ 1 1 [.string (bstr (pad o.s))] (by rfl) rfl (World.news_of_block (heap_alloc_new w6.drew _)) (by intro u hu; obtain rfl : u = _ := List.mem_singleton.1 hu; rfl) (by decide) (by simp only [maxLen]; omega) (by omega) (Nat.zero_le _) _ rfl ?_
                    intro g cap w8 hown hgrow hat2 hlt2
                    have p0 : w8.cell? ⟨Mb, N, none⟩ = some (mv N) := (hgrow.cell_far ⟨Mb, N, none⟩ (Nat.lt_of_lt_of_le hMl hB3.size) hrow1).trans n3
                    have p1 : w8.frozen? ⟨Mb, N, none⟩ = false := (hgrow.frozen_far ⟨Mb, N, none⟩ (Nat.lt_of_lt_of_le hMl hB3.size) hrow1).trans ((World.frozen?_of_block (hB3.block Mb hMl)).trans hfr)
                    have p2 : w8.cell? ⟨b, p + k * 4 + 1, none⟩ = some (.int .i64 (N : Int)) := (hgrow.cell_far ⟨b, p + k * 4 + 1, none⟩ (Nat.lt_of_lt_of_le hbl6 hB3.size) hrow2).trans m3
                    refine hK.out _ _ p2 (fun hHeld => ?_)
                    clear hK K
                    try simp only [Act.put, List.setIfInBounds_toArray, List.set_cons_zero, List.set_cons_succ]
                    refine wpAnyH_ready (rs := [16]) (by kernel_rfl) (by simp) ?_
                    refine AllReadyH.cons (o := ⟨_, _, _, _, _, _⟩) rfl (fun K hK => ?_) AllReadyH.nil
                    go_simp
                    refine hK.out _ _ p2 (fun hHeld => ?_)
                    clear hK K
                    try simp only [Act.put, List.setIfInBounds_toArray, List.set_cons_zero, List.set_cons_succ]
                    refine wpAnyH_ready (rs := [17]) (by kernel_rfl) (by simp) ?_
                    refine AllReadyH.cons (o := ⟨_, _, _, _, _, _⟩) rfl (fun K hK => ?_) AllReadyH.nil
                    go_simp
                    refine hK.out _ _ ((World.cell?_setCell_far _ ⟨Mb, N, none⟩ ⟨b, p + k * 4 + 1, none⟩ _ hbM).trans p2) (fun hHeld => ?_)
                    clear hK K
                    try simp only [Act.put, List.setIfInBounds_toArray, List.set_cons_zero, List.set_cons_succ]
                    refine wpAnyH_done (by kernel_rfl) ?_ _
                    have hs3 := hB3.size
                    have hat3 : (mv N).ownBlock = some g ∨ w6.heap.size ≤ g := hat2.elim .inl fun e => .inr (by rw [e]; exact hs3)
                    obtain ⟨hR8, hC8⟩ := Rows8.add hR6 hN8 (pad o.s) (fun q hq => hq.elim (hO6.disk.lt q) fun e => by rw [e]; exact hWl6) hO6.below.size hB3 hown hgrow hat3 hlt2
                    have hH : ∀ q, (q = Mb ∨ (mv N).ownBlock = some q) → ¬(Grow F wr.drew w5 q ∨ q = Wb) ∧ w.heap.size ≤ q := fun q hq => by
                      rcases hq with rfl | hq
                      · exact ⟨hR6.nF, hR6.ge⟩
                      · exact ⟨(hR6.at_ N q hN8 hq).1, (hR6.at_ N q hN8 hq).2.2.1⟩
                    have hO8 := hO6.aside hC8 fun q hq => ⟨fun h => (hH q hq).1 (.inl h), (hH q hq).2⟩
                    have hW8 := (hC8.block Wb hWl6 fun hq => (hH Wb hq).1 (.inr rfl)).trans hW6
                    refine NoPanic.normal ?_
                    go_wp2_with fail
                    exact ⟨⟨k + 1, _, _, _, by omega, by omega, rfl, hO8, hW8, hR8, by rw [List.length_append]; show L.length + 1 ≤ _; omega, hWF5⟩, by simp only [intOf]; omega⟩
            · clear hl3'
              have hkli : (k : Int) < (l'.length : Int) := by omega
              have hk6j : ¬(k : Int) < 60 := by omega
              cases nb
              · have hlo : (dsE f L).loose.length ≤ 1000000 := by show L.length ≤ _; omega
                have hksw : Sl wr kv (ks.map Value.bool) := hks.of hO.below.size fun h0 b hb => hO.below.block b (sl_old hks h0 b hb)
                go_wp2_with fail
                refine (own_crash hO ⟨hlo, Nat.zero_le _⟩ _ ks hksw (by first | omega | decide)).mono ?_
                rintro e w10 ⟨rfl, F6, h6, hC6, hG6⟩
                have hWl := (Array.getElem?_eq_some_iff.1 hWk).1
                have hW6 := (hC6.block Wb hWl hWF).trans hWk
                have hWF6 : ¬F6 Wb := fun h => (hG6 Wb h).elim hWF fun h => by omega
                have hR6 := hR.of (G := fun q => F6 q ∨ q = Wb) (hC6.mono fun _ _ h => .inl h) (fun q h => h.elim (fun h => (hG6 q h).imp .inl id) fun h => .inl (.inr h))
                have ha6 : ((dsE f L).crash ks).at_ 0 = 6 := by rw [dsE_crash]; rfl
                have hrd := read_bad h6.disk 0 (by rw [ha6]; decide)
                rw [ha6] at hrd
                clear hO hWk hR
                go_wp2_with fail
                refine hrd.mono ?_
                rintro e w11 ⟨rfl, hB⟩
                clear hrd
                have hR7 := hR6.below hB
                have hWl6 : Wb < w10.heap.size := Nat.lt_of_lt_of_le hWl hC6.size
                have hW7 := (hB.block Wb hWl6).trans hW6
                have h7 := h6.over hB
                go_wp2_with fail
                refine (own_start h7).mono ?_
                rintro e w12 ⟨rfl, F7, h8, hC7, hG7⟩
                rw [dsE_back] at h8
                have hWl7 : Wb < w11.heap.size := Nat.lt_of_lt_of_le hWl6 hB.size
                have hW8 := (hC7.block Wb hWl7 hWF6).trans hW7
                have hR8 := hR7.of (G := fun q => F7 q ∨ q = Wb) (hC7.mono fun _ _ h => .inl h) (fun q h => h.elim (fun h => (hG7 q h).imp .inl id) fun h => .inl (.inr h))
                have hfa : ∀ i : Int, DS.put f (DS.kept L ks) i = f i ∨ (i, DS.put f (DS.kept L ks) i) ∈ L := by exact fun i => firm_after i
                obtain ⟨f', hf'⟩ : ∃ f', DS.put f (DS.kept L ks) = f' := ⟨_, rfl⟩
                rw [hf'] at h8 hfa
                clear hf' h6 h7 hW6 hW7 hR6 hR7 hWF6 hC6 hG6 hC7 hG7 ha6 hlo hksw
                have hlen : ∀ i, (f' i).length = 512 := h8.disk.ok.firm
                go_wp2_with fail
                go_loopw [24] (fun i wr => ∃ k : Nat, k ≤ 8 ∧ i = .int .i64 (k : Int) ∧ Own w wr D F7 (dsE f' []) ∧ wr.heap[Wb]? = some (.cells (wasr f 8).toArray 38) ∧ Rows8 w wr Mb (fun q => F7 q ∨ q = Wb) mv L) (fun i _ => 8 - (intOf i).toNat)
                case atStart => exact ⟨0, by omega, rfl, h8, hW8, hR8⟩
                case round =>
                  clear h8 hW8 hR8
                  obtain ⟨j, hj8, rfl, hO, hWk, hR⟩ := hrel
                  have hj0 : (0 : Int) ≤ (j : Int) := by omega
                  have hj8i : (j : Int) ≤ 8 := by omega
                  by_cases hj : j < 8
                  · have hji : (j : Int) < 8 := by omega
                    have ha : (dsE f' []).at_ (j : Int) = 0 := by rw [dsE_at, if_neg (by omega)]
                    have hrd := read_ok hO.disk (Nat.zero_le _) j ha
                    go_wp2_with fail
                    refine hrd.mono ?_
                    rintro e w13 ⟨rv, rfl, hrv, ⟨rA, rm, rc, rfl⟩, -, hB⟩
                    clear hrd
                    have hrm : rm = 512 := by
                      obtain ⟨A', c', e, -⟩ := hrv
                      injection e with e1 e2 e3
                      rw [e2, cel_length]
                      exact hlen _
                    subst hrm
                    have hO13 := (hO.over hB).over ((Below.refl _ w13).drew)
                    have hR13 := (hR.below hB).below ((Below.refl _ w13).drew)
                    have hW13 : w13.drew.heap[Wb]? = some (.cells (wasr f 8).toArray 38) := (hB.block Wb (Array.getElem?_eq_some_iff.1 hWk).1).trans hWk
                    have hcv : (convert 30 9 (.slice rA 512 rc)).run Try.prog w13.drew = .ok (.string (bstr (f' (j : Int)))) w13.drew := conv_any (P := Try.prog) w13.drew 30 5 Try.underlying30 Try.underlying5 _ _ (hrv.of (Nat.le_refl _) fun _ _ _ => rfl) _ Try.underlying9
                    have c1 : w13.cell? ⟨Wb, j, none⟩ = some (.string (bstr (f (j : Int)))) := by
                      have := cell_of_row w13.drew Wb j _ _ _ hW13
                      rw [List.getElem?_toArray, wasr_at f hj] at this
                      exact this
                    have hrvd : Sl w13.drew (.slice rA 512 rc) (cel ((dsE f' []).look (j : Int))) := hrv.of (Nat.le_refl _) fun _ _ _ => rfl
                    clear hO hWk hR hrv
                    go_wp2_with fail
                    go_region_held3 (fun w' => w' = w13.drew) (rfl) (fail)
                    obtain ⟨ok0, hok⟩ : ∃ ok0, ((bstr (f' (j : Int))).toList == (bstr (f (j : Int))).toList) = ok0 := ⟨_, rfl⟩
                    rw [hok]
                    have hst : ok0 = true ∨ ∃ p, 0 ≤ p ∧ (mrow L j)[p]? = some (.string (bstr (f' (j : Int)))) := by
                      rcases hfa (j : Int) with h | h
                      · rw [h] at hok
                        exact .inl (by rw [← hok]; simp)
                      · obtain ⟨p, hp⟩ := List.mem_iff_getElem?.1 (mrow_mem h)
                        exact .inr ⟨p, Nat.zero_le _, hp⟩
                    clear hok
                    clear hcv c1
                    go_wp2_with fail
                    go_loopw [27, 28] (fun a b wr => ∃ (q : Nat) (ok : Bool), q ≤ 60 ∧ a = .bool ok ∧ b = .int .i64 (q : Int) ∧ Below w13.drew.heap.size w13.drew wr ∧ (ok = true ∨ ∃ p, q ≤ p ∧ (mrow L j)[p]? = some (.string (bstr (f' (j : Int)))))) (fun _ b _ => 60 - (intOf b).toNat)
                    case atStart => exact ⟨0, _, Nat.zero_le _, rfl, rfl, Below.refl _ _, hst⟩
                    case round =>
                      obtain ⟨q, ok, hq6, rfl, rfl, hBr, hdis⟩ := hrel
                      have hRr := hR13.below hBr
                      have hOr := hO13.over hBr
                      have hWr := (hBr.block Wb (Array.getElem?_eq_some_iff.1 hW13).1).trans hW13
                      have hq0 : (0 : Int) ≤ (q : Int) := by omega
                      have hq6i : (q : Int) ≤ 60 := by omega
                      have hc := hRr.cell hj
                      have hrow := hRr.row j hj
                      obtain ⟨mA, mc, hmv⟩ := row_form hrow
                      rw [hmv] at hc hrow
                      have hml := mrow_len L j
                      by_cases hq : q < (mrow L j).length
                      · have hqi : (q : Int) < ((mrow L j).length : Int) := by omega
                        obtain ⟨u, hu⟩ : ∃ u, (mrow L j)[q]? = some u := ⟨_, List.getElem?_eq_getElem hq⟩
                        obtain ⟨s', rfl⟩ := mrow_str hu
                        obtain ⟨g, cap, hsl, -, -⟩ := hrow.form (by omega)
                        injection hsl with hmA hlen hmc
                        subst hmA hmc
                        have c2 : wr.cell? ⟨g, q, none⟩ = some (.string (bstr s')) := by
                          have := hrow.cells (g := g) rfl q _ hu
                          rwa [Addr.add_lit, Nat.zero_add] at this
                        have hcv : (convert 30 9 (.slice rA 512 rc)).run Try.prog wr.drew = .ok (.string (bstr (f' (j : Int)))) wr.drew := conv_any (P := Try.prog) wr.drew 30 5 Try.underlying30 Try.underlying5 _ _ (sl_below hrvd (hBr.drew)) _ Try.underlying9
                        have hBr2 := hBr.drew
                        cases ok
                        · have hdis2 := hdis.resolve_left (by simp)
                          clear hdis hrow hRr hOr hWr
                          go_wp2_with fail
                          go_region_held3 (fun w' => w' = wr.drew) (rfl) (fail)
                          go_wp2_with fail
                          refine ⟨⟨q + 1, _, by omega, rfl, rfl, hBr2, ?_⟩, by simp only [intOf]; omega⟩
                          obtain ⟨p, hp1, hp2⟩ := hdis2
                          by_cases hpq : p = q
                          · subst hpq
                            rw [hu] at hp2
                            injection hp2 with hp2
                            injection hp2 with hp2
                            rw [hp2]
                            exact .inl (by simp)
                          · exact .inr ⟨p, by omega, hp2⟩
                        · clear hdis hrow hRr hOr hWr
                          go_wp2_with fail
                          refine wp_region_held_drew (S := fun _ => True) (by kernel_rfl) trivial (fun hHeld => ?_)
                          refine wpAnyH_take (i := 0) (oi := ⟨_, _, _, _, _, _⟩) (v := .bool true) rfl (by kernel_rfl) (by kernel_rfl) (by kernel_rfl) (fun _ _ _ h => h) (Or.inl ⟨by rfl, ?_⟩) (by assumption) ?_
                          · intro w' hS
                            go_simp
                          try simp only [Act.put, List.setIfInBounds_toArray, List.set_cons_zero, List.set_cons_succ]
                          refine wpAnyH_take (i := 1) (oi := ⟨_, _, _, _, _, _⟩) (v := .bool true) rfl (by kernel_rfl) (by kernel_rfl) (by kernel_rfl) (fun _ _ _ h => h) (Or.inl ⟨by rfl, ?_⟩) (by assumption) ?_
                          · intro w' hS
                            go_simp
                          try simp only [Act.put, List.setIfInBounds_toArray, List.set_cons_zero, List.set_cons_succ]
                          refine wpAnyH_take (i := 2) (oi := ⟨_, _, _, _, _, _⟩) (v := undef) rfl (by kernel_rfl) (by kernel_rfl) (by kernel_rfl) (fun _ _ _ h => h) (Or.inr ⟨by rfl, rfl⟩) (by assumption) ?_
                          try simp only [Act.put, List.setIfInBounds_toArray, List.set_cons_zero, List.set_cons_succ]
                          refine wpAnyH_take (i := 3) (oi := ⟨_, _, _, _, _, _⟩) (v := undef) rfl (by kernel_rfl) (by kernel_rfl) (by kernel_rfl) (fun _ _ _ h => h) (Or.inr ⟨by rfl, rfl⟩) (by assumption) ?_
                          try simp only [Act.put, List.setIfInBounds_toArray, List.set_cons_zero, List.set_cons_succ]
                          refine wpAnyH_take (i := 4) (oi := ⟨_, _, _, _, _, _⟩) (v := undef) rfl (by kernel_rfl) (by kernel_rfl) (by kernel_rfl) (fun _ _ _ h => h) (Or.inr ⟨by rfl, rfl⟩) (by assumption) ?_
                          try simp only [Act.put, List.setIfInBounds_toArray, List.set_cons_zero, List.set_cons_succ]
                          refine wpAnyH_take (i := 5) (oi := ⟨_, _, _, _, _, _⟩) (v := undef) rfl (by kernel_rfl) (by kernel_rfl) (by kernel_rfl) (fun _ _ _ h => h) (Or.inr ⟨by rfl, rfl⟩) (by assumption) ?_
                          try simp only [Act.put, List.setIfInBounds_toArray, List.set_cons_zero, List.set_cons_succ]
                          refine wpAnyH_take (i := 6) (oi := ⟨_, _, _, _, _, _⟩) (v := undef) rfl (by kernel_rfl) (by kernel_rfl) (by kernel_rfl) (fun _ _ _ h => h) (Or.inr ⟨by rfl, rfl⟩) (by assumption) ?_
                          try simp only [Act.put, List.setIfInBounds_toArray, List.set_cons_zero, List.set_cons_succ]
                          refine wpAnyH_take (i := 7) (oi := ⟨_, _, _, _, _, _⟩) (v := undef) rfl (by kernel_rfl) (by kernel_rfl) (by kernel_rfl) (fun _ _ _ h => h) (Or.inr ⟨by rfl, rfl⟩) (by assumption) ?_
                          try simp only [Act.put, List.setIfInBounds_toArray, List.set_cons_zero, List.set_cons_succ]
                          refine wpAnyH_take (i := 8) (oi := ⟨_, _, _, _, _, _⟩) (v := undef) rfl (by kernel_rfl) (by kernel_rfl) (by kernel_rfl) (fun _ _ _ h => h) (Or.inr ⟨by rfl, rfl⟩) (by assumption) ?_
                          try simp only [Act.put, List.setIfInBounds_toArray, List.set_cons_zero, List.set_cons_succ]
                          refine wpAnyH_take (i := 9) (oi := ⟨_, _, _, _, _, _⟩) (v := undef) rfl (by kernel_rfl) (by kernel_rfl) (by kernel_rfl) (fun _ _ _ h => h) (Or.inr ⟨by rfl, rfl⟩) (by assumption) ?_
                          try simp only [Act.put, List.setIfInBounds_toArray, List.set_cons_zero, List.set_cons_succ]
                          refine wpAnyH_take (i := 10) (oi := ⟨_, _, _, _, _, _⟩) (v := undef) rfl (by kernel_rfl) (by kernel_rfl) (by kernel_rfl) (fun _ _ _ h => h) (Or.inr ⟨by rfl, rfl⟩) (by assumption) ?_
                          try simp only [Act.put, List.setIfInBounds_toArray, List.set_cons_zero, List.set_cons_succ]
                          refine wpAnyH_take (i := 11) (oi := ⟨_, _, _, _, _, _⟩) (v := .bool true) rfl (by kernel_rfl) (by kernel_rfl) (by kernel_rfl) (fun _ _ _ h => h) (Or.inl ⟨by rfl, ?_⟩) (by assumption) ?_
                          · intro w' hS
                            go_simp
                          try simp only [Act.put, List.setIfInBounds_toArray, List.set_cons_zero, List.set_cons_succ]
                          refine wpAnyH_ready (rs := [12]) (by kernel_rfl) (by simp) ?_
                          refine AllReadyH.cons (o := ⟨_, _, _, _, _, _⟩) rfl (fun K hK => ?_) AllReadyH.nil
                          go_simp
                          refine hK.out _ _ trivial (fun hHeld => ?_)
                          clear hK K
                          try simp only [Act.put, List.setIfInBounds_toArray, List.set_cons_zero, List.set_cons_succ]
                          refine wpAnyH_done (by kernel_rfl) ?_ _
                          go_wp2_with fail
                          exact ⟨⟨q + 1, true, by omega, rfl, rfl, hBr2, .inl rfl⟩, by simp only [intOf]; omega⟩
                      · have hqi : ¬(q : Int) < ((mrow L j).length : Int) := by omega
                        obtain rfl : ok = true := hdis.elim id fun ⟨p, hp1, hp2⟩ => absurd (List.getElem?_eq_some_iff.1 hp2).1 (by omega)
                        clear hrow
                        go_wp2_with fail
                        exact ⟨⟨j + 1, by omega, rfl, hOr, hWr, hRr⟩, by simp only [intOf]; omega⟩
                  · obtain rfl : j = 8 := by omega
                    have hlc := loose_calls hO.disk
                    have hP := hO.below
                    clear hO hWk hR
                    go_wp2_with fail
                    refine hlc.mono ?_
                    rintro e w20 ⟨rfl, e20⟩
                    subst e20
                    go_wp2_with fail
                    go_ret
                    exact ⟨rfl, hP⟩
              · have hlo : (dsE f L).loose.length ≤ 1000000 := by show L.length ≤ _; omega
                have hksw : Sl wr (.slice none 0 0) (([] : List Bool).map Value.bool) := Sl.nil _
                go_wp2_with fail
                refine (own_crash hO ⟨hlo, Nat.zero_le _⟩ _ ([] : List Bool) hksw (by first | omega | decide)).mono ?_
                rintro e w10 ⟨rfl, F6, h6, hC6, hG6⟩
                have hWl := (Array.getElem?_eq_some_iff.1 hWk).1
                have hW6 := (hC6.block Wb hWl hWF).trans hWk
                have hWF6 : ¬F6 Wb := fun h => (hG6 Wb h).elim hWF fun h => by omega
                have hR6 := hR.of (G := fun q => F6 q ∨ q = Wb) (hC6.mono fun _ _ h => .inl h) (fun q h => h.elim (fun h => (hG6 q h).imp .inl id) fun h => .inl (.inr h))
                have ha6 : ((dsE f L).crash ([] : List Bool)).at_ 0 = 6 := by rw [dsE_crash]; rfl
                have hrd := read_bad h6.disk 0 (by rw [ha6]; decide)
                rw [ha6] at hrd
                clear hO hWk hR
                go_wp2_with fail
                refine hrd.mono ?_
                rintro e w11 ⟨rfl, hB⟩
                clear hrd
                have hR7 := hR6.below hB
                have hWl6 : Wb < w10.heap.size := Nat.lt_of_lt_of_le hWl hC6.size
                have hW7 := (hB.block Wb hWl6).trans hW6
                have h7 := h6.over hB
                go_wp2_with fail
                refine (own_start h7).mono ?_
                rintro e w12 ⟨rfl, F7, h8, hC7, hG7⟩
                rw [dsE_back] at h8
                have hWl7 : Wb < w11.heap.size := Nat.lt_of_lt_of_le hWl6 hB.size
                have hW8 := (hC7.block Wb hWl7 hWF6).trans hW7
                have hR8 := hR7.of (G := fun q => F7 q ∨ q = Wb) (hC7.mono fun _ _ h => .inl h) (fun q h => h.elim (fun h => (hG7 q h).imp .inl id) fun h => .inl (.inr h))
                have hfa : ∀ i : Int, DS.put f (DS.kept L ([] : List Bool)) i = f i  := by intro i; rw [DS.kept_nil]; rfl
                obtain ⟨f', hf'⟩ : ∃ f', DS.put f (DS.kept L ([] : List Bool)) = f' := ⟨_, rfl⟩
                rw [hf'] at h8 hfa
                clear hf' h6 h7 hW6 hW7 hR6 hR7 hWF6 hC6 hG6 hC7 hG7 ha6 hlo hksw
                have hlen : ∀ i, (f' i).length = 512 := h8.disk.ok.firm
                go_wp2_with fail
                go_loopw [24] (fun i wr => ∃ k : Nat, k ≤ 8 ∧ i = .int .i64 (k : Int) ∧ Own w wr D F7 (dsE f' []) ∧ wr.heap[Wb]? = some (.cells (wasr f 8).toArray 38) ∧ Rows8 w wr Mb (fun q => F7 q ∨ q = Wb) mv L) (fun i _ => 8 - (intOf i).toNat)
                case atStart => exact ⟨0, by omega, rfl, h8, hW8, hR8⟩
                case round =>
                  clear h8 hW8 hR8
                  obtain ⟨j, hj8, rfl, hO, hWk, hR⟩ := hrel
                  have hj0 : (0 : Int) ≤ (j : Int) := by omega
                  have hj8i : (j : Int) ≤ 8 := by omega
                  by_cases hj : j < 8
                  · have hji : (j : Int) < 8 := by omega
                    have ha : (dsE f' []).at_ (j : Int) = 0 := by rw [dsE_at, if_neg (by omega)]
                    have hrd := read_ok hO.disk (Nat.zero_le _) j ha
                    go_wp2_with fail
                    refine hrd.mono ?_
                    rintro e w13 ⟨rv, rfl, hrv, ⟨rA, rm, rc, rfl⟩, -, hB⟩
                    clear hrd
                    have hrm : rm = 512 := by
                      obtain ⟨A', c', e, -⟩ := hrv
                      injection e with e1 e2 e3
                      rw [e2, cel_length]
                      exact hlen _
                    subst hrm
                    have hO13 := (hO.over hB).over ((Below.refl _ w13).drew)
                    have hR13 := (hR.below hB).below ((Below.refl _ w13).drew)
                    have hW13 : w13.drew.heap[Wb]? = some (.cells (wasr f 8).toArray 38) := (hB.block Wb (Array.getElem?_eq_some_iff.1 hWk).1).trans hWk
                    have hcv : (convert 30 9 (.slice rA 512 rc)).run Try.prog w13.drew = .ok (.string (bstr (f' (j : Int)))) w13.drew := conv_any (P := Try.prog) w13.drew 30 5 Try.underlying30 Try.underlying5 _ _ (hrv.of (Nat.le_refl _) fun _ _ _ => rfl) _ Try.underlying9
                    have c1 : w13.cell? ⟨Wb, j, none⟩ = some (.string (bstr (f (j : Int)))) := by
                      have := cell_of_row w13.drew Wb j _ _ _ hW13
                      rw [List.getElem?_toArray, wasr_at f hj] at this
                      exact this
                    have hrvd : Sl w13.drew (.slice rA 512 rc) (cel ((dsE f' []).look (j : Int))) := hrv.of (Nat.le_refl _) fun _ _ _ => rfl
                    clear hO hWk hR hrv
                    go_wp2_with fail
                    go_region_held3 (fun w' => w' = w13.drew) (rfl) (fail)
                    clear hcv c1
                    go_wp2_with fail
                    go_loopw [27, 28] (fun a b wr => ∃ (q : Nat) (ok : Bool), q ≤ 60 ∧ a = .bool ok ∧ b = .int .i64 (q : Int) ∧ Below w13.drew.heap.size w13.drew wr ∧ (ok = true)) (fun _ b _ => 60 - (intOf b).toNat)
                    case atStart => exact ⟨0, _, Nat.zero_le _, rfl, rfl, Below.refl _ _, rfl⟩
                    case round =>
                      obtain ⟨q, ok, hq6, rfl, rfl, hBr, hdis⟩ := hrel
                      have hRr := hR13.below hBr
                      have hOr := hO13.over hBr
                      have hWr := (hBr.block Wb (Array.getElem?_eq_some_iff.1 hW13).1).trans hW13
                      have hq0 : (0 : Int) ≤ (q : Int) := by omega
                      have hq6i : (q : Int) ≤ 60 := by omega
                      have hc := hRr.cell hj
                      have hrow := hRr.row j hj
                      obtain ⟨mA, mc, hmv⟩ := row_form hrow
                      rw [hmv] at hc hrow
                      have hml := mrow_len L j
                      by_cases hq : q < (mrow L j).length
                      · have hqi : (q : Int) < ((mrow L j).length : Int) := by omega
                        obtain rfl : ok = true := hdis
                        clear hrow
                        go_wp2_with fail
                        exact ⟨⟨j + 1, by omega, rfl, hOr, hWr, hRr⟩, by simp only [intOf]; omega⟩
                      · have hqi : ¬(q : Int) < ((mrow L j).length : Int) := by omega
                        obtain rfl : ok = true := hdis
                        clear hrow
                        go_wp2_with fail
                        exact ⟨⟨j + 1, by omega, rfl, hOr, hWr, hRr⟩, by simp only [intOf]; omega⟩
                  · obtain rfl : j = 8 := by omega
                    have hlc := loose_calls hO.disk
                    have hP := hO.below
                    clear hO hWk hR
                    go_wp2_with fail
                    refine hlc.mono ?_
                    rintro e w20 ⟨rfl, e20⟩
                    subst e20
                    go_wp2_with fail
                    go_ret
                    exact ⟨rfl, hP⟩
end Go.Proofs.Ytdlokmlcdlcfaaa

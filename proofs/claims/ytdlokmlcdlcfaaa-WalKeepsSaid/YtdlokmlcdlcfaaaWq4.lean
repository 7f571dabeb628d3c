/- hairlinelaw21.WalKeeps: the walk. -/
import Derived.Test.YtdlokmlcdlcfaaaWq3
set_option linter.unusedVariables false
set_option linter.unusedSimpArgs false
namespace Go.Proofs.Ytdlokmlcdlcfaaa
open Go.RowKit Go.MapKept Go.Shelf
theorem i64_and63 (n : Int) : bits .and .i64 n 63 = n % 64 := by
  have h1 : (BitVec.ofInt 64 63).toNat = 2 ^ 6 - 1 := by decide
  have key : (BitVec.ofInt 64 n &&& BitVec.ofInt 64 63).toNat = (n % ((2 ^ 64 : Nat) : Int)).toNat % 2 ^ 6 := by
    rw [BitVec.toNat_and, BitVec.toNat_ofInt, h1, Nat.and_two_pow_sub_one_eq_mod]
  show IntKind.i64.wrap ((BitVec.ofInt 64 n &&& BitVec.ofInt 64 63).toNat : Nat) = n % 64
  rw [key, IntKind.wrap_i64]
  omega
set_option maxRecDepth 100000 in
set_option maxHeartbeats 8000000 in
theorem keeps_calls (w : World) (v : Value) (l : List (List UInt8)) (hv : Lst w v l) (hll : l.length ≤ 140737488351232) (hel : ∀ b ∈ l, b.length ≤ 140737488351232) (n : Int) (kv : Value) (ks : List Bool) (hks : Sl w kv (ks.map Value.bool)) (hkl : ks.length ≤ 140737488351232) (mv : Value) (more : List UInt8) (hmv : Sl w mv (cel more)) (hml : more.length ≤ 140737488351232) :
    Calls Try.prog 7 #[v, .int .i64 n, kv, mv] w fun e w' => e = .returned (.bool true) ∧ Below w.heap.size w w' := by
  obtain ⟨A, c, rfl⟩ := hv.form
  obtain ⟨kA, kn, kc, rfl⟩ : ∃ A m c, kv = .slice A m c := by
    obtain ⟨A, c, e, -⟩ := hks
    exact ⟨_, _, _, e⟩
  obtain ⟨mA, mc, hme, -⟩ := id hmv
  rw [cel_length] at hme
  obtain ⟨mn, hmn⟩ : ∃ mn, more.length = mn := ⟨_, rfl⟩
  rw [hmn] at hme hml
  subst hme
  obtain ⟨q, hq⟩ : ∃ q : Int, n % 64 = q := ⟨_, rfl⟩
  have hq0 : 0 ≤ q ∧ q ≤ 63 := by omega
  have hand : bits .and .i64 n 63 = q := by rw [i64_and63, hq]
  clear hq
  go_enter Try.func7, Try.ntmps7
  go_wp2_with (first | (go_at_call 23; refine (wshown_calls _).mono ?_; rintro e w1 ⟨rfl, hB1⟩) | (go_at_call 10; refine (own_new w w1 hB1 200 (by omega)).mono ?_; rintro e w2 ⟨D, F0, rfl, h0, hB0, -⟩))
  refine (js_open h0 rfl rfl 3 190 (by decide) (by decide) (by decide) 193 (by decide) 5 (by decide) [] (by decide) 3 (jok_new 200 193 5 3)).mono ?_
  rintro e w3 ⟨J, A1, c1, xs1, rfl, hj3, hJ3, -, -, hB3⟩
  have har := own_arm hj3.jr.own q (by omega) _ ks (hks.over hj3.jr.own.below) (by omega)
  go_wp2_with fail
  refine har.mono ?_
  rintro e w4 ⟨rfl, F1, g1, g2, g3⟩
  have hj4 : JS w w4 D J F1 ((DS.new 200).arm q ks) 193 5 3 [] 3 := ⟨hj3.jr.step g1 g2 g3, rfl, rfl, hj3.ok⟩
  have hkeep : ((DS.new 200).arm q ks).keep.length ≤ 140737488351232 := hkl
  have hn4 : ((DS.new 200).arm q ks).n = 200 := rfl
  obtain ⟨d1, hd1⟩ : ∃ d1, (DS.new 200).arm q ks = d1 := ⟨_, rfl⟩
  rw [hd1] at hj4 hkeep hn4
  clear hd1 h0 hj3 har g1 g2 g3
  go_upto_block 0 with (fail)
  go_cut [14] (fun x wx => ∃ (k m : Nat) (G : Nat → Prop) (d : DS) (a : Int), x = .int .i64 (k : Int) ∧ k ≤ 30 ∧ m ≤ l.length ∧ (m = k ∨ m = k + 1) ∧ Own w wx D G d ∧ d.loose = [] ∧ d.n = 200 ∧ JOK d.firm 193 5 3 (l.take m) a ∧ a ≤ 127)
  case first =>
    go_wp2_with fail
    go_loopw [14] (fun x wr => ∃ (k : Nat) (G : Nat → Prop) (d : DS) (a : Int), x = .int .i64 (k : Int) ∧ k ≤ 30 ∧ k ≤ l.length ∧ JS w wr D J G d 193 5 3 (l.take k) a ∧ d.n = 200 ∧ d.keep.length ≤ 140737488351232 ∧ a ≤ 3 + 4 * k) (fun x _ => 30 - (intOf x).toNat)
    case atStart => exact ⟨0, F1, d1, 3, rfl, by omega, by omega, hj4, hn4, hkeep, by omega⟩
    case round =>
      clear hj4 hn4 hkeep
      obtain ⟨k, G, d, a, rfl, hk2, hkl, hj, hdn, hdk, hak⟩ := hrel
      have hk0 : (0 : Int) ≤ (k : Int) := by omega
      have hk2i : (k : Int) ≤ 30 := by omega
      by_cases hk1 : k < l.length ∧ k < 30
      · obtain ⟨b, hb⟩ : ∃ b, l[k]? = some b := ⟨_, List.getElem?_eq_getElem hk1.1⟩
        obtain ⟨g, o, z, rfl, hg, hc, hx⟩ := hv.get hb
        obtain ⟨xA, xc, hxe, -⟩ := id hx
        rw [cel_length] at hxe
        subst hxe
        have hc' : wr.cell? ⟨g, o + k, none⟩ = some (.slice xA b.length xc) := (hj.jr.own.below.cell (p := ⟨g, o + k, none⟩) hg).trans hc
        have hx' : Sl wr (.slice xA b.length xc) (cel b) := hx.over hj.jr.own.below
        have hkli : (k : Int) < (l.length : Int) := by omega
        have hk2j : (k : Int) < 30 := by omega
        have hbl : b.length ≤ 140737488351232 := hel b (List.mem_of_getElem? hb)
        have hts := take_snoc hb
        obtain ⟨m, hm⟩ : ∃ m, b.length = m := ⟨_, rfl⟩
        by_cases hl2 : m ≤ 1100
        · have hl2i : ¬(1100 : Int) < (m : Int) := by omega
          have hsb : secs b.length ≤ 3 := by unfold secs; omega
          have ap := js_append hj (by omega) (by decide) (by omega) (by rw [List.length_take]; omega) (by decide) _ b hx' (fun h0 q hq => ⟨old_not hj.jr.own hx (by rw [cel_length]; exact h0) q hq, fun e => by have h1 := hj.jr.ge; have h2 := hx.block_lt (by rw [cel_length]; exact h0) q hq; omega⟩) (by omega) (by omega)
          rw [hm] at hc' ap
          clear hx hx' hc
          go_wp2_with fail
          refine ap.mono ?_
          rintro e w5 (⟨rfl, G5, d5, hj5, hn5, hl5, hk5, -, -⟩ | ⟨rfl, h6, G5, d5, l5, a5, hj5, hn5, hd5, hl5, hla, hok, -, -⟩)
          · go_wp2_with fail
            refine ⟨⟨k + 1, G5, d5, _, rfl, by omega, by omega, by rw [hts]; exact hj5, hn5.trans hdn, by omega, ?_⟩, by simp only [intOf]; omega⟩
            rw [hm] at hsb ⊢
            omega
          · have hbr := append_broken hj5 none 0 0 (by decide)
            clear ap h6
            go_wp2_with fail
            refine hbr.mono ?_
            rintro e w6 ⟨rfl, hw6⟩
            subst hw6
            go_wp2_with fail
            go_meet
            rcases hla with ⟨rfl, rfl⟩ | ⟨rfl, rfl⟩
            · exact ⟨k, k, G5, d5, _, rfl, hk2, by omega, .inl rfl, hj5.own, hl5, hn5.trans hdn, hok, by omega⟩
            · exact ⟨k, k + 1, G5, d5, _, rfl, hk2, by omega, .inr rfl, hj5.own, hl5, hn5.trans hdn, by rw [hts]; exact hok, by omega⟩
        · have hl2i : (1100 : Int) < (m : Int) := by omega
          have hmi : (m : Int) ≤ 140737488351232 := by omega
          rw [hm] at hc'
          clear hm hx hx' hc hts
          go_wp2_with fail
          go_ret
          exact ⟨rfl, hj.jr.own.below⟩
      · by_cases hk3 : k < l.length
        · have hkli : (k : Int) < (l.length : Int) := by omega
          have hk2j : ¬(k : Int) < 30 := by omega
          go_wp2_with fail
          go_meet
          exact ⟨k, k, G, d, a, rfl, hk2, hkl, .inl rfl, hj.jr.own, hj.loose, hdn, hj.ok, by omega⟩
        · have hkli : ¬(k : Int) < (l.length : Int) := by omega
          go_wp2_with fail
          go_meet
          exact ⟨k, k, G, d, a, rfl, hk2, hkl, .inl rfl, hj.jr.own, hj.loose, hdn, hj.ok, by omega⟩
  case rest =>
    clear hj4 hn4 hkeep
    obtain ⟨k, m, G, d, a, rfl, hk2, hml2, hmk, hO, hdl, hdn, hok, hok2⟩ := hcut
    go_wp2_with fail
    refine (own_arm hO 0 (by decide) _ [] (Sl.nil _) (by decide)).mono ?_
    rintro e w5 ⟨rfl, G5, g5, -, -⟩
    go_wp2_with fail
    refine (own_start g5).mono ?_
    rintro e w6 ⟨rfl, G6, g6, -, -⟩
    have hlen : (l.take m).length = m := by rw [List.length_take]; omega
    have hop := js_open g6 rfl hdl 3 190 (by decide) (by decide) (by rw [show ((d.arm 0 []).start).n = 200 from hdn]; decide) 193 (by decide) 5 (by decide) (l.take m) (by omega) a hok
    have hn6 : ((d.arm 0 []).start).n = 200 := hdn
    have hl6 : ((d.arm 0 []).start).left = 0 := rfl
    have hk6 : ((d.arm 0 []).start).keep.length ≤ 0 := Nat.le_refl _
    obtain ⟨d2, hd2⟩ : ∃ d2, (d.arm 0 []).start = d2 := ⟨_, rfl⟩
    rw [hd2] at hop hn6 hl6 hk6
    clear hd2 g5 g6 hO hdl hdn hok
    go_wp2_with fail
    refine hop.mono ?_
    rintro e w7 ⟨J2, A2, c2, xs2, rfl, hj7, hJ7, ho7, hr7, hB7⟩
    rw [hlen]
    rw [hlen] at ho7 hr7
    clear hop
    go_upto_region 21 with (fail)
    have hm31 : (m : Int) ≤ 31 := by omega
    have hm0 : (0 : Int) ≤ (m : Int) := by omega
    have hmli : (m : Int) ≤ (l.length : Int) := by omega
    go_cut [111] (fun x wx => x = .bool false ∧ w7 = wx)
    case first =>
      rcases hmk with hmk | hmk
      · have hq1 : ((m : Int) != (k : Int)) = false := by rw [bne_eq_false_iff_eq]; omega
        clear hmk
        go_wp2_with fail
        go_meet
        exact ⟨by rw [decide_eq_false (by omega)], rfl⟩
      · have hq1 : ((m : Int) != (k : Int)) = true := by rw [bne_iff_ne]; omega
        have hq2 : ((m : Int) != (k : Int) + 1) = false := by rw [bne_eq_false_iff_eq]; omega
        clear hmk
        go_wp2_with fail
        go_meet
        exact ⟨by rw [decide_eq_false (by omega)], rfl⟩
    case rest =>
      obtain ⟨rfl, rfl⟩ := hcut
      clear hmk
      go_upto_block 2 with (fail)
      go_cut [19] (fun x wx => Below w7.heap.size w7 wx)
      case first =>
        go_wp2_with fail
        go_loopw [19] (fun x wr => ∃ i : Nat, i ≤ m ∧ x = .int .i64 (i : Int) ∧ Below w7.heap.size w7 wr) (fun x _ => m - (intOf x).toNat)
        case atStart => exact ⟨0, Nat.zero_le _, rfl, Below.refl _ _⟩
        case round =>
          obtain ⟨i, hi, rfl, hB⟩ := hrel
          have hi0 : (0 : Int) ≤ (i : Int) := by omega
          have hi31 : (i : Int) ≤ 31 := by omega
          by_cases him : i < m
          · have himi : (i : Int) < (m : Int) := by omega
            have hili : (i : Int) < (l.length : Int) := by omega
            obtain ⟨b, hb⟩ : ∃ b, l[i]? = some b := ⟨_, List.getElem?_eq_getElem (by omega)⟩
            obtain ⟨g, o, z, rfl, hg, hc, hx⟩ := hv.get hb
            obtain ⟨xA, xc, hxe, -⟩ := id hx
            obtain ⟨g2, z2, rfl, hc2, hx2⟩ := hr7.get ho7 (k := i) (b := b) (by rw [List.getElem?_take, if_pos him]; exact hb)
            obtain ⟨yA, yc, hye, -⟩ := id hx2
            subst hxe hye
            have hBw := hj7.jr.own.below.trans (hB.mono hj7.jr.own.below.size)
            have hg2 : g2 < w7.heap.size := (ho7.lt g2 rfl).2
            have hc' : wr.cell? ⟨g, o + i, none⟩ = some (.slice xA (cel b).length xc) := (hBw.cell (p := ⟨g, o + i, none⟩) hg).trans hc
            have hc2' : wr.cell? ⟨g2, i, none⟩ = some (.slice yA (cel b).length yc) := (hB.cell (p := ⟨g2, i, none⟩) hg2).trans hc2
            have hcu := conv_any (P := Try.prog) wr.drew 30 5 Try.underlying30 Try.underlying5 _ b (hx.over (w' := wr.drew) hBw.drew) _ Try.underlying9
            have hcv := conv_any (P := Try.prog) wr.drew 30 5 Try.underlying30 Try.underlying5 _ b (hx2.over (w' := wr.drew) hB.drew) _ Try.underlying9
            obtain ⟨M, hM⟩ : ∃ M, (cel b).length = M := ⟨_, rfl⟩
            rw [hM] at hcu hcv hc' hc2'
            clear hx hx2 hc hc2 hM
            go_wp2_with fail
            refine wp_region_held_drew (S := fun w' => w' = wr.drew) (by kernel_rfl) rfl (fun hHeld => ?_)
            refine wpAnyH_take (i := 0) (oi := ⟨_, _, _, _, _, _⟩) (v := .slice (some ⟨g2, 0, none⟩) m c2) rfl (by kernel_rfl) (by kernel_rfl) (by kernel_rfl) (fun _ _ _ h => h) (Or.inl ⟨by rfl, ?_⟩) (by assumption) ?_
            · intro w' hS
              subst hS
              go_simp
            try simp only [Act.put, List.setIfInBounds_toArray, List.set_cons_zero, List.set_cons_succ]
            refine wpAnyH_take (i := 1) (oi := ⟨_, _, _, _, _, _⟩) (v := .int .i64 (i : Int)) rfl (by kernel_rfl) (by kernel_rfl) (by kernel_rfl) (fun _ _ _ h => h) (Or.inl ⟨by rfl, ?_⟩) (by assumption) ?_
            · intro w' hS
              subst hS
              go_simp
            try simp only [Act.put, List.setIfInBounds_toArray, List.set_cons_zero, List.set_cons_succ]
            refine wpAnyH_take (i := 2) (oi := ⟨_, _, _, _, _, _⟩) (v := .pointer (some ⟨g2, i, none⟩)) rfl (by kernel_rfl) (by kernel_rfl) (by kernel_rfl) (fun _ _ _ h => h) (Or.inl ⟨by rfl, ?_⟩) (by assumption) ?_
            · intro w' hS
              subst hS
              go_simp
            try simp only [Act.put, List.setIfInBounds_toArray, List.set_cons_zero, List.set_cons_succ]
            refine wpAnyH_take (i := 3) (oi := ⟨_, _, _, _, _, _⟩) (v := .slice yA M yc) rfl (by kernel_rfl) (by kernel_rfl) (by kernel_rfl) (fun _ _ _ h => h) (Or.inl ⟨by rfl, ?_⟩) (by assumption) ?_
            · intro w' hS
              subst hS
              go_simp
            try simp only [Act.put, List.setIfInBounds_toArray, List.set_cons_zero, List.set_cons_succ]
            refine wpAnyH_take (i := 4) (oi := ⟨_, _, _, _, _, _⟩) (v := .string (bstr b)) rfl (by kernel_rfl) (by kernel_rfl) (by kernel_rfl) (fun _ _ _ h => h) (Or.inl ⟨by rfl, ?_⟩) (by assumption) ?_
            · intro w' hS
              subst hS
              go_simp
            try simp only [Act.put, List.setIfInBounds_toArray, List.set_cons_zero, List.set_cons_succ]
            refine wpAnyH_take (i := 5) (oi := ⟨_, _, _, _, _, _⟩) (v := .slice (some ⟨g, o, none⟩) l.length c) rfl (by kernel_rfl) (by kernel_rfl) (by kernel_rfl) (fun _ _ _ h => h) (Or.inl ⟨by rfl, ?_⟩) (by assumption) ?_
            · intro w' hS
              subst hS
              go_simp
            try simp only [Act.put, List.setIfInBounds_toArray, List.set_cons_zero, List.set_cons_succ]
            refine wpAnyH_take (i := 6) (oi := ⟨_, _, _, _, _, _⟩) (v := .int .i64 (i : Int)) rfl (by kernel_rfl) (by kernel_rfl) (by kernel_rfl) (fun _ _ _ h => h) (Or.inl ⟨by rfl, ?_⟩) (by assumption) ?_
            · intro w' hS
              subst hS
              go_simp
            try simp only [Act.put, List.setIfInBounds_toArray, List.set_cons_zero, List.set_cons_succ]
            refine wpAnyH_take (i := 7) (oi := ⟨_, _, _, _, _, _⟩) (v := .pointer (some ⟨g, o + i, none⟩)) rfl (by kernel_rfl) (by kernel_rfl) (by kernel_rfl) (fun _ _ _ h => h) (Or.inl ⟨by rfl, ?_⟩) (by assumption) ?_
            · intro w' hS
              subst hS
              go_simp
            try simp only [Act.put, List.setIfInBounds_toArray, List.set_cons_zero, List.set_cons_succ]
            refine wpAnyH_take (i := 8) (oi := ⟨_, _, _, _, _, _⟩) (v := .slice xA M xc) rfl (by kernel_rfl) (by kernel_rfl) (by kernel_rfl) (fun _ _ _ h => h) (Or.inl ⟨by rfl, ?_⟩) (by assumption) ?_
            · intro w' hS
              subst hS
              go_simp
            try simp only [Act.put, List.setIfInBounds_toArray, List.set_cons_zero, List.set_cons_succ]
            refine wpAnyH_take (i := 9) (oi := ⟨_, _, _, _, _, _⟩) (v := .string (bstr b)) rfl (by kernel_rfl) (by kernel_rfl) (by kernel_rfl) (fun _ _ _ h => h) (Or.inl ⟨by rfl, ?_⟩) (by assumption) ?_
            · intro w' hS
              subst hS
              go_simp
            try simp only [Act.put, List.setIfInBounds_toArray, List.set_cons_zero, List.set_cons_succ]
            refine wpAnyH_take (i := 10) (oi := ⟨_, _, _, _, _, _⟩) (v := .bool false) rfl (by kernel_rfl) (by kernel_rfl) (by kernel_rfl) (fun _ _ _ h => h) (Or.inl ⟨by rfl, ?_⟩) (by assumption) ?_
            · intro w' hS
              subst hS
              go_simp
            try simp only [Act.put, List.setIfInBounds_toArray, List.set_cons_zero, List.set_cons_succ]
            refine wpAnyH_done (by kernel_rfl) ?_ _
            go_wp2_with fail
            exact ⟨⟨i + 1, by omega, rfl, hB.drew⟩, by simp only [intOf]; omega⟩
          · obtain rfl : i = m := by omega
            have himi : ¬(i : Int) < (i : Int) := by omega
            go_wp2_with fail
            go_meet
            exact hB
      case rest =>
        have hj9 := hj7.over hcut
        have hwc := hcut
        have ha2 := hj7.ok.recs.le.1
        have hroom := room_calls hj9.jr (by omega) (by decide)
        by_cases hml3 : mn ≤ 1100
        · have hmi : ¬(1100 : Int) < (mn : Int) := by omega
          by_cases h5 : 193 - a < 5
          · go_wp2_with (go_at_call 26; refine hroom.mono ?_; rintro e w9 ⟨rfl, hw9⟩; subst hw9)
            go_ret
            exact ⟨rfl, hj9.jr.own.below.drew⟩
          · have hj10 := hj9.over ((Below.refl _ wc).drew)
            have hs3 : secs more.length ≤ 3 := by rw [hmn]; unfold secs; omega
            have ap := js_append hj10 (by omega) (by decide) (by omega) (by omega) (by decide) _ more (hmv.over hj10.jr.own.below) (fun h0 q hq => ⟨old_not hj10.jr.own hmv (by rw [cel_length]; exact h0) q hq, fun e => by have h1 := hj10.jr.ge; have h2 := hmv.block_lt (by rw [cel_length]; exact h0) q hq; omega⟩) (by omega) (by omega)
            go_wp2_with (go_at_call 26; refine hroom.mono ?_; rintro e w9 ⟨rfl, hw9⟩; subst hw9)
            refine ap.mono ?_
            rintro e w10 (⟨rfl, G11, d11, hj11, hn11, hl11, hk11, -, -⟩ | ⟨-, h6, -⟩)
            · clear ap hroom
              have hlen11 : (l.take m ++ [more]).length = m + 1 := by rw [List.length_append, hlen]; rfl
              have hop := js_open hj11.jr.own hj11.down hj11.loose 3 190 (by decide) (by decide) (by rw [hn11, hn6]; decide) 193 (by decide) 5 (by decide) _ (by omega) _ hj11.ok
              go_wp2_with fail
              refine hop.mono ?_
              rintro e w12 ⟨J8, A8, c8, xs8, rfl, hj12, hJ12, ho12, hr12, hB12⟩
              rw [hlen11] at ho12 hr12 ⊢
              obtain ⟨g8, z8, rfl, hc8, hx8⟩ := hr12.get ho12 (k := m) (b := more) (by rw [List.getElem?_append_right (by omega), hlen]; simp)
              obtain ⟨yA, yc, hye, -⟩ := id hx8
              rw [cel_length, hmn] at hye
              subst hye
              have hcu := conv_any (P := Try.prog) w12.drew 30 5 Try.underlying30 Try.underlying5 _ more (hx8.over (w' := w12.drew) ((Below.refl _ w12).drew)) _ Try.underlying9
              have hcv := conv_any (P := Try.prog) w12.drew 30 5 Try.underlying30 Try.underlying5 _ more (hmv.over (w' := w12.drew) hj12.jr.own.below.drew) _ Try.underlying9
              obtain ⟨M1, hM1⟩ : ∃ M1, m + 1 = M1 := ⟨_, rfl⟩
              rw [hM1]
              have hM1i : ((m : Int) + 1) = (M1 : Int) := by omega
              have hM1w : IntKind.i64.wrap ((m : Int) + 1) = (M1 : Int) := by rw [hM1i]; exact IntWalk.i64_in _ (by omega)
              have hmM : (m : Int) < (M1 : Int) := by omega
              clear hx8 hM1 hM1i hop
              go_wp2_with fail
              refine wp_region_held_drew (S := fun w' => w' = w12.drew) (by kernel_rfl) rfl (fun hHeld => ?_)
              refine wpAnyH_take (i := 0) (oi := ⟨_, _, _, _, _, _⟩) (v := .int .i64 0) rfl (by kernel_rfl) (by kernel_rfl) (by kernel_rfl) (fun _ _ _ h => h) (Or.inl ⟨by rfl, ?_⟩) (by assumption) ?_
              · intro w' hS
                subst hS
                go_simp
              try simp only [Act.put, List.setIfInBounds_toArray, List.set_cons_zero, List.set_cons_succ]
              refine wpAnyH_take (i := 1) (oi := ⟨_, _, _, _, _, _⟩) (v := .bool true) rfl (by kernel_rfl) (by kernel_rfl) (by kernel_rfl) (fun _ _ _ h => h) (Or.inl ⟨by rfl, ?_⟩) (by assumption) ?_
              · intro w' hS
                subst hS
                go_simp
              try simp only [Act.put, List.setIfInBounds_toArray, List.set_cons_zero, List.set_cons_succ]
              refine wpAnyH_take (i := 2) (oi := ⟨_, _, _, _, _, _⟩) (v := .bool true) rfl (by kernel_rfl) (by kernel_rfl) (by kernel_rfl) (fun _ _ _ h => h) (Or.inl ⟨by rfl, ?_⟩) (by assumption) ?_
              · intro w' hS
                subst hS
                go_simp
              try simp only [Act.put, List.setIfInBounds_toArray, List.set_cons_zero, List.set_cons_succ]
              refine wpAnyH_take (i := 3) (oi := ⟨_, _, _, _, _, _⟩) (v := .slice (some ⟨g8, 0, none⟩) M1 c8) rfl (by kernel_rfl) (by kernel_rfl) (by kernel_rfl) (fun _ _ _ h => h) (Or.inl ⟨by rfl, ?_⟩) (by assumption) ?_
              · intro w' hS
                subst hS
                go_simp
              try simp only [Act.put, List.setIfInBounds_toArray, List.set_cons_zero, List.set_cons_succ]
              refine wpAnyH_take (i := 4) (oi := ⟨_, _, _, _, _, _⟩) (v := .int .i64 (M1 : Int)) rfl (by kernel_rfl) (by kernel_rfl) (by kernel_rfl) (fun _ _ _ h => h) (Or.inl ⟨by rfl, ?_⟩) (by assumption) ?_
              · intro w' hS
                subst hS
                go_simp
              try simp only [Act.put, List.setIfInBounds_toArray, List.set_cons_zero, List.set_cons_succ]
              refine wpAnyH_take (i := 5) (oi := ⟨_, _, _, _, _, _⟩) (v := .slice A2 m c2) rfl (by kernel_rfl) (by kernel_rfl) (by kernel_rfl) (fun _ _ _ h => h) (Or.inl ⟨by rfl, ?_⟩) (by assumption) ?_
              · intro w' hS
                subst hS
                go_simp
              try simp only [Act.put, List.setIfInBounds_toArray, List.set_cons_zero, List.set_cons_succ]
              refine wpAnyH_take (i := 6) (oi := ⟨_, _, _, _, _, _⟩) (v := .int .i64 (m : Int)) rfl (by kernel_rfl) (by kernel_rfl) (by kernel_rfl) (fun _ _ _ h => h) (Or.inl ⟨by rfl, ?_⟩) (by assumption) ?_
              · intro w' hS
                subst hS
                go_simp
              try simp only [Act.put, List.setIfInBounds_toArray, List.set_cons_zero, List.set_cons_succ]
              refine wpAnyH_take (i := 7) (oi := ⟨_, _, _, _, _, _⟩) (v := .int .i64 (M1 : Int)) rfl (by kernel_rfl) (by kernel_rfl) (by kernel_rfl) (fun _ _ _ h => h) (Or.inl ⟨by rfl, ?_⟩) (by assumption) ?_
              · intro w' hS
                subst hS
                go_simp
              try simp only [Act.put, List.setIfInBounds_toArray, List.set_cons_zero, List.set_cons_succ]
              refine wpAnyH_take (i := 8) (oi := ⟨_, _, _, _, _, _⟩) (v := .bool true) rfl (by kernel_rfl) (by kernel_rfl) (by kernel_rfl) (fun _ _ _ h => h) (Or.inl ⟨by rfl, ?_⟩) (by assumption) ?_
              · intro w' hS
                subst hS
                go_simp
              try simp only [Act.put, List.setIfInBounds_toArray, List.set_cons_zero, List.set_cons_succ]
              refine wpAnyH_take (i := 9) (oi := ⟨_, _, _, _, _, _⟩) (v := .bool true) rfl (by kernel_rfl) (by kernel_rfl) (by kernel_rfl) (fun _ _ _ h => h) (Or.inl ⟨by rfl, ?_⟩) (by assumption) ?_
              · intro w' hS
                subst hS
                go_simp
              try simp only [Act.put, List.setIfInBounds_toArray, List.set_cons_zero, List.set_cons_succ]
              refine wpAnyH_take (i := 10) (oi := ⟨_, _, _, _, _, _⟩) (v := .bool true) rfl (by kernel_rfl) (by kernel_rfl) (by kernel_rfl) (fun _ _ _ h => h) (Or.inl ⟨by rfl, ?_⟩) (by assumption) ?_
              · intro w' hS
                subst hS
                go_simp
              try simp only [Act.put, List.setIfInBounds_toArray, List.set_cons_zero, List.set_cons_succ]
              refine wpAnyH_take (i := 11) (oi := ⟨_, _, _, _, _, _⟩) (v := .slice (some ⟨g8, 0, none⟩) M1 c8) rfl (by kernel_rfl) (by kernel_rfl) (by kernel_rfl) (fun _ _ _ h => h) (Or.inl ⟨by rfl, ?_⟩) (by assumption) ?_
              · intro w' hS
                subst hS
                go_simp
              try simp only [Act.put, List.setIfInBounds_toArray, List.set_cons_zero, List.set_cons_succ]
              refine wpAnyH_take (i := 12) (oi := ⟨_, _, _, _, _, _⟩) (v := .slice A2 m c2) rfl (by kernel_rfl) (by kernel_rfl) (by kernel_rfl) (fun _ _ _ h => h) (Or.inl ⟨by rfl, ?_⟩) (by assumption) ?_
              · intro w' hS
                subst hS
                go_simp
              try simp only [Act.put, List.setIfInBounds_toArray, List.set_cons_zero, List.set_cons_succ]
              refine wpAnyH_take (i := 13) (oi := ⟨_, _, _, _, _, _⟩) (v := .int .i64 (m : Int)) rfl (by kernel_rfl) (by kernel_rfl) (by kernel_rfl) (fun _ _ _ h => h) (Or.inl ⟨by rfl, ?_⟩) (by assumption) ?_
              · intro w' hS
                subst hS
                go_simp
              try simp only [Act.put, List.setIfInBounds_toArray, List.set_cons_zero, List.set_cons_succ]
              refine wpAnyH_take (i := 14) (oi := ⟨_, _, _, _, _, _⟩) (v := .pointer (some ⟨g8, m, none⟩)) rfl (by kernel_rfl) (by kernel_rfl) (by kernel_rfl) (fun _ _ _ h => h) (Or.inl ⟨by rfl, ?_⟩) (by assumption) ?_
              · intro w' hS
                subst hS
                go_simp
              try simp only [Act.put, List.setIfInBounds_toArray, List.set_cons_zero, List.set_cons_succ]
              refine wpAnyH_take (i := 15) (oi := ⟨_, _, _, _, _, _⟩) (v := .slice yA mn yc) rfl (by kernel_rfl) (by kernel_rfl) (by kernel_rfl) (fun _ _ _ h => h) (Or.inl ⟨by rfl, ?_⟩) (by assumption) ?_
              · intro w' hS
                subst hS
                go_simp
              try simp only [Act.put, List.setIfInBounds_toArray, List.set_cons_zero, List.set_cons_succ]
              refine wpAnyH_take (i := 16) (oi := ⟨_, _, _, _, _, _⟩) (v := .string (bstr more)) rfl (by kernel_rfl) (by kernel_rfl) (by kernel_rfl) (fun _ _ _ h => h) (Or.inl ⟨by rfl, ?_⟩) (by assumption) ?_
              · intro w' hS
                subst hS
                go_simp
              try simp only [Act.put, List.setIfInBounds_toArray, List.set_cons_zero, List.set_cons_succ]
              refine wpAnyH_take (i := 17) (oi := ⟨_, _, _, _, _, _⟩) (v := .slice mA mn mc) rfl (by kernel_rfl) (by kernel_rfl) (by kernel_rfl) (fun _ _ _ h => h) (Or.inl ⟨by rfl, ?_⟩) (by assumption) ?_
              · intro w' hS
                subst hS
                go_simp
              try simp only [Act.put, List.setIfInBounds_toArray, List.set_cons_zero, List.set_cons_succ]
              refine wpAnyH_take (i := 18) (oi := ⟨_, _, _, _, _, _⟩) (v := .string (bstr more)) rfl (by kernel_rfl) (by kernel_rfl) (by kernel_rfl) (fun _ _ _ h => h) (Or.inl ⟨by rfl, ?_⟩) (by assumption) ?_
              · intro w' hS
                subst hS
                go_simp
              try simp only [Act.put, List.setIfInBounds_toArray, List.set_cons_zero, List.set_cons_succ]
              refine wpAnyH_take (i := 19) (oi := ⟨_, _, _, _, _, _⟩) (v := .bool true) rfl (by kernel_rfl) (by kernel_rfl) (by kernel_rfl) (fun _ _ _ h => h) (Or.inl ⟨by rfl, ?_⟩) (by assumption) ?_
              · intro w' hS
                subst hS
                go_simp
              try simp only [Act.put, List.setIfInBounds_toArray, List.set_cons_zero, List.set_cons_succ]
              refine wpAnyH_take (i := 20) (oi := ⟨_, _, _, _, _, _⟩) (v := .bool true) rfl (by kernel_rfl) (by kernel_rfl) (by kernel_rfl) (fun _ _ _ h => h) (Or.inl ⟨by rfl, ?_⟩) (by assumption) ?_
              · intro w' hS
                subst hS
                go_simp
              try simp only [Act.put, List.setIfInBounds_toArray, List.set_cons_zero, List.set_cons_succ]
              refine wpAnyH_take (i := 21) (oi := ⟨_, _, _, _, _, _⟩) (v := .bool true) rfl (by kernel_rfl) (by kernel_rfl) (by kernel_rfl) (fun _ _ _ h => h) (Or.inl ⟨by rfl, ?_⟩) (by assumption) ?_
              · intro w' hS
                subst hS
                go_simp
              try simp only [Act.put, List.setIfInBounds_toArray, List.set_cons_zero, List.set_cons_succ]
              refine wpAnyH_done (by kernel_rfl) ?_ _
              go_wp2_with fail
              go_ret
              exact ⟨rfl, hj12.jr.own.below.drew⟩
            · exact absurd hl6 h6
        · have hmi : (1100 : Int) < (mn : Int) := by omega
          go_wp2_with fail
          go_ret
          exact ⟨rfl, hj9.jr.own.below⟩
end Go.Proofs.Ytdlokmlcdlcfaaa

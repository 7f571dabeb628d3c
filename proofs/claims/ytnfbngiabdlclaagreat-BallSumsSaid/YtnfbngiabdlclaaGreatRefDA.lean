/- The document's dyads: plain. The document's dyads: near counts Norm Of Sign Log. The document's dyads: raised lower. -/
import Derived.Test.YtnfbngiabdlclaaGreatZrs
import Derived.Test.YtnfbngiabdlclaaGreatCons
import Derived.Test.YtnfbngiabdlclaaGreatPats
import Derived.Test.YtnfbngiabdlclaaGreatSee
section
set_option linter.unusedVariables false
set_option linter.unusedSimpArgs false
namespace Go.Proofs.YtnfbngiabdlclaaGreat
open Go.RowKit
open L (val dig nth)

theorem and16 (m : Nat) (hm : m < 18446744073709551616) : bits .and .u64 (m : Int) 65535 = ((m % 65536 : Nat) : Int) := by
  have h := bits_and_u64_nat m 65535 hm (by omega)
  have e : m &&& 65535 = m % 65536 := Nat.and_two_pow_sub_one_eq_mod m 16
  rw [e] at h
  exact h
/-- What is left of z when 2 has been taken out t times. -/
def Left (z : Int) (t : Nat) (z' : Int) : Prop := z' * 2 ^ t = z
theorem Left.step {z z' : Int} {t s : Nat} (h : Left z t z') (hd : z'.natAbs % 2 ^ s = 0) : Left z (t + s) (z' / 2 ^ s) := by
  unfold Left at *
  rw [Nat.add_comm, Int.pow_add, ← Int.mul_assoc, Int.ediv_mul_cancel, h]
  rw [← Int.natAbs_dvd_natAbs, natAbs_pow]
  exact Nat.dvd_of_mod_eq_zero hd
theorem Left.le {z z' : Int} {t k : Nat} (h : Left z t z') (hz : z ≠ 0) (hk : z.natAbs < W ^ k) : t < 64 * k ∧ z' ≠ 0 ∧ z'.natAbs ≤ z.natAbs := by
  unfold Left at h
  have h0 : z' ≠ 0 := by rintro rfl; rw [Int.zero_mul] at h; exact hz h.symm
  have e := congrArg Int.natAbs h
  rw [Int.natAbs_mul, natAbs_pow] at e
  have h1 : 2 ^ t ≤ z.natAbs := by rw [← e]; exact Nat.le_mul_of_pos_left _ (by omega)
  rw [W_pow] at hk
  refine ⟨(Nat.pow_lt_pow_iff_right (a := 2) (by omega)).1 (Nat.lt_of_le_of_lt h1 hk), h0, ?_⟩
  rw [← e]; exact Nat.le_mul_of_pos_right _ (Nat.two_pow_pos _)
theorem Left.done {z z' x : Int} {t : Nat} (h : Left z t z') (hz : z ≠ 0) (ho : z'.natAbs % 2 = 1) : pM z = z' ∧ pE z x = x + t := by
  unfold Left at h
  have e := congrArg Int.natAbs h
  rw [Int.natAbs_mul, natAbs_pow] at e
  have ht : tz z.natAbs = t := by rw [← e]; exact tz_pow ho t
  refine ⟨?_, by rw [pE_of hz, ht]⟩
  rw [← h, pM_pow]; exact nf_pM (x := 0) (.inr ho)
theorem low_mod {d : List Nat} {z : Int} (hd : Canon d z.natAbs) (s : Nat) (hs : s ≤ 64) (h0 : 0 < d.length) : z.natAbs % 2 ^ s = nth d 0 % 2 ^ s := by
  rw [← hd.val]
  obtain ⟨a, r, rfl⟩ : ∃ a r, d = a :: r := by cases d with | nil => simp at h0 | cons a r => exact ⟨a, r, rfl⟩
  simp only [L.val_cons, L.nth, List.getD_cons_zero]
  rw [show W = 2 ^ s * 2 ^ (64 - s) from by rw [← Nat.pow_add, show s + (64 - s) = 64 from by omega]; rfl, Nat.mul_assoc, Nat.add_mul_mod_self_left]
theorem clampN_small {k : Nat} (h : k ≤ 8192) : clampN (k : Int) = k := by unfold clampN; omega

/-- The box of an integer that a loop works at. -/
def AtBox (w wr : World) (B r : Nat) (z' : Int) : Prop := ∃ A c d, Blk wr r 25 #[.bool (decide (z' < 0)), .slice A d.length c] ∧ Nums wr B (.slice A d.length c) d ∧ Canon d z'.natAbs ∧
  Blk wr (r + 1) 34 #[.bool false, .slice none 0 0, .int .i64 0] ∧ Below w.heap.size w wr ∧ B ≤ wr.heap.size

set_option maxHeartbeats 2000000 in
set_option maxRecDepth 100000 in
theorem plainR_calls (w : World) (n : Bool) (B : Nat) (v : Value) (l : List Nat) (x : Int) (h : Nums w B v l) (hl : l.length ≤ 40000) (hx0 : -1000000000 ≤ x) (hx1 : x ≤ 1000000000) :
    Calls Tryz.prog 145 #[.agg #[.bool n, v], .int .i64 x] w fun e w' => Below w.heap.size w w' ∧ RetQ w.heap.size (pM (ival n (val W l))) (pE (ival n (val W l)) x) e w' := by
  have h0 := h
  have hlt0 := h.lt
  obtain ⟨A, cap, rfl, -, -, -, hc⟩ := h
  obtain ⟨W0, hW, hbx, hrs, hB0, hs⟩ := start2 w 25 34 #[.bool n, .slice A l.length cap] #[.bool false, .slice none 0 0, .int .i64 0]
  have h1 := h0.up hB0
  have hs2 : w.heap.size + 1 < W0.heap.size := by omega
  clear hs hc
  obtain ⟨z, HZ⟩ : ∃ z, Hid (ival n (val W l) = z) := ⟨_, hide rfl⟩
  have HLN : Hid (z.natAbs < W ^ l.length) := hide (by rw [← HZ.out]; exact natAbs_lt hlt0)
  obtain ⟨c0, c1, c2, c3⟩ := hbx.two
  have HP := znormR_calls W0 n B _ l h1 (by omega)
  rw [HZ.out] at HP ⊢
  go_enter Tryz.func145, Tryz.ntmps145
  go_upto_region 1 with (fail)
  rw [← hW]
  clear hW
  go_wp2_with fail
  refine HP.mono ?_
  rintro e w1 ⟨hb1, u1, d, rfl, hu1, hd⟩
  obtain ⟨A1, cap1, rfl⟩ := hu1.form
  clear HP c0 c1 c2 c3
  have hbx1 := hbx.below hb1 (by omega)
  have hrs1 := hrs.below hb1 (by omega)
  have s1 := hb1.size
  obtain ⟨g0, g1, g2, g3⟩ := hbx1.two
  obtain ⟨w2, hW2, hbx2, hf2, hk2, hs3, hB2⟩ := set2_all hbx1 (.bool (decide (z < 0))) (.slice A1 d.length cap1)
  have hrs2 := hf2 _ _ _ (by omega) hrs1
  have hu2 := hk2 _ _ _ (by omega) hu1
  have HB2 := hide (hB2 _ _ (hB0.trans (hb1.mono hB0.size)) (Nat.le_refl _))
  have hle12 : W0.heap.size ≤ w2.heap.size := by omega
  clear hB2 hk2 hf2 hs3
  go_upto_region 2 with (fail)
  rw [← hW2]
  clear hW2 g0 g1 g2 g3
  have hL := canon_len0 hd
  have hs4 : w.heap.size + 1 < w2.heap.size := by omega
  by_cases hz : z = 0
  · have d0 : ((d.length : Int) == 0) = true := by rw [hL]; exact decide_eq_true hz
    have HR := hide (show pM z = 0 ∧ pE z x = 0 from by rw [hz]; exact ⟨pM_zero, pE_zero x⟩)
    clear hz hL
    obtain ⟨e0, e1, e2, e3⟩ := hbx2.two
    obtain ⟨g0, g1, g2, g3, g4, g5⟩ := hrs2.three
    go_wp2_with fail
    refine bodyPost_ret (results_dyad rfl _ _ _ _ _ _ _ rfl (((hrs2.set_ 0 _).set_ 1 _).set_ 2 _)) rfl ⟨below3 HB2.out (by omega) _ _ _, ?_⟩
    rw [HR.out.1, HR.out.2]
    exact ⟨_, [], rfl, Nums.nil _ _, (L.dig_zero W).symm⟩
  · have d0 : ((d.length : Int) == 0) = false := by rw [hL]; exact decide_eq_false hz
    have HNZ := hide hz
    clear hz hL
    have HAB : AtBox w w2 W0.heap.size w.heap.size z := ⟨A1, cap1, d, hbx2, hu2, hd, hrs2, HB2.out, hle12⟩
    obtain ⟨M, HM⟩ : ∃ m, Hid (pM z = m) := ⟨_, hide rfl⟩
    obtain ⟨E, HE⟩ : ∃ m, Hid (pE z x = m) := ⟨_, hide rfl⟩
    have HLl := hide hl
    obtain ⟨e0, e1, e2, e3⟩ := hbx2.two
    go_wp2_with fail
    clear e0 e1 e2 e3 hbx2 hrs2 hu2 hd
    go_loopw [1] (fun s wr => ∃ (t : Nat) (z' : Int), s = .int .i64 (x + t) ∧ Left z t z' ∧ AtBox w wr W0.heap.size w.heap.size z') (fun s _ => (x + 64 * l.length + 1 - intOf s).toNat)
    case atStart => exact ⟨0, z, by simp, by unfold Left; simp, HAB⟩
    case round =>
      obtain ⟨t, z', rfl, hlf, A2, c2, d2, hbx3, hu3, hd3, hrs3, hb3, hbs3⟩ := hrel
      obtain ⟨wo, rfl⟩ : ∃ wo : World, wo = wr := ⟨_, rfl⟩
      obtain ⟨ht, hz', hle⟩ := hlf.le HNZ.out HLN.out
      have hdl2 : d2.length ≤ l.length := by rw [hd3.len]; exact Nat.lt_of_le_of_lt hle HLN.out
      have hd0 : 0 < d2.length := by
        rcases Nat.eq_zero_or_pos d2.length with h | h
        · have := hd3.nil_iff.1 (List.eq_nil_of_length_eq_zero h); omega
        · exact h
      have hlm := low_mod hd3 16 (by omega) hd0
      have hD0 : nth d2 0 < 18446744073709551616 := nth_lt hu3.lt 0
      have hand := and16 (nth d2 0) hD0
      have HPS := zshrR_calls wo (decide (z' < 0)) _ _ d2 16 hu3 (by omega) (by omega) (by omega)
      rw [hd3.val, ival_self, show clampN 16 = 16 from rfl] at HPS
      obtain ⟨zz, HZZ⟩ : ∃ q, Hid (z' / 2 ^ 16 = q) := ⟨_, hide rfl⟩
      rw [HZZ.out] at HPS
      have HPS := hide HPS
      have HLM := hide hlm
      have HLF := hide hlf
      have HD3 := hide hd3
      have HU3 := hide hu3
      have HB3 := hide hb3
      obtain ⟨A9, c9, hAeq, -, -, -, hcell⟩ := hu3
      injection hAeq with hAeq hxx hceq
      subst hAeq hceq
      obtain ⟨b1, o1, rfl, -, hb1', hcell1⟩ := hcell hd0
      have hcl := hcell1 0 hd0
      simp only [Nat.add_zero] at hcl
      obtain ⟨D0, HD0⟩ : ∃ D, Hid (nth d2 0 = D) := ⟨_, hide rfl⟩
      obtain ⟨r, HR⟩ : ∃ r, Hid (D0 % 65536 = r) := ⟨_, hide rfl⟩
      rw [HD0.out] at hcl hand hD0
      rw [HR.out] at hand
      clear hcell hcell1 hlm hlf hd3 hb3 hz' hle
      obtain ⟨i0, i1, i2, i3⟩ := hbx3.two
      by_cases hr : r = 0
      · have d1 : ((r : Int) == 0) = true := by rw [hr]; rfl
        have HM0 : Hid (z'.natAbs % 2 ^ 16 = 0) := hide (by rw [HLM.out, HD0.out, ← hr, ← HR.out])
        clear hr
        go_wp2_with fail
        refine HPS.out.mono ?_
        rintro e w5 ⟨hb5, u5, d5, rfl, hu5, hd5⟩
        obtain ⟨A5, c5, rfl⟩ := hu5.form
        have hbx5 := hbx3.below hb5 hbx3.lt
        have hrs5 := hrs3.below hb5 hrs3.lt
        have s5 := hb5.size
        clear i0 i1 i2 i3 hcl
        obtain ⟨i0, i1, i2, i3⟩ := hbx5.two
        obtain ⟨w6, hW6, hbx6, hf6, hk6, hs6, hB6⟩ := set2_all hbx5 (.bool (decide (zz < 0))) (.slice A5 d5.length c5)
        have hrs6 := hf6 _ _ _ (by omega) hrs5
        have hu6 := hk6 _ _ _ (by omega) hu5
        have HB6 := hide (hB6 _ _ (HB3.out.trans (hb5.mono HB3.out.size)) (Nat.le_refl _))
        have hbs6 : W0.heap.size ≤ w6.heap.size := by omega
        clear hB6 hk6 hf6 hs6
        go_upto_region 6 with (fail)
        rw [← hW6]
        clear hW6 i0 i1 i2 i3
        go_wp2_with fail
        go_roundw
        case rel => exact ⟨t + 16, zz, by rw [show x + (t : Int) + 16 = x + ((t + 16 : Nat) : Int) from by omega], (by rw [← HZZ.out]; exact HLF.out.step HM0.out), A5, c5, d5, hbx6, hu6.mono hbs3, hd5, hrs6, HB6.out, hbs6⟩
        case measure => simp [intOf]; omega
      · have d1 : ((r : Int) == 0) = false := by rw [beq_eq_false_iff_ne]; omega
        have HLF2 := HLF.out
        have HAB2 : AtBox w wo W0.heap.size w.heap.size z' := ⟨_, _, d2, hbx3, HU3.out, HD3.out, hrs3, HB3.out, hbs3⟩
        clear hr
        go_wp2_with fail
        clear i0 i1 i2 i3 hcl hbx3 hrs3
        go_loopw [1] (fun s wr => ∃ (t : Nat) (z' : Int), s = .int .i64 (x + t) ∧ Left z t z' ∧ AtBox w wr W0.heap.size w.heap.size z') (fun s _ => (x + 64 * l.length + 1 - intOf s).toNat)
        case atStart => exact ⟨t, z', rfl, HLF2, HAB2⟩
        case round =>
          obtain ⟨t, z', rfl, hlf, A2, c2, d2, hbx3, hu3, hd3, hrs3, hb3, hbs3⟩ := hrel
          obtain ⟨wo, rfl⟩ : ∃ wo : World, wo = wr := ⟨_, rfl⟩
          obtain ⟨ht, hz', hle⟩ := hlf.le HNZ.out HLN.out
          have hdl2 : d2.length ≤ l.length := by rw [hd3.len]; exact Nat.lt_of_le_of_lt hle HLN.out
          have hd0 : 0 < d2.length := by
            rcases Nat.eq_zero_or_pos d2.length with h | h
            · have := hd3.nil_iff.1 (List.eq_nil_of_length_eq_zero h); omega
            · exact h
          have hlm := low_mod hd3 1 (by omega) hd0
          have hD0 : nth d2 0 < 18446744073709551616 := nth_lt hu3.lt 0
          have hand := and1 (nth d2 0) hD0
          have HPS := zshrR_calls wo (decide (z' < 0)) _ _ d2 1 hu3 (by omega) (by omega) (by omega)
          rw [hd3.val, ival_self, show clampN 1 = 1 from rfl] at HPS
          obtain ⟨zz, HZZ⟩ : ∃ q, Hid (z' / 2 ^ 1 = q) := ⟨_, hide rfl⟩
          rw [HZZ.out] at HPS
          have HPS := hide HPS
          have HLM := hide hlm
          have HLF := hide hlf
          have HD3 := hide hd3
          have HU3 := hide hu3
          have HB3 := hide hb3
          obtain ⟨A9, c9, hAeq, -, -, -, hcell⟩ := hu3
          injection hAeq with hAeq hxx hceq
          subst hAeq hceq
          obtain ⟨b1, o1, rfl, -, hb1', hcell1⟩ := hcell hd0
          have hcl := hcell1 0 hd0
          simp only [Nat.add_zero] at hcl
          obtain ⟨D0, HD0⟩ : ∃ D, Hid (nth d2 0 = D) := ⟨_, hide rfl⟩
          obtain ⟨r, HR⟩ : ∃ r, Hid (D0 % 2 = r) := ⟨_, hide rfl⟩
          rw [HD0.out] at hcl hand hD0
          rw [HR.out] at hand
          clear hcell hcell1 hlm hlf hd3 hb3 hz' hle
          obtain ⟨i0, i1, i2, i3⟩ := hbx3.two
          by_cases hr : r = 0
          · have d1 : ((r : Int) == 0) = true := by rw [hr]; rfl
            have HM0 : Hid (z'.natAbs % 2 ^ 1 = 0) := hide (by rw [HLM.out, HD0.out, ← hr, ← HR.out])
            clear hr
            go_wp2_with fail
            refine HPS.out.mono ?_
            rintro e w5 ⟨hb5, u5, d5, rfl, hu5, hd5⟩
            obtain ⟨A5, c5, rfl⟩ := hu5.form
            have hbx5 := hbx3.below hb5 hbx3.lt
            have hrs5 := hrs3.below hb5 hrs3.lt
            have s5 := hb5.size
            clear i0 i1 i2 i3 hcl
            obtain ⟨i0, i1, i2, i3⟩ := hbx5.two
            obtain ⟨w6, hW6, hbx6, hf6, hk6, hs6, hB6⟩ := set2_all hbx5 (.bool (decide (zz < 0))) (.slice A5 d5.length c5)
            have hrs6 := hf6 _ _ _ (by omega) hrs5
            have hu6 := hk6 _ _ _ (by omega) hu5
            have HB6 := hide (hB6 _ _ (HB3.out.trans (hb5.mono HB3.out.size)) (Nat.le_refl _))
            have hbs6 : W0.heap.size ≤ w6.heap.size := by omega
            clear hB6 hk6 hf6 hs6
            go_upto_region 9 with (fail)
            rw [← hW6]
            clear hW6 i0 i1 i2 i3
            go_wp2_with fail
            go_roundw
            case rel => exact ⟨t + 1, zz, by rw [show x + (t : Int) + 1 = x + ((t + 1 : Nat) : Int) from by omega], (by rw [← HZZ.out]; exact HLF.out.step HM0.out), A5, c5, d5, hbx6, hu6.mono hbs3, hd5, hrs6, HB6.out, hbs6⟩
            case measure => simp [intOf]; omega
          · have d1 : ((r : Int) == 0) = false := by rw [beq_eq_false_iff_ne]; omega
            have HO : Hid (z'.natAbs % 2 = 1) := hide (by
              have h1 := HLM.out
              rw [HD0.out, Nat.pow_one] at h1
              have h2 := HR.out
              omega)
            have HF := hide (HLF.out.done (x := x) HNZ.out HO.out)
            clear hr
            obtain ⟨g0, g1, g2, g3, g4, g5⟩ := hrs3.three
            go_wp2_with fail
            refine bodyPost_ret (results_dyad rfl _ _ _ _ _ _ _ rfl (((hrs3.set_ 0 _).set_ 1 _).set_ 2 _)) rfl ⟨below3 HB3.out (by omega) _ _ _, ?_⟩
            rw [HF.out.1, HF.out.2]
            exact ⟨_, d2, rfl, (nums_low3 HU3.out (by omega) _ _ _).mono (by omega), HD3.out⟩
end Go.Proofs.YtnfbngiabdlclaaGreat
end
section
set_option linter.unusedVariables false
set_option linter.unusedSimpArgs false
namespace Go.Proofs.YtnfbngiabdlclaaGreat
open Go.RowKit
open L (val dig nth)

theorem field_dyad0 (a b c : Value) (w : World) : (Instr.field 34 (.agg #[a, b, c]) 0).run Tryz.prog w = .ok (.agg #[a, b]) w := by kernel_rfl
theorem nearR_calls (w : World) (n : Int) : Calls Tryz.prog 112 #[.int .i64 n] w fun e w' => w = w' ∧ e = .returned (.int .i64 (nearZ n)) := by
  go_enter Tryz.func112, Tryz.ntmps112
  go_wp2
  go_ret
  exact ⟨rfl, rfl⟩
theorem n_in {z x : Int} (h1 : -4000 ≤ x) (h2 : x ≤ 4000) : nM z x = pM z ∧ nE z x = pE z x := by
  unfold nM nE
  rw [cM_in h1 h2]
  by_cases hz : z = 0
  · subst hz; exact ⟨rfl, by rw [pE_zero, pE_zero]⟩
  · rw [cE_in h1 h2 hz]; exact ⟨rfl, rfl⟩
theorem n_out {z x : Int} (h : x < -4000 ∨ 4000 < x) : nM z x = 0 ∧ nE z x = 0 := by
  have : cM z x = 0 := by unfold cM; rw [if_pos (by omega)]
  unfold nM nE; rw [this]; exact ⟨pM_zero, pE_zero _⟩
/-- The end of a function whose result is a dyad that a callee handed back. -/
theorem retQ2 {w w2 : World} {r B : Nat} {z x : Int} {v : Value} {d : List Nat} (hB : w.heap.size ≤ B) (hrB : r < B) (hu : Nums w2 B v d) (hd : Canon d z.natAbs) (a b c : Value) :
    RetQ w.heap.size z x (.returned (.agg #[.bool (decide (z < 0)), v, .int .i64 x])) (((w2.setCell ⟨r, 0, none⟩ a).setCell ⟨r, 1, none⟩ b).setCell ⟨r, 2, none⟩ c) :=
  ⟨v, d, rfl, (nums_low3 hu hrB a b c).mono hB, hd⟩

theorem countsR_calls (w : World) (n : Bool) (B : Nat) (v : Value) (l : List Nat) (x : Int) (h : Nums w B v l) (hl : l.length ≤ 40000) (hx0 : -9223372036854775808 ≤ x) (hx1 : x ≤ 9223372036854775807) :
    Calls Tryz.prog 110 #[.agg #[.bool n, v, .int .i64 x]] w fun e w' => Below w.heap.size w w' ∧ RetQ w.heap.size (nM (ival n (val W l)) x) (nE (ival n (val W l)) x) e w' := by
  have h0 := h
  obtain ⟨A, cap, rfl, -, -, -, hc⟩ := h
  obtain ⟨W0, hW, hbx, hrs, hB0, hs⟩ := start2 w 34 34 #[.bool n, .slice A l.length cap, .int .i64 x] #[.bool false, .slice none 0 0, .int .i64 0]
  have h1 := h0.up hB0
  have hs2 : w.heap.size + 1 < W0.heap.size := by omega
  clear hs hc
  obtain ⟨z, HZ⟩ : ∃ z, Hid (ival n (val W l) = z) := ⟨_, hide rfl⟩
  rw [HZ.out]
  obtain ⟨c0, c1, c2, -, -, -⟩ := hbx.three
  obtain ⟨d0, d1, d2, d3, d4, d5⟩ := hrs.three
  go_enter Tryz.func110, Tryz.ntmps110
  go_upto_region 1 with (fail)
  rw [← hW]
  clear hW
  by_cases h5 : x < -4000
  · have HR := hide (n_out (z := z) (x := x) (.inl h5))
    go_wp2_with fail
    refine bodyPost_ret (results_dyad rfl _ _ _ _ _ _ _ rfl (((hrs.set_ 0 _).set_ 1 _).set_ 2 _)) rfl ⟨below3 hB0 (by omega) _ _ _, ?_⟩
    rw [HR.out.1, HR.out.2]
    exact ⟨_, [], rfl, Nums.nil _ _, (L.dig_zero W).symm⟩
  · by_cases h6 : 4000 < x
    · have HR := hide (n_out (z := z) (x := x) (.inr h6))
      go_wp2_with fail
      refine bodyPost_ret (results_dyad rfl _ _ _ _ _ _ _ rfl (((hrs.set_ 0 _).set_ 1 _).set_ 2 _)) rfl ⟨below3 hB0 (by omega) _ _ _, ?_⟩
      rw [HR.out.1, HR.out.2]
      exact ⟨_, [], rfl, Nums.nil _ _, (L.dig_zero W).symm⟩
    · have HR := hide (n_in (z := z) (x := x) (by omega) (by omega))
      have HP := plainR_calls W0 n B _ l x h1 hl (by omega) (by omega)
      obtain ⟨M, HM⟩ : ∃ m, Hid (pM z = m) := ⟨_, hide rfl⟩
      obtain ⟨E, HE⟩ : ∃ m, Hid (pE z x = m) := ⟨_, hide rfl⟩
      rw [HZ.out, HM.out, HE.out] at HP
      clear d0 d1 d2 d3 d4 d5
      go_wp2_with fail
      refine HP.mono ?_
      rintro e w1 ⟨hb1, u, d, rfl, hu, hd⟩
      obtain ⟨A1, cap1, rfl⟩ := hu.form
      have hrs1 := hrs.below hb1 hrs.lt
      have s1 := hb1.size
      obtain ⟨d0, d1, d2, d3, d4, d5⟩ := hrs1.three
      go_wp2_with fail
      refine bodyPost_ret (results_dyad rfl _ _ _ _ _ _ _ rfl (((hrs1.set_ 0 _).set_ 1 _).set_ 2 _)) rfl ⟨below3 (hB0.trans (hb1.mono hB0.size)) (by omega) _ _ _, ?_⟩
      rw [HR.out.1, HR.out.2, HM.out, HE.out]
      exact retQ2 (by omega) hs2 hu hd _ _ _

theorem lg_norm (z x : Int) : lgN z x = (if nM z x = 0 then 0 else nE z x + nbits (nM z x).natAbs - 1) ∧ lgOk z x = decide (nM z x ≠ 0) := by
  by_cases h : cM z x = 0
  · have : nM z x = 0 := by unfold nM; rw [h]; exact pM_zero
    unfold lgN lgOk
    rw [this, h]; exact ⟨rfl, rfl⟩
  · have hne : nM z x ≠ 0 := pM_ne h
    have e := congrArg Int.natAbs (pM_mul (cM z x))
    rw [Int.natAbs_mul, natAbs_pow] at e
    have h2 := nbits_mul (pM (cM z x)).natAbs (tz (cM z x).natAbs) (by have := pM_ne h; omega)
    rw [e] at h2
    unfold lgN lgOk
    rw [if_neg h, if_neg hne, decide_eq_true h, decide_eq_true hne]
    refine ⟨?_, rfl⟩
    unfold nE nM
    rw [pE_of h]; omega

end Go.Proofs.YtnfbngiabdlclaaGreat
end
section
set_option linter.unusedVariables false
set_option linter.unusedSimpArgs false
namespace Go.Proofs.YtnfbngiabdlclaaGreat
open Go.RowKit
open L (val dig nth)

theorem clampN_nat {m : Nat} (h : m ≤ 8192) : clampN (m : Int) = m := by unfold clampN; omega
/-- z' times 2^m is P. -/
def UpTo (P z' : Int) (m : Nat) : Prop := z' * 2 ^ m = P
theorem UpTo.step {P z' : Int} {m c : Nat} (h : UpTo P z' m) (hc : c ≤ m) : UpTo P (z' * 2 ^ c) (m - c) := by
  unfold UpTo at *
  rw [Int.mul_assoc, ← Int.pow_add, show c + (m - c) = m from by omega]; exact h
theorem UpTo.lt {P z' : Int} {m k : Nat} (h : UpTo P z' m) (hk : P.natAbs < W ^ k) : z'.natAbs < W ^ k := by
  unfold UpTo at h
  have e := congrArg Int.natAbs h
  rw [Int.natAbs_mul, natAbs_pow] at e
  exact Nat.lt_of_le_of_lt (by rw [← e]; exact Nat.le_mul_of_pos_right _ (Nat.two_pow_pos _)) hk
/-- The box of an integer, and of the result, that a loop works at. -/
def AtBox2 (w wr : World) (B r : Nat) (z' : Int) : Prop := ∃ A c d, Blk wr r 25 #[.bool (decide (z' < 0)), .slice A d.length c] ∧ Nums wr B (.slice A d.length c) d ∧ Canon d z'.natAbs ∧
  Blk wr (r + 1) 25 #[.bool false, .slice none 0 0] ∧ Below w.heap.size w wr ∧ B ≤ wr.heap.size

set_option maxHeartbeats 2000000 in
set_option maxRecDepth 100000 in
theorem raisedR_calls (w : World) (n : Bool) (B : Nat) (v : Value) (l : List Nat) (z P : Int) (m k : Nat) (h : Nums w B v l) (hd0 : Canon l z.natAbs) (hn : n = decide (z < 0)) (hP : z * 2 ^ m = P) (hPk : P.natAbs < W ^ k) (hk : k ≤ 50000) (hm : m ≤ 1000000) :
    Calls Tryz.prog 146 #[.agg #[.bool n, v], .int .i64 m] w fun e w' => Below w.heap.size w w' ∧ RetZ w.heap.size P e w' := by
  subst hn
  have h0 := h
  obtain ⟨A, cap, rfl, -, -, -, hc⟩ := h
  obtain ⟨W0, hW, hbx, hrs, hB0, hs⟩ := start_11 w 25 25 (.bool (decide (z < 0))) (.slice A l.length cap) (.bool false) (.slice none 0 0)
  have h1 := h0.up hB0
  have hs2 : w.heap.size + 1 < W0.heap.size := by omega
  have hne1 : ¬ (w.heap.size = w.heap.size + 1) := by omega
  have hne2 : ¬ (w.heap.size + 1 = w.heap.size) := by omega
  clear hs hc
  have HPK := hide hPk
  have HU0 : UpTo P z m := hP
  have HHM := hide hm
  clear hP hPk
  obtain ⟨c, HC⟩ : ∃ c, Hid (clampN 8000 = c) := ⟨_, hide rfl⟩
  have HC8 : Hid (c = 8000) := hide (by rw [← HC.out]; rfl)
  go_enter Tryz.func146, Tryz.ntmps146
  go_upto_region 1 with (fail)
  rw [← hW]
  clear hW
  go_wp2_with fail
  have HA0 : AtBox2 w W0 0 w.heap.size z := ⟨A, cap, l, hbx, h1.mono (Nat.zero_le _), hd0, hrs, hB0, Nat.zero_le _⟩
  clear hbx hrs hd0 h0 h1
  go_loopw [1] (fun s wr => ∃ (j : Nat) (z' : Int), s = .int .i64 j ∧ j ≤ m ∧ UpTo P z' j ∧ AtBox2 w wr 0 w.heap.size z') (fun s _ => (intOf s).toNat)
  case atStart => exact ⟨m, z, rfl, Nat.le_refl _, HU0, HA0⟩
  case round =>
    obtain ⟨j, z', rfl, hjm, hup, A2, c2, d2, hbx3, hu3, hd3, hrs3, hb3, hbs3⟩ := hrel
    obtain ⟨wo, rfl⟩ : ∃ wo : World, wo = wr := ⟨_, rfl⟩
    have hj6 : j ≤ 1000000 := by have := HHM.out; omega
    have hd2l : d2.length ≤ k := by rw [hd3.len]; exact hup.lt HPK.out
    have HUP := hide hup
    have HB3 := hide hb3
    have hwo : w.heap.size + 1 < wo.heap.size := hrs3.lt
    obtain ⟨i0, i1, i2, i3⟩ := hbx3.two
    by_cases h8 : 8000 < j
    · have HPS := zshlR_calls wo (decide (z' < 0)) _ _ d2 8000 hu3 (by omega) (by omega) (by omega)
      rw [hd3.val, ival_self, HC.out] at HPS
      obtain ⟨zz, HZZ⟩ : ∃ q, Hid (z' * 2 ^ c = q) := ⟨_, hide rfl⟩
      rw [HZZ.out] at HPS
      have h8' : (8000 : Int) < (j : Int) := by omega
      clear hup hd3 hb3
      go_wp2_with fail
      refine HPS.mono ?_
      rintro e w5 ⟨hb5, u5, d5, rfl, hu5, hd5⟩
      obtain ⟨A5, c5, rfl⟩ := hu5.form
      have hbx5 := hbx3.below hb5 hbx3.lt
      have hrs5 := hrs3.below hb5 hrs3.lt
      have s5 := hb5.size
      clear i0 i1 i2 i3 HPS
      obtain ⟨i0, i1, i2, i3⟩ := hbx5.two
      obtain ⟨w6, hW6, hbx6, hf6, hk6, hs6, hB6⟩ := set2_all hbx5 (.bool (decide (zz < 0))) (.slice A5 d5.length c5)
      have hrs6 := hf6 _ _ _ (by omega) hrs5
      have hu6 := hk6 _ _ _ (by omega) hu5
      have HB6 := hide (hB6 _ _ (HB3.out.trans (hb5.mono HB3.out.size)) (Nat.le_refl _))
      clear hB6 hk6 hf6 hs6
      go_upto_region 3 with (fail)
      rw [← hW6]
      clear hW6 i0 i1 i2 i3
      go_wp2_with fail
      go_roundw
      case rel => exact ⟨j - 8000, zz, by rw [show (j : Int) - 8000 = ((j - 8000 : Nat) : Int) from by omega], by omega, by have := HUP.out.step (c := c) (by rw [HC8.out]; omega); rwa [HZZ.out, HC8.out] at this, A5, c5, d5, hbx6, hu6.mono (Nat.zero_le _), hd5, hrs6, HB6.out, Nat.zero_le _⟩
      case measure => simp [intOf]; omega
    · have HPS := zshlR_calls wo (decide (z' < 0)) _ _ d2 j hu3 (by omega) (by omega) (by omega)
      rw [hd3.val, ival_self, clampN_nat (by omega), show z' * 2 ^ j = P from HUP.out] at HPS
      have h8' : ¬ (8000 : Int) < (j : Int) := by omega
      clear hup hd3 hb3
      go_wp2_with fail
      refine HPS.mono ?_
      rintro e w5 ⟨hb5, u5, d5, rfl, hu5, hd5⟩
      obtain ⟨A5, c5, rfl⟩ := hu5.form
      have hrs5 := hrs3.below hb5 hrs3.lt
      have s5 := hb5.size
      clear i0 i1 i2 i3 HPS
      obtain ⟨i0, i1, i2, i3⟩ := hrs5.two
      go_wp2_with fail
      refine bodyPost_ret (results_int rfl _ _ _ _ _ _ rfl ((hrs5.set_ 0 _).set_ 1 _)) rfl ⟨below2 (HB3.out.trans (hb5.mono HB3.out.size)) (by omega) _ _, ?_⟩
      exact retZ2 (by omega) (by omega) hu5 hd5 _ _

theorem up_lt {z : Int} {k c t : Nat} (hz : z.natAbs < W ^ k) (hc : c ≤ 64 * t) : (z * 2 ^ c).natAbs < W ^ (k + t) := by
  have := len_mul2 (d := dig W (z * 2 ^ c).natAbs) (k := k) (n := c) (t := t) (z := z) rfl hz hc
  rwa [L.dig_len W_gt] at this
set_option maxRecDepth 100000 in
theorem lowerR_calls (w : World) (n : Bool) (B : Nat) (v : Value) (l : List Nat) (z x R : Int) (h : Nums w B v l) (hd0 : Canon l z.natAbs) (hn : n = decide (z < 0)) (hl : l.length ≤ 10000) (hx0 : -8192 ≤ x) (hx1 : x ≤ 100000) (hR : scF z x = R) :
    Calls Tryz.prog 111 #[.agg #[.bool n, v], .int .i64 x] w fun e w' => Below w.heap.size w w' ∧ RetZ w.heap.size R e w' := by
  have h0 := h
  have hlt0 := h.lt
  obtain ⟨A, cap, rfl, -, -, -, hc⟩ := h
  obtain ⟨W0, hW, hbx, hrs, hB0, hs⟩ := start_11 w 25 25 (.bool n) (.slice A l.length cap) (.bool false) (.slice none 0 0)
  have h1 := h0.up hB0
  have hs2 : w.heap.size + 1 < W0.heap.size := by omega
  clear hs hc
  obtain ⟨c0, c1, -, -⟩ := hbx.two
  have hzl : z.natAbs < W ^ l.length := by rw [← hd0.val]; exact L.val_lt l hlt0
  by_cases hx : 0 ≤ x
  · obtain ⟨m, rfl⟩ : ∃ m : Nat, x = m := ⟨x.toNat, by omega⟩
    have hP : z * 2 ^ m = R := by rw [← hR]; unfold scF; rw [if_pos hx, Int.toNat_natCast]
    have HP := raisedR_calls W0 n B _ l z R m (l.length + 1563) h1 hd0 hn hP (by rw [← hP]; exact up_lt hzl (by omega)) (by omega) (by omega)
    clear hP hR hn hd0 hzl
    go_enter Tryz.func111, Tryz.ntmps111
    go_upto_region 1 with (fail)
    rw [← hW]
    clear hW hlt0
    go_wp2_with fail
    refine HP.mono ?_
    rintro e w1 ⟨hb1, u, d, rfl, hu, hd⟩
    obtain ⟨A1, cap1, rfl⟩ := hu.form
    have hrs1 := hrs.below hb1 hrs.lt
    have s1 := hb1.size
    obtain ⟨g0, g1, g2, g3⟩ := hrs1.two
    go_wp2_with fail
    refine bodyPost_ret (results_int rfl _ _ _ _ _ _ rfl ((hrs1.set_ 0 _).set_ 1 _)) rfl ⟨below2 (hB0.trans (hb1.mono hB0.size)) (by omega) _ _, ?_⟩
    exact retZ2 (by omega) hs2 hu hd _ _
  · have hx' : x < 0 := by omega
    have HP := zshrR_calls W0 n B _ l (-x) h1 (by omega) (by omega) (by omega)
    have hcl : clampN (-x) = (-x).toNat := by unfold clampN; omega
    rw [hd0.val, hn, ival_self, hcl, show z / 2 ^ (-x).toNat = R from by rw [← hR]; unfold scF; rw [if_neg hx]] at HP
    rw [← hn] at HP
    have hww : IntKind.i64.wrap (-x) = -x := IntWalk.i64_in _ (by omega)
    clear hR hn hd0 hzl hcl hx
    go_enter Tryz.func111, Tryz.ntmps111
    go_upto_region 1 with (fail)
    rw [← hW]
    clear hW hlt0
    go_wp2_with fail
    refine HP.mono ?_
    rintro e w1 ⟨hb1, u, d, rfl, hu, hd⟩
    obtain ⟨A1, cap1, rfl⟩ := hu.form
    have hrs1 := hrs.below hb1 hrs.lt
    have s1 := hb1.size
    obtain ⟨g0, g1, g2, g3⟩ := hrs1.two
    go_wp2_with fail
    refine bodyPost_ret (results_int rfl _ _ _ _ _ _ rfl ((hrs1.set_ 0 _).set_ 1 _)) rfl ⟨below2 (hB0.trans (hb1.mono hB0.size)) (by omega) _ _, ?_⟩
    exact retZ2 (by omega) hs2 hu hd _ _
end Go.Proofs.YtnfbngiabdlclaaGreat
end

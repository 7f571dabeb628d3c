/- nat.Shl, nat.Shr: a number times, or divided by, a power of two. -/
import Derived.Test.YtnkembnachhicaaNat3
import Derived.StillTailTactics
set_option linter.unusedVariables false
namespace Go.Proofs.Ytnkembnachhicaa
open Go.RowKit
open L (val dig nth)

theorem nth_zeros (n j : Nat) : nth (List.replicate n 0) j = 0 := by
  simp [L.nth_def, List.getD_eq_getElem?_getD, List.getElem?_replicate]; split <;> rfl

/-- A number of places that counts. -/
def clampN (n : Int) : Nat := (max 0 (min n 8192)).toNat
theorem clampN_max (n : Int) : max 0 (min n 8192) = (clampN n : Int) := by unfold clampN; omega
theorem clampN_le (n : Int) : clampN n ≤ 8192 := by unfold clampN; omega

set_option maxRecDepth 100000 in
theorem shl_calls (w : World) (B : Nat) (v : Value) (l : List Nat) (n : Int) (h : Nums w B v l) (hl : l.length ≤ 60000) (hn0 : -9223372036854775808 ≤ n) (hn1 : n ≤ 9223372036854775807) :
    Calls Try.prog 89 #[v, .int .i64 n] w fun e w' => Below w.heap.size w w' ∧ RetU w.heap.size (val W l * 2 ^ clampN n) e w' := by
  go_enter Try.func89, Try.ntmps89
  go_wp2_with fail
  refine (trim_calls _ B _ l h).mono ?_
  rintro e w1 ⟨rfl, u1, p, rfl, hp, hd⟩
  have lp := Nat.le_trans (canon_len_le hd h.lt) hl
  have hp0 := hp.lt
  obtain ⟨A1, c1, rfl, -, -, -, hcp⟩ := hp
  go_upto_region 3 with (fail)
  have hm := clampN_le n
  rw [clampN_max n]
  obtain ⟨m, HCl⟩ : ∃ m, Hid (clampN n = m) := ⟨_, hide rfl⟩
  rw [HCl.out] at hm ⊢
  go_upto_region 4 with (fail)
  rw [and63 m (by omega), div64 m]
  have HM : Hid (m = 64 * (m / 64) + m % 64) := hide (by omega)
  have hlf : m % 64 ≤ 63 := by omega
  have hwd : m / 64 ≤ 128 := by omega
  generalize m / 64 = wd at *
  generalize m % 64 = lf at *
  have hmk := mkU_run ((p.length : Int) + (wd : Int) + 1) (p.length + wd + 1) (by omega) (by omega)
  go_wp2_with fail
  clear hmk
  go_loopw [28] (fun i wr => ∃ (k : Nat) (o : List Nat), k ≤ p.length ∧ i = .int .i64 k ∧ Out wr w.heap.size o ∧ Hid (o.length = p.length + wd + 1) ∧ Hid (∀ x ∈ o, x < W) ∧
      Hid (val W o = val W (p.take k) * 2 ^ m) ∧ Hid (∀ j, k + wd < j → nth o j = 0) ∧ nth o (k + wd) < 2 ^ lf ∧ Below w.heap.size w wr) (fun i _ => p.length - (intOf i).toNat)
  case atStart => exact ⟨0, _, Nat.zero_le _, rfl, Out.made w _, hide (by simp), hide (fun x hx => by rw [(List.mem_replicate.1 hx).2]; exact W_pos), hide (by simp [L.val, L.val_replicate]), hide (fun j _ => nth_zeros _ j), by rw [nth_zeros]; exact Nat.two_pow_pos _, (Below.refl _ _).alloc (Nat.le_refl _) _⟩
  case round =>
    obtain ⟨i, o, hi, rfl, hO, HO, HOlt, HI, HZ, hlow, hB⟩ := hrel
    by_cases hlt : i < p.length
    · obtain ⟨b1, o1, rfl, -, hb1, hcell1⟩ := hcp (by omega)
      have h1 : wr.cell? ⟨b1, o1 + i, none⟩ = _ := (hB.cell (p := ⟨b1, o1 + i, none⟩) hb1).trans (hcell1 i hlt)
      have px := nth_lt hp0 i
      have hol : i + wd < o.length := by have := HO.out; omega
      have h3 := hO.cell hol
      have h4 := hO.frozen (i + wd)
      have bi : (i : Int) + (wd : Int) < (p.length : Int) + (wd : Int) + 1 := by omega
      clear hcell1 hcp
      obtain ⟨hor, horl⟩ := or_shl (nth o (i + wd)) (nth p i) lf hlf hlow px
      have HOR := hide hor
      have HVn : Hid (val W (p.take (i + 1)) * 2 ^ m = val W (p.take i) * 2 ^ m + W ^ (i + wd) * (nth p i * 2 ^ lf)) := hide (by
        rw [L.val_take_step W p i, Nat.add_mul, Nat.pow_add W i wd, W_pow wd]
        rw [show 2 ^ m = 2 ^ (64 * wd) * 2 ^ lf from by rw [HM.out, Nat.pow_add]]
        congr 1
        simp only [Nat.mul_assoc, Nat.mul_left_comm])
      clear hor
      by_cases hz : lf = 0
      · subst hz
        have hlow0 : nth o (i + wd) = 0 := by rw [Nat.pow_zero] at hlow; omega
        have e0 : bits .or .u64 (nth o (i + wd) : Nat) (nth p i : Nat) = ((nth o (i + wd) + nth p i : Nat) : Int) := by
          rw [bits_or_u64_nat _ _ (by omega) px, hlow0, Nat.zero_or, Nat.zero_add]
        have E0 := hide e0
        have HLW := hide hlow0
        clear e0 hlow0
        go_wp2_with fail
        go_roundw
        case rel =>
          refine ⟨i + 1, _, by omega, by go_num, hO.set_of (i + wd) _ E0.out, hide (by simpa using HO.out), hide (L.mem_set_lt o HOlt.out _ _ (by rw [HLW.out, Nat.zero_add]; exact px)), hide ?_,
              hide (fun j hj => by rw [L.getD_set_ne _ _ _ _ (by omega)]; exact HZ.out j (by omega)), ?_, hB.setCell (Nat.le_refl _) _⟩
          · rw [L.shl_step0 W o (i + wd) (nth p i) hol, HVn.out, HI.out, Nat.pow_zero, Nat.mul_one]
          · rw [L.getD_set_ne _ _ _ _ (by omega), HZ.out _ (by omega)]; exact Nat.two_pow_pos _
        case measure => simp [intOf]; omega
      · have hlf1 : 1 ≤ lf := by omega
        have hol' : i + wd + 1 < o.length := by have := HO.out; omega
        have h5 := hO.cell hol'
        have h6 := hO.frozen (i + wd + 1)
        have bi' : (i : Int) + (wd : Int) + 1 < (p.length : Int) + (wd : Int) + 1 := by omega
        have HTOP := hide (shr_top (nth p i) lf (by omega))
        go_wp2_with fail
        go_roundw
        case rel =>
          have hlt2 : nth p i / 2 ^ (64 - lf) < 2 ^ lf := by
            rw [Nat.div_lt_iff_lt_mul (Nat.two_pow_pos _), Nat.mul_comm, W_split (by omega)]; exact px
          refine ⟨i + 1, _, by omega, by go_num, (hO.set_of (i + wd) _ HOR.out).set_of (i + wd + 1) _ (shr_nat (nth p i) (64 - lf)), hide (by simpa using HO.out),
              hide (L.mem_set_lt _ (L.mem_set_lt o HOlt.out _ _ horl) _ _ (Nat.lt_of_le_of_lt (Nat.div_le_self _ _) px)), hide ?_,
              hide (fun j hj => by rw [L.getD_set_ne _ _ _ _ (by omega), L.getD_set_ne _ _ _ _ (by omega)]; exact HZ.out j (by omega)), ?_, (hB.setCell (Nat.le_refl _) _).setCell (Nat.le_refl _) _⟩
          · rw [L.shl_step W o (i + wd) _ _ (nth p i * 2 ^ lf) hol' (HZ.out _ (by omega)) (by rw [HTOP.out]; exact Nat.mod_add_div _ _), HVn.out, HI.out]
          · rw [show i + 1 + wd = i + wd + 1 from by omega, L.getD_set_self _ _ _ (by simpa using hol')]; exact hlt2
        case measure => simp [intOf]; omega
    · have hke : i = p.length := by omega
      subst hke
      have HV : Hid (val W o = val W l * 2 ^ clampN n) := hide (by rw [HI.out, List.take_of_length_le (Nat.le_refl _), hd.val, HCl.out])
      have hN := hO.nums (Nat.le_refl _) (by have := HO.out; omega) HOlt.out
      rw [HO.out] at hN
      have HN := hide hN
      clear hN hcp
      go_wp2_with fail
      refine (trim_calls _ _ _ _ HN.out).mono ?_
      rintro e w1 ⟨rfl, u, d, rfl, hu, hd⟩
      go_wp2_with fail
      go_ret
      refine ⟨hB, u, d, rfl, hu, ?_⟩
      rw [← HV.out]
      exact hd

set_option maxRecDepth 100000 in
theorem shr_calls (w : World) (B : Nat) (v : Value) (l : List Nat) (n : Int) (h : Nums w B v l) (hl : l.length ≤ 60000) (hn0 : -9223372036854775808 ≤ n) (hn1 : n ≤ 9223372036854775807) :
    Calls Try.prog 110 #[v, .int .i64 n] w fun e w' => Below w.heap.size w w' ∧ RetU w.heap.size (val W l / 2 ^ clampN n) e w' := by
  go_enter Try.func110, Try.ntmps110
  go_wp2_with fail
  refine (trim_calls _ B _ l h).mono ?_
  rintro e w1 ⟨rfl, u1, p, rfl, hp, hd⟩
  have lp := Nat.le_trans (canon_len_le hd h.lt) hl
  have hp0 := hp.lt
  have hpn := hp
  obtain ⟨A1, c1, rfl, hcap, -, -, hcp⟩ := hp
  go_upto_region 3 with (fail)
  have hm := clampN_le n
  rw [clampN_max n]
  obtain ⟨m, HCl⟩ : ∃ m, Hid (clampN n = m) := ⟨_, hide rfl⟩
  rw [HCl.out] at hm ⊢
  go_upto_region 4 with (fail)
  rw [and63 m (by omega), div64 m]
  have HM : Hid (m = 64 * (m / 64) + m % 64) := hide (by omega)
  have hlf : m % 64 ≤ 63 := by omega
  have hwd : m / 64 ≤ 128 := by omega
  generalize m / 64 = wd at *
  generalize m % 64 = s at *
  by_cases hge : p.length ≤ wd
  · have hge' : (p.length : Int) ≤ (wd : Int) := by omega
    have HV : Hid (val W l / 2 ^ clampN n = 0) := hide (by
      rw [HCl.out, HM.out, ← hd.val]
      apply Nat.div_eq_of_lt
      have h1 := L.val_lt p hp0
      rw [W_pow] at h1
      exact Nat.lt_of_lt_of_le h1 (Nat.pow_le_pow_right (by omega) (by omega)))
    go_wp2_with fail
    go_ret
    exact ⟨Below.refl _ _, _, [], rfl, Nums.nil _ _, by rw [HV.out]; exact (L.dig_zero W).symm⟩
  · obtain ⟨b1, o1, rfl, -, hb1, hcell1⟩ := hcp (by omega)
    have hwl : (wd : Int) < (p.length : Int) := by omega
    have hsub := hpn.from_ (k := wd) (by omega)
    have hdl : (p.drop wd).length = p.length - wd := List.length_drop
    have hne : ¬ c1 = wd := by omega
    have hle' : wd ≤ p.length := by omega
    clear hge
    go_wp2_with fail
    refine (clone_calls _ B _ (p.drop wd) hsub (by omega)).mono ?_
    rintro e w1 ⟨hB0, u1, rfl, hown⟩
    obtain ⟨g, cap, rfl, hown'⟩ := OwnU.toN hown (by omega)
    clear hown
    have hown : OwnN w1 w.heap.size g (p.length - wd) cap (p.drop wd) := by rw [hdl] at hown'; exact hown'
    clear hown'
    rw [hdl]
    have HD := hide hdl
    have hgl := hown.ge
    have hB0s := hB0.size
    obtain ⟨N, HN⟩ : ∃ N, Hid (p.length - wd = N) := ⟨_, hide rfl⟩
    rw [HN.out] at hown ⊢
    have hN1 : 0 < N := by have := HN.out; omega
    have hN2 : N ≤ 60000 := by have := HN.out; omega
    have HQ : Hid (val W (p.drop wd) / 2 ^ s = val W l / 2 ^ clampN n) := hide (by
      rw [HCl.out, HM.out, ← hd.val, L.val_drop W W_pos p hp0, W_pow, Nat.div_div_eq_div_mul, ← Nat.pow_add])
    have HPl : Hid ((p.drop wd).length = N) := hide (by rw [hdl]; exact HN.out)
    have hP0 : ∀ x ∈ p.drop wd, x < W := fun x hx => hp0 x (List.mem_of_mem_drop hx)
    have HP0 := hide hP0
    have hcellP : ∀ i, i < N → w.cell? ⟨b1, o1 + wd + i, none⟩ = some (.int .u64 (nth (p.drop wd) i : Nat)) := fun i hi => by
      rw [L.nth_drop, Nat.add_assoc]; exact hcell1 (wd + i) (by have := HN.out; omega)
    have HCP := hide hcellP
    obtain ⟨P, HPe⟩ : ∃ P, Hid (p.drop wd = P) := ⟨_, hide rfl⟩
    rw [HPe.out] at hown HQ HPl HP0 HCP
    clear hdl hP0 hcellP hcell1 hsub hcp hpn hp0 hd HM
    go_wp2_with fail
    go_loopw [29] (fun i wr => ∃ (k : Nat) (o : List Nat), k ≤ N ∧ i = .int .i64 k ∧ OwnN wr w.heap.size g N cap o ∧ Hid (∀ x ∈ o, x < W) ∧
      Hid (val W (o.take k) * 2 ^ s + nth P 0 % 2 ^ s = val W (P.take k) + W ^ k * (nth P k % 2 ^ s)) ∧ Hid (∀ j, k ≤ j → nth o j = nth P j) ∧ Below w.heap.size w wr) (fun i _ => N - (intOf i).toNat)
    case atStart => exact ⟨0, P, Nat.zero_le _, rfl, hown, HP0, hide (by simp [L.val]), hide (fun j _ => rfl), hB0⟩
    case round =>
      obtain ⟨i, o, hi, rfl, hO, HOlt, HI, HZ, hB⟩ := hrel
      by_cases hlt : i < N
      · have h3 := hO.cell hlt
        have h4 := hO.frozen i
        have hPi : nth o i = nth P i := HZ.out i (Nat.le_refl _)
        rw [hPi] at h3
        have px := nth_lt HP0.out i
        have hbl := hO.len
        have HBL := hide hbl
        clear hPi hbl
        have hol : i < o.length := by rw [HBL.out]; exact hlt
        have hW : W = 2 ^ s * 2 ^ (64 - s) := by rw [Nat.mul_comm, W_split (by omega)]
        have HST := hide (L.shr_step W (2 ^ s) (2 ^ (64 - s)) hW (Nat.two_pow_pos s) P o i hol HI.out)
        have hvl : nth P i / 2 ^ s + nth P (i + 1) % 2 ^ s * 2 ^ (64 - s) < W := by
          have h1 : nth P i / 2 ^ s < 2 ^ (64 - s) := by
            rw [Nat.div_lt_iff_lt_mul (Nat.two_pow_pos _), W_split (by omega)]; exact px
          have h2 : nth P (i + 1) % 2 ^ s < 2 ^ s := Nat.mod_lt _ (Nat.two_pow_pos _)
          have h3 : (nth P (i + 1) % 2 ^ s + 1) * 2 ^ (64 - s) ≤ 2 ^ s * 2 ^ (64 - s) := Nat.mul_le_mul_right _ h2
          rw [← hW, Nat.add_mul] at h3
          omega
        have HVL := hide hvl
        have HSET : Hid (∀ j, i + 1 ≤ j → nth (o.set i (nth P i / 2 ^ s + nth P (i + 1) % 2 ^ s * 2 ^ (64 - s))) j = nth P j) :=
          hide (fun j hj => by rw [L.getD_set_ne _ _ _ _ (by omega)]; exact HZ.out j (by omega))
        clear hW hvl
        by_cases hs0 : s = 0
        · have HS0 : Hid (nth P i = nth P i / 2 ^ s + nth P (i + 1) % 2 ^ s * 2 ^ (64 - s)) := hide (by rw [hs0, Nat.pow_zero, Nat.div_one, Nat.mod_one, Nat.zero_mul, Nat.add_zero])
          subst hs0
          go_wp2_with fail
          go_roundw
          case rel =>
            refine ⟨i + 1, _, by omega, by go_num, hO.set_of i _ (congrArg (fun x : Nat => (x : Int)) HS0.out), hide (L.mem_set_lt o HOlt.out _ _ HVL.out), HST, HSET, hB.setCell hgl.1 _⟩
          case measure => simp [intOf]; omega
        · have hs1 : 1 ≤ s := by omega
          by_cases hnx : i + 1 < N
          · have h1 : wr.cell? ⟨b1, o1 + (i + 1 + wd), none⟩ = some (.int .u64 (nth P (i + 1) : Nat)) := by
              have := (hB.cell (p := ⟨b1, o1 + wd + (i + 1), none⟩) hb1).trans (HCP.out (i + 1) hnx)
              rwa [show o1 + wd + (i + 1) = o1 + (i + 1 + wd) from by omega] at this
            have hgb : g ≠ b1 := by omega
            have h5 : (wr.setCell ⟨g, i, none⟩ (.int .u64 ((nth P i : Nat) / 2 ^ s))).cell? ⟨g, i, none⟩ = some (.int .u64 ((nth P i : Nat) / 2 ^ s)) := by
              have := (hO.set_of i _ (shr_nat (nth P i) s)).cell hlt
              rw [L.getD_set_self _ _ _ (by rw [HBL.out]; exact hlt)] at this
              rw [this, ← shr_nat]
            have hb2 : (i : Int) + 1 + (wd : Int) < (p.length : Int) := by have := HN.out; omega
            go_wp2_with fail
            have s1 : IntKind.i64.wrap ((i : Int) + 1) = (i : Int) + 1 := IntWalk.i64_in _ (by omega)
            have s2 : IntKind.i64.wrap ((i : Int) + 1 + (wd : Int)) = (i : Int) + 1 + (wd : Int) := IntWalk.i64_in _ (by omega)
            have s3 : (0 : Int) ≤ (i : Int) + 1 + (wd : Int) := by omega
            have s4 : ((i : Int) + 1 + (wd : Int)).toNat = i + 1 + wd := by omega
            have s5 : IntKind.u64.wrap (64 - (s : Int)) = 64 - (s : Int) := IntWalk.u64_in _ (by omega)
            have s6 : (0 : Int) ≤ 64 - (s : Int) := by omega
            refine wp_region_still_tail 16 (by kernel_rfl) (by kernel_rfl) ?_
            simp only [List.take_succ_cons, List.take_zero, List.drop_succ_cons, List.drop_zero]
            change wpStill _ _ (World.drew _) _ _ _
            repeat still_step
            refine wpStill_nil ?_
            change wpList _ _ _ _ _ (World.drew _)
            go_wp2_with fail
            go_roundw
            case rel =>
              have hlo : nth P i / 2 ^ s < 2 ^ (64 - s) := by
                rw [Nat.div_lt_iff_lt_mul (Nat.two_pow_pos _), W_split (by omega)]; exact px
              have hor := (or_shl (nth P i / 2 ^ s) (nth P (i + 1)) (64 - s) (by omega) hlo (nth_lt HP0.out (i + 1))).1
              rw [← shr_nat, show nth P (i + 1) * 2 ^ (64 - s) % W = nth P (i + 1) % 2 ^ s * 2 ^ (64 - s) from by
                conv => lhs; rw [← W_split (s := s) (by omega), Nat.mul_comm (2 ^ (64 - s)) (2 ^ s), Nat.mul_mod_mul_right]] at hor
              have h6 := (hO.set_of i _ (shr_nat (nth P i) s)).set_of i _ hor
              rw [List.set_set] at h6
              exact ⟨i + 1, _, by omega, by go_num, h6.drew, hide (L.mem_set_lt o HOlt.out _ _ HVL.out), HST, HSET, ((hB.setCell hgl.1 _).setCell hgl.1 _).drew⟩
            case measure => simp [intOf]; omega
          · have hb2 : ¬ ((i : Int) + 1 + (wd : Int) < (p.length : Int)) := by have := HN.out; omega
            have HS0 : Hid (nth P i / 2 ^ s = nth P i / 2 ^ s + nth P (i + 1) % 2 ^ s * 2 ^ (64 - s)) := hide (by
              rw [L.getD_ge P (i + 1) (by have := HPl.out; omega), Nat.zero_mod, Nat.zero_mul, Nat.add_zero])
            go_wp2_with fail
            go_roundw
            case rel =>
              refine ⟨i + 1, _, by omega, by go_num, hO.set_of i _ ((shr_nat _ _).trans (congrArg (fun x : Nat => (x : Int)) HS0.out)), hide (L.mem_set_lt o HOlt.out _ _ HVL.out), HST, HSET, hB.setCell hgl.1 _⟩
            case measure => simp [intOf]; omega
      · have hke : i = N := by omega
        subst hke
        have HV : Hid (val W o = val W l / 2 ^ clampN n) := hide (by
          rw [← HQ.out]
          exact L.shr_end W (2 ^ s) (Nat.two_pow_pos s) P o i hO.len HPl.out HI.out)
        have HNm := hide (hO.nums HOlt.out)
        go_wp2_with fail
        refine (trim_calls _ _ _ _ HNm.out).mono ?_
        rintro e w1 ⟨rfl, u, d, rfl, hu, hd⟩
        go_wp2_with fail
        go_ret
        refine ⟨hB, u, d, rfl, hu, ?_⟩
        rw [← HV.out]
        exact hd
end Go.Proofs.Ytnkembnachhicaa

/- The document's numbers: Shl, Shr, BitLen. -/
import Derived.Test.YtnkembnachhicaaRef5
set_option linter.unusedVariables false
namespace Go.Proofs.Ytnkembnachhicaa
open Go.RowKit
open L (val dig nth)

theorem pow2_lt {s : Nat} (hs : s < 32) : 2 ^ s < 4294967296 := by
  have : 2 ^ s ≤ 2 ^ 31 := Nat.pow_le_pow_right (by omega) (by omega)
  omega
theorem wrap_pow2 {s : Nat} (hs : s < 32) : IntKind.u64.wrap ((2 : Int) ^ s) = ((2 ^ s : Nat) : Int) := by
  rw [natpow]
  have := pow2_lt hs
  generalize 2 ^ s = x at *
  exact IntWalk.u64_in _ (by omega)
theorem B32_pow2 (k : Nat) : B32 ^ k = 2 ^ (32 * k) := by rw [Nat.pow_mul]; rfl

set_option maxRecDepth 100000 in
theorem shlR_calls (w : World) (B : Nat) (v : Value) (l : List Nat) (n : Int) (h : Nums w B v l) (hl : l.length ≤ 100000) (hn0 : -9223372036854775808 ≤ n) (hn1 : n ≤ 9223372036854775807) :
    Calls Try.prog 112 #[v, .int .i64 n] w fun e w' => Below w.heap.size w w' ∧ RetU w.heap.size (val W l * 2 ^ clampN n) e w' := by
  go_enter Try.func112, Try.ntmps112
  go_wp2_with fail
  refine (shift_calls _ n).mono ?_
  rintro e w1 ⟨rfl, rfl⟩
  have hm := clampN_le n
  obtain ⟨m, HCl⟩ : ∃ m, Hid (clampN n = m) := ⟨_, hide rfl⟩
  rw [HCl.out] at hm ⊢
  go_wp2_with fail
  refine (digits_calls _ B _ l h hl).mono ?_
  rintro e w1 ⟨hB1, u1, d1, rfl, hu1, hd1⟩
  go_wp2_with fail
  rw [wrap_pow2 (show m % 32 < 32 from by omega)]
  have l1 := digits_len hd1 h.lt
  refine (timesD_calls _ _ _ d1 (2 ^ (m % 32)) hu1 hd1.lt (by omega) (pow2_lt (by omega))).mono ?_
  rintro e w2 ⟨hB2, u2, d2, rfl, hu2, hd2⟩
  have l2 : d2.length ≤ d1.length + 1 := by
    rw [hd2.len, Nat.pow_succ]
    exact Nat.mul_lt_mul'' (L.val_lt d1 hd1.lt) (show 2 ^ (m % 32) < B32 from pow2_lt (by omega))
  have HV : Hid (val B32 (List.replicate (m / 32) 0 ++ d2) = val W l * 2 ^ clampN n) := hide (by
    rw [L.val_append, L.val_replicate, List.length_replicate, hd2.val, hd1.val, B32_pow2, HCl.out, Nat.zero_add, Nat.mul_left_comm, ← Nat.pow_add, show 32 * (m / 32) + m % 32 = m from by omega])
  have hmk := mkU_run ((m : Int) / 32) (m / 32) (by omega) (by omega)
  have hle : m / 32 ≤ 256 := by omega
  have hu2' := hu2.below (w' := w2.alloc (.cells (zer (m / 32)) 32)) ((Below.refl _ _).alloc (Nat.le_refl _) _)
  have s1 := hB1.size
  have s2 := hB2.size
  have hd20 := hd2.lt
  go_wp2_with (at_builtin; refine wpList_appendU _ rfl _ _ rfl w2.heap.size _ (List.replicate (m / 32) 0) rfl (OwnU.made w2 (Nat.le_refl _) (m / 32) (by omega)) w1.heap.size _ d2 rfl hu2' (by simp; omega) (by simp) ?_; intro v1 w3 hown1 hgrow1)
  have hlt : ∀ x ∈ List.replicate (m / 32) 0 ++ d2, x < B32 := by
    intro x hx
    rcases List.mem_append.1 hx with hx | hx
    · rw [(List.mem_replicate.1 hx).2]; exact B32_pos
    · exact hd20 x hx
  refine (limbs_calls _ _ _ _ (hown1.nums (fun x hx => Nat.lt_of_lt_of_le (hlt x hx) B32_lt)) hlt (by simp; omega)).mono ?_
  rintro e w4 ⟨hB4, u4, d4, rfl, hu4, hd4⟩
  go_wp2_with fail
  go_ret
  have hB3 : Below w.heap.size w2 w3 := ((Below.refl _ w2).alloc (by omega) _).grown hgrow1 (by simp; omega) (fun k hk => by injection hk with e; simp at e; omega)
  have s3 := hB3.size
  refine ⟨(((hB1.trans (hB2.mono (by omega))).trans hB3).trans (hB4.mono (by omega))), u4, d4, rfl, hu4.mono (by omega), ?_⟩
  rw [HV.out] at hd4
  exact hd4

set_option maxRecDepth 100000 in
theorem shrR_calls (w : World) (B : Nat) (v : Value) (l : List Nat) (n : Int) (h : Nums w B v l) (hl : l.length ≤ 100000) (hn0 : -9223372036854775808 ≤ n) (hn1 : n ≤ 9223372036854775807) :
    Calls Try.prog 111 #[v, .int .i64 n] w fun e w' => Below w.heap.size w w' ∧ RetU w.heap.size (val W l / 2 ^ clampN n) e w' := by
  go_enter Try.func111, Try.ntmps111
  go_wp2_with fail
  refine (shift_calls _ n).mono ?_
  rintro e w1 ⟨rfl, rfl⟩
  have hm := clampN_le n
  obtain ⟨m, HCl⟩ : ∃ m, Hid (clampN n = m) := ⟨_, hide rfl⟩
  rw [HCl.out] at hm ⊢
  go_wp2_with fail
  refine (digits_calls _ B _ l h hl).mono ?_
  rintro e w1 ⟨hB1, u1, d, rfl, hu1, hd⟩
  have l1 := digits_len hd h.lt
  have hd0 := hd.lt
  have hdn := hu1
  have s1 := hB1.size
  obtain ⟨A, cap, rfl, hcap, -, -, hc⟩ := hu1
  by_cases hge : d.length ≤ m / 32
  · have hge' : (d.length : Int) ≤ (m : Int) / 32 := by omega
    have HV : Hid (val W l / 2 ^ clampN n = 0) := hide (by
      rw [HCl.out, ← hd.val]
      apply Nat.div_eq_of_lt
      have h1 := L.val_lt d hd0
      rw [B32_pow2] at h1
      exact Nat.lt_of_lt_of_le h1 (Nat.pow_le_pow_right (by omega) (by omega)))
    go_wp2_with fail
    go_ret
    exact ⟨hB1, _, [], rfl, Nums.nil _ _, by rw [HV.out]; exact (L.dig_zero W).symm⟩
  · obtain ⟨b1, o1, rfl, hb1g, hb1, hcell1⟩ := hc (by omega)
    have HQ : Hid (val B32 (d.drop (m / 32)) / 2 ^ (m % 32) = val W l / 2 ^ clampN n) := hide (by
      rw [HCl.out, ← hd.val, L.val_drop B32 B32_pos d hd0, B32_pow2, Nat.div_div_eq_div_mul, ← Nat.pow_add, show 32 * (m / 32) + m % 32 = m from by omega])
    have HWD : Hid (m = 32 * (m / 32) + m % 32) := hide (by omega)
    have hs : m % 32 < 32 := by omega
    have e32 : (m : Int) / 32 = ((m / 32 : Nat) : Int) := by omega
    have hwp := wrap_pow2 hs
    have hs2 := pow2_lt hs
    have hs3 : 0 < 2 ^ (m % 32) := Nat.two_pow_pos _
    obtain ⟨wd, HWD2⟩ : ∃ wd, Hid (m / 32 = wd) := ⟨_, hide rfl⟩
    rw [HWD2.out] at hge HQ e32
    have hwl : (wd : Int) < (d.length : Int) := by omega
    have hsub := hdn.from_ (k := wd) (by omega)
    have hdl : (d.drop wd).length = d.length - wd := List.length_drop
    have hne : ¬ cap = wd := by omega
    have hle' : wd ≤ d.length := by omega
    have HDL := hide hdl
    have hP0 : ∀ x ∈ d.drop wd, x < B32 := fun x hx => hd0 x (List.mem_of_mem_drop hx)
    have HP0 := hide hP0
    have h0 : Nums (w1.alloc (.cells #[] 32)) w.heap.size (.slice (some ⟨b1, o1 + wd, none⟩) (d.length - wd) (cap - wd)) (d.drop wd) := hsub.below ((Below.refl _ _).alloc (Nat.le_refl _) _)
    have HWP := hide hwp
    clear hge hdl hP0 hcell1 hc hsub hdn hd0 hd hwp
    have hPl : (d.drop wd).length ≤ 400000 := by have := HDL.out; omega
    go_upto_region 7 with (at_builtin; refine wpList_appendU _ rfl _ _ rfl w1.heap.size _ [] rfl (OwnU.empty w1 (Nat.le_refl _)) w.heap.size _ (d.drop wd) (by rfl) h0 (by simp; omega) (by simp) ?_; intro v1 w2 hown1 hgrow1)
    rw [HWP.out]
    obtain ⟨Y, HY⟩ : ∃ Y, Hid (2 ^ (m % 32) = Y) := ⟨_, hide rfl⟩
    rw [HY.out] at hs2 hs3 HQ ⊢
    rw [List.nil_append] at hown1
    obtain ⟨g, cap2, rfl, hown2⟩ := OwnU.toN hown1 (by rw [HDL.out]; omega)
    have hB3 : Below w.heap.size w1 w2 := ((Below.refl _ w1).alloc (by omega) _).grown hgrow1 (by simp; omega) (fun k hk => by injection hk with e; simp at e; omega)
    have hB0 := hB1.trans hB3
    obtain ⟨N, HN⟩ : ∃ N, Hid ((d.drop wd).length = N) := ⟨_, hide rfl⟩
    rw [HN.out] at hown2 ⊢
    have hN1 : 0 < N := by have := HN.out; have := HDL.out; omega
    have hN2 : N ≤ 400000 := by have := HN.out; omega
    obtain ⟨P, HPe⟩ : ∃ P, Hid (d.drop wd = P) := ⟨_, hide rfl⟩
    rw [HPe.out] at hown2 HQ HP0 HN
    have hgl := hown2.ge
    clear hown1 hPl h0
    go_wp2_with fail
    go_loopw [7, 8] (fun rv i wr => ∃ (i' : Int) (r : Nat) (o : List Nat), -1 ≤ i' ∧ i' < N ∧ i = .int .i64 i' ∧ rv = .int .u64 r ∧ r < Y ∧ OwnN wr w1.heap.size g N cap2 o ∧ Hid (∀ x ∈ o, x < B32) ∧
      Hid (val B32 (P.drop (i' + 1).toNat) = Y * val B32 (o.drop (i' + 1).toNat) + r) ∧ Hid (∀ t : Nat, (t : Int) ≤ i' → nth o t = nth P t) ∧ Below w.heap.size w wr) (fun _ i _ => (intOf i + 1).toNat)
    case atStart => exact ⟨(N : Int) - 1, 0, P, by omega, by omega, rfl, rfl, hs3, hown2, HP0, hide (by have := HN.out; rw [List.drop_of_length_le (by omega)]; simp [L.val]), hide (fun _ _ => rfl), hB0⟩
    case round =>
      obtain ⟨i, r, o, hi1, hi2, rfl, rfl, hr, hO, HOlt, HI, HZ, hB⟩ := hrel
      have hol := hO.len
      have HOL := hide hol
      clear hol
      by_cases hneg : i = -1
      · subst hneg
        have HV : Hid (val B32 o = val W l / 2 ^ clampN n) := hide (by
          have h1 := HI.out
          simp only [Int.reduceNeg, Int.add_left_neg, Int.toNat_zero, List.drop_zero] at h1
          rw [← HQ.out, h1, Nat.mul_add_div hs3, Nat.div_eq_of_lt hr, Nat.add_zero])
        have HNm := hide (hO.nums (fun x hx => Nat.lt_of_lt_of_le (HOlt.out x hx) B32_lt))
        go_wp2_with fail
        refine (limbs_calls _ _ _ _ HNm.out HOlt.out (by rw [HOL.out]; omega)).mono ?_
        rintro e w4 ⟨hB4, u4, d4, rfl, hu4, hd4⟩
        go_wp2_with fail
        go_ret
        have s4 := hB.size
        refine ⟨hB.trans (hB4.mono s4), u4, d4, rfl, hu4.mono s4, ?_⟩
        rw [HV.out] at hd4
        exact hd4
      · obtain ⟨k, rfl⟩ := Int.eq_ofNat_of_zero_le (show 0 ≤ i by omega)
        have hlt : k < N := by omega
        have h3 := hO.cell hlt
        have h4 := hO.frozen k
        rw [HZ.out k (Int.le_refl _)] at h3
        have px := nthD_lt HP0.out k
        have bk : (k : Int) < (N : Int) := by omega
        have hY : (0 : Int) < (Y : Int) := by omega
        have hYn : ¬ ((Y : Int) = 0) := by omega
        have hr2 : r < 4294967296 := by omega
        obtain ⟨S, HS⟩ : ∃ S, Hid (r * B32 + nth P k = S) := ⟨_, hide rfl⟩
        have hw1 : (r : Int) * 4294967296 + ((nth P k : Nat) : Int) = (S : Int) := by have := HS.out; unfold B32 at this; omega
        have hSl : S < Y * B32 := by
          have h1 : (r + 1) * B32 ≤ Y * B32 := Nat.mul_le_mul_right _ hr
          rw [Nat.add_mul] at h1
          have := HS.out
          unfold B32 at *
          omega
        have hq : S / Y < B32 := by rw [Nat.div_lt_iff_lt_mul hs3, Nat.mul_comm]; exact hSl
        have hr3 : S % Y < Y := Nat.mod_lt _ hs3
        have HST := hide (L.divD_step B32 Y P o k r (by have := HN.out; omega) (by have := HOL.out; omega) (by have := HI.out; simpa using this))
        rw [HS.out] at HST
        have e1 : (S : Int) / (Y : Int) = ((S / Y : Nat) : Int) := by norm_cast
        have e2 : (S : Int) % (Y : Int) = ((S % Y : Nat) : Int) := by norm_cast
        have hS64 : S < 18446744073709551616 := by have := HS.out; unfold B32 at this; omega
        have E1 := hide e1
        have E2 := hide e2
        have HSL := hide hSl
        clear e1 e2 hSl
        go_wp2_with fail
        go_roundw
        case rel =>
          have e3 : IntKind.u64.wrap ((S : Int) / (Y : Int)) = ((S / Y : Nat) : Int) := by
            rw [E1.out]
            have h1 : S / Y ≤ S := Nat.div_le_self _ _
            generalize S / Y = z at *
            exact IntWalk.u64_in _ (by omega)
          refine ⟨(k : Int) - 1, S % Y, _, by omega, by omega, rfl, by rw [E2.out], hr3, hO.set_of k _ e3, hide (L.mem_set_lt o HOlt.out _ _ hq), hide ?_, hide (fun t ht => ?_), hB.setCell (Nat.le_trans s1 hgl.1) _⟩
          · have := HST.out
            simpa using this
          · rw [L.getD_set_ne _ _ _ _ (by omega)]; exact HZ.out t (by omega)
        case measure => simp [intOf]

set_option maxRecDepth 100000 in
theorem bitlenR_calls (w : World) (B : Nat) (v : Value) (l : List Nat) (h : Nums w B v l) (hl : l.length ≤ 100000) :
    Calls Try.prog 96 #[v] w fun e w' => Below w.heap.size w w' ∧ e = .returned (.int .i64 (nbits (val W l) : Nat)) := by
  go_enter Try.func96, Try.ntmps96
  go_wp2_with fail
  refine (digits_calls _ B _ l h hl).mono ?_
  rintro e w1 ⟨hB1, u1, d, rfl, hu1, hd⟩
  have l1 := digits_len hd h.lt
  have hd0 := hd.lt
  have HDl := hide hd
  obtain ⟨A, cap, rfl, hcap, -, -, hc⟩ := hu1
  by_cases h0 : d.length = 0
  · have hv : val W l = 0 := by rw [← hd.val, List.eq_nil_of_length_eq_zero h0]; rfl
    have HV : Hid (nbits (val W l) = 0) := hide (by rw [hv]; exact nbits_zero)
    have d0 : ((d.length : Int) == 0) = true := beq_iff_eq.2 (by omega)
    clear h0 hv hd
    go_wp2_with fail
    go_ret
    exact ⟨hB1, ret_int (by rw [HV.out]; rfl)⟩
  · obtain ⟨b1, o1, rfl, hb1g, hb1, hcell1⟩ := hc (by omega)
    obtain ⟨m, hm⟩ : ∃ m, d.length = m + 1 := ⟨d.length - 1, by omega⟩
    have h1 := hcell1 m (by omega)
    have d0 : ((d.length : Int) == 0) = false := beq_eq_false_iff_ne.2 (by omega)
    have ht : nth d m ≠ 0 := by
      intro hz
      have e := L.val_last B32 d m hm
      rw [hz, Nat.mul_zero, Nat.add_zero, hd.val] at e
      have h2 := L.val_lt (b := B32) (d.take m) (fun x hx => hd0 x (List.mem_of_mem_take hx))
      rw [List.length_take, Nat.min_eq_left (by omega), ← e, ← hd.len] at h2
      omega
    have hnb : nbits (val W l) = 32 * m + nbits (nth d m) := by
      have e := L.val_last B32 d m hm
      rw [hd.val] at e
      have h1 : val B32 (d.take m) < B32 ^ m := by
        have := L.val_lt (b := B32) (d.take m) (fun x hx => hd0 x (List.mem_of_mem_take hx))
        rwa [List.length_take, Nat.min_eq_left (by omega)] at this
      have h2 := nbits_lt (nth d m)
      have h3 := nbits_ge ht
      have h4 := nbits_pos ht
      rw [B32_pow2] at e h1
      generalize nbits (nth d m) = b at *
      generalize nth d m = t at *
      apply nbits_eq
      · rw [e, Nat.pow_add]
        have : 2 ^ (32 * m) * (t + 1) ≤ 2 ^ (32 * m) * 2 ^ b := Nat.mul_le_mul_left _ h2
        rw [Nat.mul_add] at this
        omega
      · refine .inr ?_
        rw [e, show 32 * m + b - 1 = 32 * m + (b - 1) from by omega, Nat.pow_add]
        have : 2 ^ (32 * m) * 2 ^ (b - 1) ≤ 2 ^ (32 * m) * t := Nat.mul_le_mul_left _ h3
        omega
    have HNB := hide hnb
    have px := nthD_lt hd0 m
    have b1' : (m : Int) < (d.length : Int) := by omega
    have e1 : (d.length : Int) - 1 = m := by omega
    have hm6 : m ≤ 200000 := by omega
    clear hm h0 hcell1 hc hnb ht hd
    go_wp2_with fail
    go_loop [4, 5] (fun nv xv => ∃ (x n : Nat), nv = .int .i64 n ∧ xv = .int .u64 x ∧ x < 4294967296 ∧ n + nbits x = 32 * m + nbits (nth d m) ∧ n ≤ 6400032) (fun _ xv => (intOf xv).toNat)
    case atStart => exact ⟨nth d m, 32 * m, by go_num, rfl, px, rfl, by omega⟩
    case round =>
      obtain ⟨x, n, rfl, rfl, hx, hn, hn2⟩ := hrel
      have HN := hide hn
      clear hn
      by_cases hx0 : x = 0
      · subst hx0
        go_wp2_with fail
        go_ret
        refine ⟨hB1, ret_int ?_⟩
        rw [HNB.out, ← HN.out, nbits_zero]; rfl
      · have hpos : (0 : Int) < (x : Int) := by omega
        have hh : nbits x = nbits (x / 2) + 1 := by
          have h1 := nbits_lt x
          have h2 := nbits_ge hx0
          have h3 := nbits_pos hx0
          have h4 : nbits (x / 2) = nbits x - 1 := by
            generalize nbits x = b at *
            obtain ⟨b, rfl⟩ : ∃ c, b = c + 1 := ⟨b - 1, by omega⟩
            rw [Nat.pow_succ] at h1
            simp only [Nat.add_sub_cancel] at h2 ⊢
            apply nbits_eq
            · omega
            · rcases Nat.eq_zero_or_pos b with hb | hb
              · exact .inl hb
              · refine .inr ?_
                obtain ⟨c, rfl⟩ : ∃ c, b = c + 1 := ⟨b - 1, by omega⟩
                rw [Nat.pow_succ] at h2
                simp only [Nat.add_sub_cancel]
                omega
          omega
        have HH := hide hh
        have hnm : n + 1 ≤ 6400032 := by
          have h5 := HN.out
          have h6 : nbits (nth d m) ≤ 32 := (nbits_le _ _).2 (by omega)
          omega
        clear hh hx0
        go_wp2_with fail
        go_round
        case rel =>
          exact ⟨x / 2, n + 1, by go_num, by congr 1, by omega, by have := HN.out; rw [HH.out] at this; omega, hnm⟩
        case measure => simp [intOf]; omega
end Go.Proofs.Ytnkembnachhicaa

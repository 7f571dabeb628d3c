/- dyad: plain, Norm, Of: dyads as they are answered. -/
import Derived.Test.YtnkembnachhicaaDyad1
set_option linter.unusedVariables false
namespace Go.Proofs.Ytnkembnachhicaa
open Go.RowKit
open L (val dig nth)

/-- How many times 2 divides a number. -/
def tz (N : Nat) : Nat := if h : N = 0 then 0 else if N % 2 = 1 then 0 else tz (N / 2) + 1
termination_by N
decreasing_by omega
theorem tz_zero : tz 0 = 0 := by unfold tz; simp
theorem tz_odd {N : Nat} (h : N % 2 = 1) : tz N = 0 := by unfold tz; simp [h]
theorem tz_even {N : Nat} (h0 : N ≠ 0) (h : N % 2 = 0) : tz N = tz (N / 2) + 1 := by rw [tz]; simp [h, h0]
theorem tz_pow {q : Nat} (hq : q % 2 = 1) (n : Nat) : tz (q * 2 ^ n) = n := by
  induction n with
  | zero => rw [Nat.pow_zero, Nat.mul_one]; exact tz_odd hq
  | succ n ih =>
    have e : q * 2 ^ (n + 1) = 2 * (q * 2 ^ n) := by rw [Nat.pow_succ]; simp only [Nat.mul_comm, Nat.mul_left_comm]
    have hp : 0 < q * 2 ^ n := Nat.mul_pos (by omega) (Nat.two_pow_pos _)
    rw [e, tz_even (by omega) (by omega), Nat.mul_div_cancel_left _ (by omega), ih]
theorem tz_unique {N n : Nat} (hd : N / 2 ^ n * 2 ^ n = N) (ho : N / 2 ^ n % 2 = 1) : tz N = n := by
  rw [← hd]; exact tz_pow ho n
theorem tz_spec (N : Nat) (h : N ≠ 0) : N / 2 ^ tz N * 2 ^ tz N = N ∧ N / 2 ^ tz N % 2 = 1 := by
  induction N using Nat.strongRecOn with
  | _ N ih =>
    rcases Nat.mod_two_eq_zero_or_one N with h2 | h2
    · have h3 := ih (N / 2) (by omega) (by omega)
      rw [tz_even h h2, Nat.pow_succ, Nat.mul_comm _ 2, ← Nat.div_div_eq_div_mul]
      refine ⟨?_, h3.2⟩
      rw [Nat.mul_left_comm, h3.1]
      omega
    · rw [tz_odd h2]; simp [h2]
theorem tz_le (N k : Nat) (h : N < 2 ^ k) : tz N ≤ k := by
  rcases Nat.eq_zero_or_pos N with h0 | h0
  · rw [h0, tz_zero]; omega
  · obtain ⟨h1, h2⟩ := tz_spec N (by omega)
    have h3 := Nat.le_mul_of_pos_left (2 ^ tz N) (Nat.pos_of_ne_zero (n := N / 2 ^ tz N) (fun h => by rw [h] at h2; cases h2))
    rw [h1] at h3
    exact Nat.le_of_lt ((Nat.pow_lt_pow_iff_right (by omega)).1 (Nat.lt_of_le_of_lt h3 h))

/-- The integer, and the exponent, of a dyad as it is answered. -/
def pM (z : Int) : Int := z / 2 ^ tz z.natAbs
def pE (z x : Int) : Int := if z = 0 then 0 else x + tz z.natAbs

/-- What is handed back is a dyad: this integer, this exponent. -/
def RetQ (B : Nat) (z x : Int) (e : Ending) (w : World) : Prop := ∃ u d, e = .returned (.agg #[.bool (decide (z < 0)), u, .int .i64 x]) ∧ Nums w B u d ∧ Canon d z.natAbs

theorem half_mod (a r s : Nat) (hs : s < 64) : (a + W * r) / 2 ^ s % 2 = a / 2 ^ s % 2 := by
  have e : W * r = 2 ^ s * (2 * (2 ^ (63 - s) * r)) := by
    rw [show W = 2 ^ s * (2 * 2 ^ (63 - s)) from by
      rw [Nat.mul_left_comm, ← Nat.pow_add, show s + (63 - s) = 63 from by omega]; rfl]
    simp only [Nat.mul_assoc]
  rw [e, Nat.add_mul_div_left _ _ (Nat.two_pow_pos _)]
  omega
theorem bit_of (d : List Nat) (hd : ∀ x ∈ d, x < W) (n : Nat) : val W d / 2 ^ n % 2 = nth d (n / 64) / 2 ^ (n % 64) % 2 := by
  have e : val W d / 2 ^ n = val W (d.drop (n / 64)) / 2 ^ (n % 64) := by
    rw [L.val_drop W W_pos d hd, W_pow, Nat.div_div_eq_div_mul, ← Nat.pow_add, show 64 * (n / 64) + n % 64 = n from by omega]
  rw [e]
  rcases Nat.lt_or_ge (n / 64) d.length with h | h
  · rw [List.drop_eq_getElem_cons h]
    simp only [L.val]
    rw [half_mod _ _ _ (by omega)]
    congr 3
    simp [L.nth, h]
  · rw [List.drop_of_length_le h]
    simp [L.val, L.nth, h]

theorem and1 (m : Nat) (hm : m < 18446744073709551616) : bits .and .u64 (m : Int) 1 = ((m % 2 : Nat) : Int) := by
  have h := bits_and_u64_nat m 1 hm (by omega)
  have e : m &&& 1 = m % 2 := Nat.and_two_pow_sub_one_eq_mod m 1
  rw [e] at h
  exact h

theorem below3 {w W : World} {r : Nat} (h : Below w.heap.size w W) (hr : w.heap.size ≤ r) (x y u : Value) : Below w.heap.size w (((W.setCell ⟨r, 0, none⟩ x).setCell ⟨r, 1, none⟩ y).setCell ⟨r, 2, none⟩ u) :=
  ((h.setCell (p := ⟨r, 0, none⟩) hr x).setCell (p := ⟨r, 1, none⟩) hr y).setCell (p := ⟨r, 2, none⟩) hr u

theorem nums_low3 {w : World} {B r : Nat} {v : Value} {l : List Nat} (h : Nums w B v l) (hr : r < B) (x y u : Value) : Nums (((w.setCell ⟨r, 0, none⟩ x).setCell ⟨r, 1, none⟩ y).setCell ⟨r, 2, none⟩ u) B v l :=
  ((h.set_low (p := ⟨r, 0, none⟩) hr x).set_low (p := ⟨r, 1, none⟩) hr y).set_low (p := ⟨r, 2, none⟩) hr u

set_option maxRecDepth 100000 in
set_option maxHeartbeats 1000000 in
theorem plain_calls (w : World) (n : Bool) (B : Nat) (v : Value) (l : List Nat) (x : Int) (h : Nums w B v l) (hl : l.length ≤ 40000) (hx0 : -1000000000 ≤ x) (hx1 : x ≤ 1000000000) :
    Calls Try.prog 73 #[.agg #[.bool n, v], .int .i64 x] w fun e w' => Below w.heap.size w w' ∧ RetQ w.heap.size (pM (ival n (val W l))) (pE (ival n (val W l)) x) e w' := by
  have h0 := h
  have hlt0 := h.lt
  obtain ⟨A, cap, rfl, -, -, -, hc⟩ := h
  obtain ⟨W0, hW, hbx, hrs, hB0, hs⟩ := start2 w 24 26 #[.bool n, .slice A l.length cap] #[.bool false, .slice none 0 0, .int .i64 0]
  have h1 := h0.up hB0
  have hs2 : w.heap.size + 1 < W0.heap.size := by omega
  clear hs hc
  obtain ⟨z, HZ⟩ : ∃ z, Hid (ival n (val W l) = z) := ⟨_, hide rfl⟩
  have HLN : Hid (z.natAbs < W ^ l.length) := hide (by rw [← HZ.out]; exact natAbs_lt hlt0)
  obtain ⟨c0, c1, c2, c3⟩ := hbx.two
  go_enter Try.func73, Try.ntmps73
  go_upto_region 1 with (fail)
  rw [← hW]
  clear hW
  go_wp2_with fail
  refine (znorm_calls _ n B _ l h1 (by omega)).mono ?_
  rw [HZ.out]
  rintro e w1 ⟨hb1, u1, d, rfl, hu1, hd⟩
  have hbx1 := hbx.below hb1 (by omega)
  have hrs1 := hrs.below hb1 (by omega)
  obtain ⟨f0, f1, f2, f3⟩ := hbx1.two
  obtain ⟨A1, cap1, rfl⟩ := hu1.form
  go_upto_region 2 with (fail)
  have s1 := hb1.size
  have hbx2 := blk_two (x := .bool (decide (z < 0))) (y := .slice A1 d.length cap1) hbx1
  have hrs2 := blk_far2 hrs1 (r := w.heap.size) (by omega) (.bool (decide (z < 0))) (.slice A1 d.length cap1)
  have hB2 := below2 (r := w.heap.size) (hB0.trans (hb1.mono (by omega))) (by omega) (.bool (decide (z < 0))) (.slice A1 d.length cap1)
  have hu2 := nums_low2 hu1 (r := w.heap.size) (by omega) (.bool (decide (z < 0))) (.slice A1 d.length cap1)
  have hs3 : W0.heap.size ≤ ((w1.setCell ⟨w.heap.size, 0, none⟩ (.bool (decide (z < 0)))).setCell ⟨w.heap.size, 1, none⟩ (.slice A1 d.length cap1)).heap.size := by simp; omega
  generalize ((w1.setCell ⟨w.heap.size, 0, none⟩ (.bool (decide (z < 0)))).setCell ⟨w.heap.size, 1, none⟩ (.slice A1 d.length cap1)) = w2 at *
  obtain ⟨e0, e1, e2, e3⟩ := hbx2.two
  obtain ⟨g0, g1, g2, g3, g4, g5⟩ := hrs2.three
  by_cases hz : z = 0
  · have hd0 : d.length = 0 := by
      have := hd.nil_iff.2 (by rw [hz]; rfl)
      rw [this]; rfl
    have hd0' : (d.length : Int) = 0 := by omega
    rw [hd0'] at *
    go_wp2_with fail
    rw [HZ.out, hz]
    refine bodyPost_ret (results_dyad rfl _ _ _ _ _ _ _ rfl (((hrs2.set_ 0 _).set_ 1 _).set_ 2 _)) rfl ⟨below3 hB2 (by omega) _ _ _, ?_⟩
    exact ⟨_, [], by simp [pM, pE], Nums.nil _ _, by simp [pM, tz_zero]; exact (L.dig_zero W).symm⟩
  · obtain ⟨N, HN⟩ : ∃ N, Hid (z.natAbs = N) := ⟨_, hide rfl⟩
    have hdN : Canon d N := by rw [← HN.out]; exact hd
    have hdp : 0 < d.length := by
      rcases Nat.eq_zero_or_pos d.length with h | h
      · have := hd.nil_iff.1 (List.eq_nil_of_length_eq_zero h); omega
      · exact h
    have hdl : d.length ≤ 40000 := Nat.le_trans (hd.len.2 HLN.out) hl
    have hN0 : N ≠ 0 := by have := HN.out; omega
    have hdlt := hu2.lt
    have hNlt : N < 2 ^ (64 * d.length) := by have := L.val_lt d hdlt; rw [hdN.val, W_pow] at this; exact this
    have HNlt := hide hNlt
    have HDN := hide hdN
    have HD := hide hd
    clear hNlt hdN hd
    have HU2 := hide hu2
    obtain ⟨A2, cap2, hAeq, -, -, -, hcell⟩ := hu2
    injection hAeq with hAeq hxx hcapeq
    subst hAeq hcapeq
    obtain ⟨b1, o1, rfl, -, hb1', hcell1⟩ := hcell hdp
    have hdlI : (0 : Int) < (d.length : Int) := by omega
    go_wp2_with fail
    go_loop [5] (fun s => ∃ k : Nat, s = .int .i64 k ∧ Hid (N / 2 ^ k * 2 ^ k = N) ∧ k ≤ 64 * d.length) (fun s => 64 * d.length - (intOf s).toNat)
    case atStart => exact ⟨0, rfl, hide (by simp), by omega⟩
    case round =>
      obtain ⟨k, rfl, HK, hk⟩ := hrel
      have hklt : k < 64 * d.length := by
        have h3 := Nat.le_mul_of_pos_left (2 ^ k) (show 0 < N / 2 ^ k by
          rcases Nat.eq_zero_or_pos (N / 2 ^ k) with h | h
          · have := HK.out; rw [h] at this; omega
          · exact h)
        rw [HK.out] at h3
        exact (Nat.pow_lt_pow_iff_right (by omega)).1 (Nat.lt_of_le_of_lt h3 HNlt.out)
      have hi : k / 64 < d.length := by omega
      have hcl := hcell1 (k / 64) hi
      have hi' : ((k / 64 : Nat) : Int) < (d.length : Int) := by omega
      have hbt := bit_of d hdlt k
      rw [HDN.out.val] at hbt
      have HBT := hide hbt
      have hdv := div64 k
      have hnl := nth_lt hdlt (k / 64)
      obtain ⟨y, HY⟩ : ∃ y, Hid (nth d (k / 64) = y) := ⟨_, hide rfl⟩
      rw [HY.out] at hcl hnl HBT
      obtain ⟨i, HI⟩ : ∃ i, Hid (k / 64 = i) := ⟨_, hide rfl⟩
      rw [HI.out] at hcl hi hi' hdv
      have ha63 := and63 k (by omega)
      obtain ⟨s, HS⟩ : ∃ s, Hid (k % 64 = s) := ⟨_, hide rfl⟩
      have hs64 : s < 64 := by have := HS.out; omega
      rw [HS.out] at ha63 HBT
      have hwr : IntKind.u64.wrap (k : Int) = (k : Int) := by rw [IntKind.wrap_u64]; omega
      have ha1 := and1 (y / 2 ^ s) (Nat.lt_of_le_of_lt (Nat.div_le_self _ _) hnl)
      have hdiv := HK.out
      rcases Nat.mod_two_eq_zero_or_one (y / 2 ^ s) with hb | hb
      · have e : N / 2 ^ k % 2 = 0 := HBT.out.trans hb
        have HE : Hid (N / 2 ^ (k + 1) * 2 ^ (k + 1) = N) := hide (by
          rw [Nat.pow_succ, ← Nat.div_div_eq_div_mul, Nat.mul_comm (2 ^ k) 2, ← Nat.mul_assoc, Nat.div_mul_cancel (Nat.dvd_of_mod_eq_zero e)]
          exact hdiv)
        rw [hb, ← shr_nat] at ha1
        clear hbt hdlt hcell1 hb1' hb e hdiv hcell
        go_wp2_with fail
        go_round
        case rel => exact ⟨k + 1, by go_num, HE, by omega⟩
        case measure => simp [intOf]; omega
      · have e : N / 2 ^ k % 2 = 1 := HBT.out.trans hb
        have HT : Hid (tz N = k) := hide (tz_unique hdiv e)
        rw [hb, ← shr_nat] at ha1
        clear hbt hdlt hcell1 hb1' hb e hdiv hcell
        by_cases hk0 : k = 0
        · have HK0 := hide hk0
          have hk0' : ((k : Int) == 0) = true := by rw [beq_iff_eq]; omega
          clear hk0
          go_wp2_with fail
          have HPM : Hid (pM z = z) := hide (by unfold pM; rw [HN.out, HT.out, HK0.out]; simp)
          have HPE : Hid (pE z x = x) := hide (by unfold pE; rw [if_neg hz, HN.out, HT.out, HK0.out]; simp)
          rw [HZ.out, HPM.out, HPE.out]
          refine bodyPost_ret (results_dyad rfl _ _ _ _ _ _ _ rfl (((hrs2.set_ 0 _).set_ 1 _).set_ 2 _)) rfl ⟨below3 hB2 (by omega) _ _ _, ?_⟩
          exact ⟨_, d, rfl, (nums_low3 HU2.out (by omega) _ _ _).mono (by omega), HD.out⟩
        · have hk0' : ((k : Int) == 0) = false := by rw [beq_eq_false_iff_ne]; omega
          go_wp2_with fail
          refine (down_calls _ (decide (z < 0)) _ _ d k HU2.out (by omega) (by omega)).mono ?_
          obtain ⟨zz, HZZ⟩ : ∃ zz, Hid (pM z = zz) := ⟨_, hide rfl⟩
          have hzz : ival (decide (z < 0)) (val W d) / 2 ^ k = zz := by
            rw [HD.out.val, ival_self, ← HZZ.out, pM, HN.out, HT.out]
          rw [hzz]
          rintro e w3 ⟨hb3, u3, d3, rfl, hu3, hd3⟩
          have hrs3 := hrs2.below hb3 (by omega)
          obtain ⟨A3, cap3, rfl⟩ := hu3.form
          obtain ⟨j0, j1, j2, j3, j4, j5⟩ := hrs3.three
          have hwx : IntKind.i64.wrap (x + (k : Int)) = x + (k : Int) := IntWalk.i64_in _ (by omega)
          go_wp2_with fail
          have s3 := hb3.size
          have HPE : Hid (pE z x = x + k) := hide (by unfold pE; rw [if_neg hz, HN.out, HT.out])
          rw [HZ.out, HZZ.out, HPE.out]
          refine bodyPost_ret (results_dyad rfl _ _ _ _ _ _ _ rfl (((hrs3.set_ 0 _).set_ 1 _).set_ 2 _)) rfl ⟨below3 (hB2.trans (hb3.mono (by omega))) (by omega) _ _ _, ?_⟩
          exact ⟨_, d3, rfl, (nums_low3 hu3 (by omega) _ _ _).mono (by omega), hd3⟩
end Go.Proofs.Ytnkembnachhicaa

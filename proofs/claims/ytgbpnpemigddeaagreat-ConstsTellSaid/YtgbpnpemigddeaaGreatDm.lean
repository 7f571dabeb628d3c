/- hairlineref01.DivMod: division digit by digit, each looked for by halving. -/
import Derived.Test.YtgbpnpemigddeaaGreatRefs
import Derived.Test.YtgbpnpemigddeaaGreatKn2
set_option linter.unusedVariables false
set_option linter.unusedSimpArgs false
namespace Go.Proofs.YtgbpnpemigddeaaGreat
open Go.RowKit
open L (val dig nth)
theorem jem {p q : List Nat} {M N : Nat} (hp : CanonD p M) (hq : CanonD q N) (h : M ≤ N) : p.length ≤ q.length := by
  rw [hp.len]; exact Nat.lt_of_le_of_lt h ((hq.len (m := q.length)).1 (Nat.le_refl _))
theorem jkq {T M b : Nat} (h : T < M * b) : T / M < b := by
  rcases Nat.eq_zero_or_pos M with h0 | h0
  · subst h0; simp at h
  · rw [Nat.div_lt_iff_lt_mul h0, Nat.mul_comm]; exact h
theorem jmb (M : Nat) (P o : List Nat) (m R : Nat) (hm : m < P.length) (hm' : m < o.length) (h : val B32 (P.drop (m + 1)) = M * val B32 (o.drop (m + 1)) + R) :
    val B32 (P.drop m) = M * val B32 ((o.set m ((nth P m + B32 * R) / M)).drop m) + (nth P m + B32 * R) % M := by
  have := L.divD_step B32 M P o m R hm hm' h
  rwa [show R * B32 + nth P m = nth P m + B32 * R by rw [Nat.mul_comm, Nat.add_comm]] at this
set_option maxHeartbeats 2000000 in
set_option maxRecDepth 100000 in
theorem jhb (w : World) (B C : Nat) (va vb : Value) (la lb : List Nat) (ha : Nums w B va la) (hb : Nums w C vb lb) (hla : la.length ≤ 60000) (hlb : lb.length ≤ 60000) (dyl : (dig B32 (val W lb)).length = 1) :
    Calls Tryz.prog 79 #[va, vb] w fun e w' => Below w.heap.size w w' ∧ RetQR w.heap.size (val W la / val W lb) (val W la % val W lb) e w' := by
  go_enter Tryz.func79, Tryz.ntmps79
  go_wp2_with fail
  refine (jak _ B _ la ha (by omega)).mono ?_; rintro e w1 ⟨hB1, u1, P, rfl, hu1, hd1⟩
  go_wp2_with fail
  refine (jak _ C _ lb (hb.below hB1) (by omega)).mono ?_; rintro e w2 ⟨hB2, u2, y, rfl, hu2, hd2⟩; have s1 := hB1.size; have s2 := hB2.size; have l1 := jba hd1 ha.lt; have hu1 := hu1.below hB2; have HP0 := hide hd1.lt; have hy0 := hd2.lt; have hyl : y.length = 1 := by rw [show y = dig B32 (val W lb) from hd2]; exact dyl
  have HV1 := hide hd1.val; have HV2 := hide hd2.val; have hB0 := hB1.trans (hB2.mono s1); obtain ⟨Y, HY⟩ : ∃ Y, Hid (nth y 0 = Y) := ⟨_, hide rfl⟩
  have HVY : Hid (val W lb = Y) := hide (by
    rw [← HV2.out, ← HY.out]
    match y, hyl with
    | [a], _ => simp [L.val, L.nth])
  have hYl : Y < 4294967296 := by rw [← HY.out]; exact jbl hy0 0
  have hY0 : 0 < Y := by
    rcases Nat.eq_zero_or_pos Y with h | h
    · exfalso
      have h1 : val W lb = 0 := HVY.out.trans h; rw [h1, L.dig_zero] at dyl
      cases dyl
    · exact h
  obtain ⟨A1, c1, rfl, -, -, -, hc1⟩ := hu1; obtain ⟨A2, c2, rfl, -, -, -, hc2⟩ := hu2; obtain ⟨b2, o2, rfl, hb2g, hb2, hcell2⟩ := hc2 (by omega); have cy := hcell2 0 (by omega); rw [HY.out] at cy; rw [hyl]; have HC1 := hide hc1; have hPl : P.length ≤ 120000 := by omega
  have hmk := jb2 (P.length : Int) P.length (by omega) (by omega); clear hc1 hc2 hcell2 hd1 hd2 hy0 dyl l1
  go_wp2_with fail
  clear hmk
  go_loopw [10, 11] (fun rv i wr => ∃ (i' : Int) (r : Nat) (o : List Nat), -1 ≤ i' ∧ i' < P.length ∧ i = .int .i64 i' ∧ rv = .int .u64 r ∧ r < Y ∧ Out wr w2.heap.size o ∧ Hid (o.length = P.length) ∧ Hid (∀ x ∈ o, x < B32) ∧
    Hid (val B32 (P.drop (i' + 1).toNat) = Y * val B32 (o.drop (i' + 1).toNat) + r) ∧ Below w.heap.size w wr ∧ Below w2.heap.size w2 wr) (fun _ i _ => (intOf i + 1).toNat)
  case atStart => exact ⟨(P.length : Int) - 1, 0, _, by omega, by omega, rfl, rfl, hY0, Out.made w2 _, hide (by simp), hide (fun x hx => by rw [(List.mem_replicate.1 hx).2]; exact jbh), hide (by rw [show ((P.length : Int) - 1 + 1).toNat = P.length by omega]; simp [L.val]), hB0.alloc hB0.size _, (Below.refl _ _).alloc (Nat.le_refl _) _⟩
  case round =>
    obtain ⟨i, r, o, hi1, hi2, rfl, rfl, hr, hO, HOL, HOlt, HI, hB, hBw⟩ := hrel
    by_cases hneg : i = -1
    · subst hneg
      have HQ : Hid (val B32 o = val W la / val W lb ∧ r = val W la % val W lb) := hide (by
        have h1 := HI.out; simp only [Int.reduceNeg, Int.add_left_neg, Int.toNat_zero, List.drop_zero] at h1; rw [HVY.out, ← HV1.out, h1]; exact ⟨by rw [Nat.mul_add_div hY0, Nat.div_eq_of_lt hr, Nat.add_zero], by rw [Nat.mul_add_mod, Nat.mod_eq_of_lt hr]⟩)
      have hN := hO.nums (Nat.le_refl _) (by have := HOL.out; omega) (fun x hx => Nat.lt_of_lt_of_le (HOlt.out x hx) jbo); have HN := hide hN; rw [HOL.out] at HN; clear hN
      go_wp2_with fail
      refine (ja3 _ _ _ _ HN.out HOlt.out (by have := HOL.out; omega)).mono ?_; rintro e w4 ⟨hB4, u4, d4, rfl, hu4, hd4⟩; have s4 := hB.size; have s5 := hB4.size; have h1 := Nums.oneB w4 w.heap.size (r : Int) r rfl (Nat.lt_of_lt_of_le hr (by unfold W; omega)) (by omega)
      go_wp2_with fail
      refine (ja3 _ _ _ [r] h1 (by intro x hx; rw [List.mem_singleton.1 hx]; exact Nat.lt_of_lt_of_le hr (by unfold B32; omega)) (by simp)).mono ?_; rintro e w5 ⟨hB5, u5, d5, rfl, hu5, hd5⟩
      go_wp2_with fail
      go_ret3
      have hBa : Below w4.heap.size w4 (w4.alloc (.cells #[.int .u64 (r : Int)] 49)) := (Below.refl _ _).alloc (Nat.le_refl _) _; have s6 := hBa.size; have hr5 : val B32 [r] = r := by simp [L.val]
      rw [hr5, HQ.out.2] at hd5; rw [HQ.out.1] at hd4; exact ⟨((hB.trans (hB4.mono s4)).trans (hBa.mono (by omega))).trans (hB5.mono (by omega)), u4, d4, u5, d5, rfl, ((hu4.below hBa).below hB5).mono s4, hd4, hu5.mono (by omega), hd5⟩
    · obtain ⟨k, rfl⟩ := Int.eq_ofNat_of_zero_le (show 0 ≤ i by omega)
      have hlt : k < P.length := by omega
      obtain ⟨b1, o1, rfl, hb1g, hb1, hcell1⟩ := HC1.out (by omega); have h1 : wr.cell? ⟨b1, o1 + k, none⟩ = _ := (hBw.cell (p := ⟨b1, o1 + k, none⟩) hb1).trans (hcell1 k hlt); have h2 : wr.cell? ⟨b2, o2 + 0, none⟩ = _ := (hBw.cell (p := ⟨b2, o2 + 0, none⟩) hb2).trans cy; have h2' : wr.cell? ⟨b2, o2, none⟩ = some (.int .u64 (Y : Nat)) := h2; have h3 := hO.cell (i := k) (by have := HOL.out; omega); have h4 := hO.frozen k; have px := jbl HP0.out k; have bk : (k : Int) < (P.length : Int) := by omega
      have hYn : ¬ ((Y : Int) = 0) := by omega
      have hr2 : r < 4294967296 := by omega
      obtain ⟨S, HS⟩ : ∃ S, Hid (r * B32 + nth P k = S) := ⟨_, hide rfl⟩
      have hSl : S < Y * B32 := by
        have h1 : (r + 1) * B32 ≤ Y * B32 := Nat.mul_le_mul_right _ hr; rw [Nat.add_mul] at h1; have := HS.out; unfold B32 at *
        omega
      have hq : S / Y < B32 := jkq hSl; have hr3 : S % Y < Y := Nat.mod_lt _ hY0; have HST := hide (L.divD_step B32 Y P o k r hlt (by have := HOL.out; omega) (by have := HI.out; simpa using this)); rw [HS.out] at HST; have hS64 : S < 18446744073709551616 := by have := HS.out; unfold B32 at this; omega
      have hw0 : IntKind.u64.wrap ((r : Int) * 4294967296) = (r : Int) * 4294967296 := IntWalk.u64_in _ (by omega); have hw1 : IntKind.u64.wrap ((r : Int) * 4294967296 + ((nth P k : Nat) : Int)) = (S : Int) := by rw [IntWalk.u64_in _ (by omega)]; have := HS.out; unfold B32 at this; omega
      have e1 : (S : Int) / (Y : Int) = ((S / Y : Nat) : Int) := by norm_cast
      have e2 : (S : Int) % (Y : Int) = ((S % Y : Nat) : Int) := by norm_cast
      have E1 := hide e1; have E2 := hide e2; have HSL := hide hSl; clear e1 e2 hSl hcell1 h2
      go_wp2_with fail
      go_roundw
      case rel =>
        have e3 : IntKind.u64.wrap ((S : Int) / (Y : Int)) = ((S / Y : Nat) : Int) := by
          rw [E1.out]; have h1 : S / Y ≤ S := Nat.div_le_self _ _
          generalize S / Y = z at *
          exact IntWalk.u64_in _ (by omega)
        refine ⟨(k : Int) - 1, S % Y, _, by omega, by omega, rfl, by rw [E2.out], hr3, hO.set_of k _ e3, hide (by simpa using HOL.out), hide (L.mem_set_lt o HOlt.out _ _ hq), hide ?_, hB.setCell hB0.size _, hBw.setCell (Nat.le_refl _) _⟩; have := HST.out
        simpa using this
      case measure => simp [intOf]
set_option maxHeartbeats 4000000 in
set_option maxRecDepth 100000 in
theorem jh8 (w : World) (B C : Nat) (va vb : Value) (la lb : List Nat) (ha : Nums w B va la) (hb : Nums w C vb lb) (hla : la.length ≤ 60000) (hlb : lb.length ≤ 60000) (dyl : 1 < (dig B32 (val W lb)).length) :
    Calls Tryz.prog 79 #[va, vb] w fun e w' => Below w.heap.size w w' ∧ RetQR w.heap.size (val W la / val W lb) (val W la % val W lb) e w' := by
  go_enter Tryz.func79, Tryz.ntmps79
  go_wp2_with fail
  refine (jak _ B _ la ha (by omega)).mono ?_; rintro e w1 ⟨hB1, u1, P, rfl, hu1, hd1⟩
  go_wp2_with fail
  refine (jak _ C _ lb (hb.below hB1) (by omega)).mono ?_; rintro e w2 ⟨hB2, u2, y, rfl, hu2, hd2⟩; have s1 := hB1.size; have s2 := hB2.size; have l1 := jba hd1 ha.lt; have l2 := jba hd2 hb.lt; have hu1 := hu1.below hB2; have HP0 := hide hd1.lt; have hyl : 1 < y.length := by rw [show y = dig B32 (val W lb) from hd2]; exact dyl
  have HV1 := hide hd1.val; obtain ⟨M, HM⟩ : ∃ M, Hid (val W lb = M) := ⟨_, hide rfl⟩; have hyc : CanonD y M := by rw [← HM.out]; exact hd2
  have hyv := hyc.val
  have hM0 : 0 < M := by
    rcases Nat.eq_zero_or_pos M with h | h
    · exfalso
      have h1 : y = dig B32 M := hyc; rw [h, L.dig_zero] at h1; rw [h1] at hyl; simp at hyl
    · exact h
  have hB0 := hB1.trans (hB2.mono s1); have HYN := hide hu2; have HYC := hide hyc; obtain ⟨A1, c1, rfl, -, -, -, hc1⟩ := hu1; obtain ⟨A2, c2, rfl⟩ := hu2.form; have HC1 := hide hc1; have hPl : P.length ≤ 120000 := by omega
  have hYl : y.length ≤ 120000 := by omega
  have hne0 : ((y.length : Int) == 0) = false := beq_eq_false_iff_ne.2 (by omega); have hne1 : ((y.length : Int) == 1) = false := beq_eq_false_iff_ne.2 (by omega); have hmk := jb2 (P.length : Int) P.length (by omega) (by omega); clear hc1 hd1 hd2 dyl l1 l2 hu2 hyc hyv
  go_wp2_with fail
  clear hmk
  go_loopw [12, 13] (fun rv i wr => ∃ (i' : Int) (R : Nat) (rd : List Nat) (o : List Nat), -1 ≤ i' ∧ i' < P.length ∧ i = .int .i64 i' ∧ Nums wr w2.heap.size rv rd ∧ Hid (CanonD rd R) ∧ R < M ∧ Out wr w2.heap.size o ∧ Hid (o.length = P.length) ∧ Hid (∀ x ∈ o, x < B32) ∧
    Hid (val B32 (P.drop (i' + 1).toNat) = M * val B32 (o.drop (i' + 1).toNat) + R) ∧ Below w.heap.size w wr ∧ Below w2.heap.size w2 wr) (fun _ i _ => (intOf i + 1).toNat)
  case atStart => exact ⟨(P.length : Int) - 1, 0, [], _, by omega, by omega, rfl, Nums.nil _ _, hide (L.dig_zero _).symm, hM0, Out.made w2 _, hide (by simp), hide (fun x hx => by rw [(List.mem_replicate.1 hx).2]; exact jbh), hide (by rw [show ((P.length : Int) - 1 + 1).toNat = P.length by omega]; simp [L.val]), hB0.alloc hB0.size _, (Below.refl _ _).alloc (Nat.le_refl _) _⟩
  case round =>
    obtain ⟨i, R, rd, o, hi1, hi2, rfl, hR, HRC, hRM, hO, HOL, HOlt, HI, hB, hBw⟩ := hrel
    by_cases hneg : i = -1
    · subst hneg
      have HQ : Hid (val B32 o = val W la / val W lb ∧ R = val W la % val W lb) := hide (by
        have h1 := HI.out; simp only [Int.reduceNeg, Int.add_left_neg, Int.toNat_zero, List.drop_zero] at h1; rw [HM.out, ← HV1.out, h1]; exact ⟨by rw [Nat.mul_add_div hM0, Nat.div_eq_of_lt hRM, Nat.add_zero], by rw [Nat.mul_add_mod, Nat.mod_eq_of_lt hRM]⟩)
      have hN := hO.nums (Nat.le_refl _) (by have := HOL.out; omega) (fun x hx => Nat.lt_of_lt_of_le (HOlt.out x hx) jbo); have HN := hide hN; rw [HOL.out] at HN; clear hN
      go_wp2_with fail
      refine (ja3 _ _ _ _ HN.out HOlt.out (by have := HOL.out; omega)).mono ?_; rintro e w4 ⟨hB4, u4, d4, rfl, hu4, hd4⟩; have s4 := hB.size; have s5 := hB4.size; have hrl : rd.length ≤ y.length := jem HRC.out HYC.out (Nat.le_of_lt hRM); have h1 := hR.below hB4
      go_wp2_with fail
      refine (ja3 _ _ _ rd h1 HRC.out.lt (by omega)).mono ?_; rintro e w5 ⟨hB5, u5, d5, rfl, hu5, hd5⟩
      go_wp2_with fail
      go_ret3
      rw [HRC.out.val, HQ.out.2] at hd5; rw [HQ.out.1] at hd4; exact ⟨(hB.trans (hB4.mono s4)).trans (hB5.mono (by omega)), u4, d4, u5, d5, rfl, (hu4.below hB5).mono s4, hd4, hu5.mono (by omega), hd5⟩
    · obtain ⟨k, rfl⟩ := Int.eq_ofNat_of_zero_le (show 0 ≤ i by omega)
      have hlt : k < P.length := by omega
      obtain ⟨b1, o1, rfl, hb1g, hb1, hcell1⟩ := HC1.out (by omega); have h1 : wr.cell? ⟨b1, o1 + k, none⟩ = _ := (hBw.cell (p := ⟨b1, o1 + k, none⟩) hb1).trans (hcell1 k hlt); have px := jbl HP0.out k; have bk : (k : Int) < (P.length : Int) := by omega
      obtain ⟨X, HX⟩ : ∃ X, Hid (nth P k = X) := ⟨_, hide rfl⟩; rw [HX.out] at px h1; obtain ⟨T, HT⟩ : ∃ T, Hid (X + B32 * R = T) := ⟨_, hide rfl⟩
      have hTM : T < M * B32 := by
        have h1 : (R + 1) * B32 ≤ M * B32 := Nat.mul_le_mul_right _ hRM; rw [Nat.add_mul, Nat.mul_comm R] at h1; have := HT.out; unfold B32 at *
        omega
      have hq : T / M < B32 := jkq hTM; have HST := hide (jmb M P o k R hlt (by have := HOL.out; omega) (by have := HI.out; simpa using this)); rw [HX.out, HT.out] at HST; have hrl : rd.length ≤ y.length := jem HRC.out HYC.out (Nat.le_of_lt hRM); have s4 := hBw.size
      have hone : OwnU (wr.alloc (.cells #[.int .u64 (X : Int)] 49)) wr.heap.size (.slice (some ⟨wr.heap.size, 0, none⟩) 1 1) [X] := by
        have h : Out (wr.alloc (.cells (cellsU [X]) 49)) wr.heap.size [X] := Out.new wr [X]; refine ⟨by simp, .inr ⟨wr.heap.size, 1, cellsU [X], rfl, Nat.le_refl _, h, by simp, by simp only [maxLen]; omega, by simp [jfm], ?_⟩⟩; simp [cellsU]
      have hone0 := hide hone; have hrd := hide hR; clear hone hR
      go_wp2_with (at_builtin; refine jae _ rfl _ _ rfl wr.heap.size _ [X] rfl hone0.out w2.heap.size _ rd rfl (hrd.out.alloc _) (by simp; omega) (by simp) ?_; intro v1 w3 hown1 hgrow1)
      have hB3 : Below wr.heap.size wr w3 := ((Below.refl _ wr).alloc (Nat.le_refl _) _).grown hgrow1 (by simp) (fun k hk => by injection hk with e; simp at e; omega)
      have hlt3 : ∀ x ∈ [X] ++ rd, x < B32 := by
        intro x hx
        rcases List.mem_append.1 hx with hx | hx
        · rw [List.mem_singleton.1 hx]; exact px
        · exact HRC.out.lt x hx
      refine (jbx _ _ _ _ (hown1.nums (fun x hx => Nat.lt_of_lt_of_le (hlt3 x hx) jbo)) hlt3).mono ?_; rintro e w4 ⟨rfl, u3, d3, rfl, hu3, hd3⟩; have HVT : Hid (val B32 ([X] ++ rd) = T) := hide (by rw [← HT.out]; show X + B32 * val B32 rd = X + B32 * R; rw [HRC.out.val]); rw [HVT.out] at hd3; have HD3 := hide hd3; have hu3 := hu3.mono (show w2.heap.size + 1 ≤ _ from hO.lt); have hO := hO.below hB3 hO.lt; have hB := hB.trans (hB3.mono hB.size); have hBw := hBw.trans (hB3.mono hBw.size); have hYN := (HYN.out.mono s1).below hBw; clear hd3 hown1 hgrow1 hlt3 hrd hone0 hB3 HRC h1 hcell1 s4; have HQ32 := hide hq; obtain ⟨Tq, HTQ⟩ : ∃ Tq, Hid (T / M = Tq) := ⟨_, hide rfl⟩; have hTq : Tq < 4294967296 := by rw [← HTQ.out]; exact hq
      clear hq
      go_wp2_with fail
      obtain ⟨wo, hwo⟩ : ∃ wo : World, wo = w3 := ⟨_, rfl⟩
      go_loopw [14, 15] (fun lv hv wr => ∃ (lo hi : Nat), lv = .int .u64 lo ∧ hv = .int .u64 hi ∧ lo ≤ Tq ∧ Tq ≤ hi ∧ hi < 4294967296 ∧ Below w3.heap.size w3 wr) (fun lv hv _ => (intOf hv).toNat - (intOf lv).toNat)
      case atStart => exact ⟨0, 4294967295, rfl, rfl, Nat.zero_le _, by omega, by omega, Below.refl _ _⟩
      case round =>
        obtain ⟨lo, hi, rfl, rfl, hlo, hhi, hh, hBi⟩ := hrel; have s5 := hBi.size
        by_cases hll : lo < hi
        · obtain ⟨mid, HMid⟩ : ∃ mid, Hid ((lo + hi + 1) / 2 = mid) := ⟨_, hide rfl⟩
          have hm1 : lo < mid := by have := HMid.out; omega
          have hm2 : mid ≤ hi := by have := HMid.out; omega
          have hm3 : mid < 4294967296 := by omega
          have bl : (lo : Int) < (hi : Int) := by omega
          have hw3 : ((lo : Int) + (hi : Int) + 1) / 2 = (mid : Int) := by have := HMid.out; omega
          have HYN2 := hide (hYN.below hBi); have HU3 := hide (hu3.below hBi); clear hlt
          go_upto_region 24 with (fail)
          go_wp2_with fail
          refine (jc8 _ _ _ _ mid HYN2.out HYC.out.lt (by omega) hm3).mono ?_; rintro e w5 ⟨hB5, u5, d5, rfl, hu5, hd5⟩; rw [HYC.out.val] at hd5
          go_wp2_with fail
          refine (jer _ _ _ _ _ _ _ _ _ hu5 (HU3.out.below hB5) hd5 HD3.out).mono ?_; rintro e w6 ⟨hdr, rfl⟩; have hB6 := hBi.trans ((hB5.mono s5).trans (hdr.below _))
          by_cases hle : mid ≤ Tq
          · have hmm : M * mid ≤ T := by
              rw [← HTQ.out] at hle; exact Nat.le_trans (Nat.mul_le_mul_left M hle) (Nat.mul_div_le T M)
            have hc : cmpN (M * mid) T ≤ 0 := by
              unfold cmpN
              split
              · omega
              · split
                · omega
                · omega
            obtain ⟨c, Hc⟩ : ∃ c, Hid (cmpN (M * mid) T = c) := ⟨_, hide rfl⟩; rw [Hc.out] at hc ⊢
            go_wp2_with fail
            go_roundw
            case rel => exact ⟨mid, hi, rfl, rfl, hle, hhi, hh, hB6⟩
            case measure => simp [intOf]; omega
          · have hmm : ¬ M * mid ≤ T := fun h => hle (by
              rw [← HTQ.out]; exact (Nat.le_div_iff_mul_le hM0).2 (by rw [Nat.mul_comm]; exact h))
            have hc : ¬ cmpN (M * mid) T ≤ 0 := by
              unfold cmpN; rw [if_neg (by omega), if_pos (by omega)]
              omega
            obtain ⟨c, Hc⟩ : ∃ c, Hid (cmpN (M * mid) T = c) := ⟨_, hide rfl⟩; rw [Hc.out] at hc ⊢; have hw4 : (mid : Int) - 1 = ((mid - 1 : Nat) : Int) := by omega
            have HW4 := hide hw4; clear hw4
            go_wp2_with fail
            go_roundw
            case rel => exact ⟨lo, mid - 1, rfl, by rw [HW4.out], hlo, by omega, by omega, hB6⟩
            case measure => simp [intOf]; omega
        · have hlq : lo = Tq := by omega
          have bl : ¬ (lo : Int) < (hi : Int) := by omega
          subst hlq; have hO := hO.below hBi hO.lt; have hB := hB.trans (hBi.mono hB.size); have hBw := hBw.trans (hBi.mono hBw.size); have h3 := hO.cell (i := k) (by have := HOL.out; omega); have h4 := hO.frozen k; have hYN := hYN.below hBi; have hu3 := hu3.below hBi
          go_upto_region 28 with (fail)
          have hYN := HYN.out.below (hBw.setCell (p := ⟨w2.heap.size, k, none⟩) (Nat.le_refl _) (.int .u64 (lo : Nat))); have hu3 := hu3.set_low (p := ⟨w2.heap.size, k, none⟩) (Nat.lt_succ_self _) (.int .u64 (lo : Nat)); have hO := hO.set k lo; have hB := hB.setCell (p := ⟨w2.heap.size, k, none⟩) hB0.size (.int .u64 (lo : Nat)); have hBw := hBw.setCell (p := ⟨w2.heap.size, k, none⟩) (Nat.le_refl _) (.int .u64 (lo : Nat)); have HYN3 := hide hYN; have HU3 := hide hu3; clear hYN hu3 h3 h4 hlt
          go_wp2_with fail
          refine (jc8 _ _ _ _ lo HYN3.out HYC.out.lt (by omega) hTq).mono ?_; rintro e w6 ⟨hB6, u6, d6, rfl, hu6, hd6⟩; rw [HYC.out.val] at hd6; have hle : M * lo ≤ T := by rw [← HTQ.out]; exact Nat.mul_div_le T M
          have hd3 := HD3.out
          have hl3 : d3.length ≤ y.length + 1 := by
            rw [hd3.len]; refine Nat.lt_of_lt_of_le hTM ?_; rw [Nat.pow_succ]; exact Nat.mul_le_mul_right _ (Nat.le_of_lt ((HYC.out.len (m := y.length)).1 (Nat.le_refl _)))
          go_wp2_with fail
          refine (jgo _ _ _ _ _ _ _ (HU3.out.below hB6) hu6 hd3.lt hd6.lt (by omega) (jem hd6 hd3 hle) (by rw [hd6.val, hd3.val]; exact hle)).mono ?_; rintro e w7 ⟨hB7, u7, d7, rfl, hu7, hd7⟩; rw [hd3.val, hd6.val] at hd7
          have hTm : T - M * lo = T % M := by
            have := Nat.mod_add_div T M; rw [HTQ.out] at this
            omega
          rw [hTm] at hd7; have hb6 := hB6.size; have hb7 := hB7.size; have hO6 := (hO.below hB6 hO.lt); have hO7 := hO6.below hB7 hO6.lt; have hsz := hO.lt
          go_wp2_with fail
          go_roundw
          case rel =>
            refine ⟨(k : Int) - 1, T % M, d7, _, by omega, by omega, rfl, hu7.mono (by omega), hide hd7, Nat.mod_lt _ hM0, hO7, hide (by simpa using HOL.out), hide (L.mem_set_lt o HOlt.out _ _ hTq), hide ?_, (hB.trans (hB6.mono hB.size)).trans (hB7.mono (Nat.le_trans hB.size hb6)), (hBw.trans (hB6.mono hBw.size)).trans (hB7.mono (Nat.le_trans hBw.size hb6))⟩; have := HST.out; rw [HTQ.out] at this
            simpa using this
          case measure => simp [intOf]
theorem jhc (w : World) (B C : Nat) (va vb : Value) (la lb : List Nat) (ha : Nums w B va la) (hb : Nums w C vb lb) (hla : la.length ≤ 60000) (hlb : lb.length ≤ 60000) (h0 : val W lb ≠ 0) :
    Calls Tryz.prog 79 #[va, vb] w fun e w' => Below w.heap.size w w' ∧ RetQR w.heap.size (val W la / val W lb) (val W la % val W lb) e w' := by
  have hne : (dig B32 (val W lb)).length ≠ 0 := fun h => h0 (by
    have h1 := L.val_dig jdu (val W lb); rw [List.eq_nil_of_length_eq_zero h] at h1; exact h1.symm)
  by_cases h1 : (dig B32 (val W lb)).length = 1
  · exact jhb w B C va vb la lb ha hb hla hlb h1
  · exact jh8 w B C va vb la lb ha hb hla hlb (by omega)
end Go.Proofs.YtgbpnpemigddeaaGreat

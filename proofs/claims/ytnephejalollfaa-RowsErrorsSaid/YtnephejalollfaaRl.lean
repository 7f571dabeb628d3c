/- hairlinelaw06: cut, few, equal, part, sum. -/
import Derived.Test.YtnephejalollfaaRx
import Derived.Test.YtnephejalollfaaLaws
set_option linter.unusedVariables false
set_option linter.unusedSimpArgs false
namespace Go.Proofs.Ytnephejalollfaa
open Go.RowKit
open L (val dig nth)
set_option maxHeartbeats 1000000 in
set_option maxRecDepth 100000 in
theorem cut6L_calls (w : World) (n : Bool) (A : Option Addr) (len cap : Nat) (k : Nat) (L : List Nat) (h : Nums w 0 (.slice A len cap) L) (hk : k ≤ 1000) :
    Calls Try.prog 9 #[.agg #[.bool n, .slice A len cap], .int .i64 k] w fun e w' => Below w.heap.size w w' ∧ ∃ A' len' cap', e = .returned (.agg #[.bool n, .slice A' len' cap']) ∧ Nums w' w.heap.size (.slice A' len' cap') (L.take k) := by
  have hlen : L.length = len := by
    obtain ⟨A', cap', h1, -⟩ := h
    injection h1 with _ h1 _
    exact h1.symm
  have hcl : len ≤ cap ∧ cap ≤ 9223372036854775807 := by
    obtain ⟨A', cap', h1, h2, h3, -⟩ := h
    injection h1 with _ e2 e3
    subst e3
    omega
  obtain ⟨W0, hW, hbx, hrs, hB0, hs⟩ := start2 w 24 24 #[.bool n, .slice A len cap] #[.bool false, .slice none 0 0]
  have h0 := h.up hB0
  obtain ⟨c0, c1, -, -⟩ := hbx.two
  obtain ⟨d0, d1, d3, d4⟩ := hrs.two
  have HS := hide hs
  have hs2 : w.heap.size + 1 < W0.heap.size := by omega
  clear hs
  go_enter Try.func9, Try.ntmps9
  go_upto_region 1 with (fail)
  rw [← hW]
  clear hW
  go_upto_if 11 with (fail)
  go_cut [5] (fun m wx => W0 = wx ∧ ∃ A' l' c', m = .slice A' l' c' ∧ Nums W0 0 (.slice A' l' c') (L.take k))
  case first =>
    by_cases hlt : (k : Int) < (len : Int)
    · have hk0 : (0 : Int) ≤ (k : Int) := by omega
      have hkc : (k : Int) ≤ (cap : Int) := by omega
      have HN := hide (Nums.first (l := L) (n := k) (by rw [hlen]; exact h0) (by omega))
      clear hlen
      go_wp2_with fail
      go_meet
      exact ⟨rfl, _, _, _, rfl, HN.out⟩
    · have HN := hide (show Nums W0 0 (.slice A len cap) (L.take k) from by rw [List.take_of_length_le (by omega)]; exact h0)
      clear hlen
      go_wp2_with fail
      go_meet
      exact ⟨rfl, _, _, _, rfl, HN.out⟩
  case rest =>
    obtain ⟨rfl, A', l', c', rfl, hm⟩ := hcut
    have hml : (L.take k).length ≤ k := by simp; omega
    obtain ⟨M, HM⟩ : ∃ M, Hid (L.take k = M) := ⟨_, hide rfl⟩
    rw [HM.out] at hm hml
    clear hlen
    go_upto_region 4 with (fail)
    go_region_held3 (fun w' => w'.cell? ⟨w.heap.size, 0, none⟩ = some (.bool n)) (go_keep)
      ((refine step_appendU _ (by rfl) _ _ (by rfl) W0.heap.size _ [] (by rfl) (OwnU.empty W0.drew (Nat.le_refl _)) 0 _ M (by rfl) ((hm.drew).alloc _) (by have := hml; simp only [List.length_nil]; omega) (by simp) ?_
        intro v' w' hown hgrow
        have hB1 : Below W0.heap.size W0 w' := Below.grown (B := W0.heap.size) (((Below.refl _ _).drew).alloc (Nat.le_refl _) _) hgrow (by simp) (by intro j hj; simp only [Value.ownBlock, Option.some.injEq] at hj; exact Nat.le_of_eq hj)
        obtain ⟨Ao, co, hvo⟩ := hown.form
        rw [hvo] at hown ⊢
        have hbx1 := hbx.below hB1 (by omega)
        have hrs1 := hrs.below hB1 (by omega)
        obtain ⟨i0, i1, -, -⟩ := hbx1.two
        obtain ⟨j0, j1, j3, j4⟩ := hrs1.two))
    go_wp2_with fail
    refine bodyPost_ret (results_int rfl _ _ _ _ _ _ rfl (blk_two hrs1)) rfl ⟨below2 (hB0.trans (hB1.mono hB0.size)) (by omega) _ _, ?_⟩
    refine ⟨Ao, M.length, co, rfl, ?_⟩
    rw [HM.out]
    have hn := OwnU.nums hown (by rw [List.nil_append]; exact hm.lt)
    exact (nums_low2 hn hs2 _ _).mono hB0.size


theorem cut6_calls {w : World} {n : Bool} {A : Option Addr} {len cap : Nat} {L : List Nat} (k : Nat) (h : Nums w 0 (.slice A len cap) L) (hk : k ≤ 1000) :
    Calls Try.prog 9 #[.agg #[.bool n, .slice A len cap], .int .i64 k] w fun e w' => Below w.heap.size w w' ∧ VF (Fact.s_z k (ival n (val W (L.take k)))) e w' := by
  refine (cut6L_calls w n A len cap k L h hk).mono ?_
  rintro e w' ⟨hb, A', l', c', rfl, hn⟩
  exact ⟨hb, _, rfl, _, _, _, _, rfl, _, hn.mono (Nat.zero_le _), by rw [List.length_take]; omega, rfl⟩
def fewZ (q n : Int) : Int := if 200 < q ∧ 40 < n then 40 else n
set_option maxHeartbeats 4000000 in
set_option maxRecDepth 100000 in
theorem few_calls {w : World}  {q n : Int}   :
    Calls Try.prog 10 #[.int .i64 q, .int .i64 n] w fun e w' => Below w.heap.size w w' ∧ VF (Fact.eq (.int .i64 (fewZ q n))) e w' := by
 go_enter Try.func10, Try.ntmps10
 have HB : Hid (Below w.heap.size w w) := hide (Below.refl _ _)
 go_upto_region 0 with (fail)
 refine F2.regionS [.o] [Fact.eq ?ca4_] [4] [4] (by kernel_rfl) ?soa ?sopa (by kernel_rfl) ?sta ?fina
 case soa => exact fun x hx => by cases hx
 case sopa => exact List.Pairwise.nil
 case sta =>
  refine F2.Steps.consO rfl ?_ ?_
  ·
   intro vz wz hBz hDz hTz K hK
   have HW := hBz.ext
   replace hK := hK.out
   apply Kept.mk
   simp only [F2.Wp, F2.fc, actv, fill, Act.put, sZ, sS, fC, fN, tA, cS, cZ] at hK ⊢
   go_simp
   refine hK _ wz (Below.refl _ _) (Fact.eq_mk ?_)
   with_reducible rfl
  exact F2.Steps.nil
 intro va w1 hBz ⟨hOz, hAz, hNz, hSz⟩
 have E4 : va 4 = _ := hOz 0 (by decide) rfl
 simp only [Act.put, actv, fill, fC, fN, tA, cS, cZ]
 simp only [E4]
 clear E4
 replace HB := hide (HB.out.trans (hBz.below (B := w.heap.size) HB.out.size zE))
 clear hOz hAz hNz hSz hBz
 by_cases g0 : 200 < q
 ·
  by_cases g1 : 40 < n
  ·
   go_upto_region 2 with (fail)
   refine F2.regionS [.o] [Fact.eq ?cb4_] [4] [4] (by kernel_rfl) ?sob ?sopb (by kernel_rfl) ?stb ?finb
   case sob => exact fun x hx => by cases hx
   case sopb => exact List.Pairwise.nil
   case stb =>
    refine F2.Steps.consO rfl ?_ ?_
    ·
     intro vz wz hBz hDz hTz K hK
     have HW := hBz.ext
     replace hK := hK.out
     apply Kept.mk
     simp only [F2.Wp, F2.fc, actv, fill, Act.put, sZ, sS, fC, fN, tA, cS, cZ] at hK ⊢
     go_simp
     refine hK _ wz (Below.refl _ _) (Fact.eq_mk ?_)
     with_reducible rfl
    exact F2.Steps.nil
   intro vb w2 hBz ⟨hOz, hAz, hNz, hSz⟩
   have E4 : vb 4 = _ := hOz 0 (by decide) rfl
   simp only [Act.put, actv, fill, fC, fN, tA, cS, cZ]
   simp only [E4]
   clear E4
   replace HB := hide (HB.out.trans (hBz.below (B := w.heap.size) HB.out.size zE))
   clear hOz hAz hNz hSz hBz
   go_wp2_with fail
   go_ret
   exact ⟨HB.out, VF.mk (Fact.cast (Fact.eq_self _ _) (by unfold fewZ; rw [if_pos ⟨g0, g1⟩]; rfl))⟩
  ·
   go_upto_region 3 with (fail)
   refine F2.regionS [.o, .o] [Fact.eq ?cc11_, Fact.eq ?cc4_] [11, 4] [11, 4] (by kernel_rfl) ?soc ?sopc (by kernel_rfl) ?stc ?finc
   case soc => exact fun x hx => by cases hx
   case sopc => exact List.Pairwise.nil
   case stc =>
    refine F2.Steps.consO rfl ?_ ?_
    ·
     intro vz wz hBz hDz hTz K hK
     have HW := hBz.ext
     replace hK := hK.out
     apply Kept.mk
     simp only [F2.Wp, F2.fc, actv, fill, Act.put, sZ, sS, fC, fN, tA, cS, cZ] at hK ⊢
     go_simp
     refine hK _ wz (Below.refl _ _) (Fact.eq_mk ?_)
     with_reducible rfl
    refine F2.Steps.consO rfl ?_ ?_
    ·
     intro vz wz hBz hDz hTz K hK
     have E11 : vz 11 = _ := hDz 0 (by kernel_rfl) rfl
     have HW := hBz.ext
     replace hK := hK.out
     apply Kept.mk
     simp only [F2.Wp, F2.fc, actv, fill, Act.put, sZ, sS, fC, fN, tA, cS, cZ] at hK ⊢
     simp only [E11] at hK ⊢
     go_simp
     refine hK _ wz (Below.refl _ _) (Fact.eq_mk ?_)
     with_reducible rfl
    exact F2.Steps.nil
   intro vc w3 hBz ⟨hOz, hAz, hNz, hSz⟩
   have E11 : vc 11 = _ := hOz 0 (by decide) rfl
   have E4 : vc 4 = _ := hOz 1 (by decide) rfl
   simp only [Act.put, actv, fill, fC, fN, tA, cS, cZ]
   simp only [E11, E4]
   clear E11 E4
   replace HB := hide (HB.out.trans (hBz.below (B := w.heap.size) HB.out.size zE))
   clear hOz hAz hNz hSz hBz
   go_wp2_with fail
   go_ret
   exact ⟨HB.out, VF.mk (Fact.cast (Fact.eq_self _ _) (by unfold fewZ; rw [if_neg (by omega)]; rfl))⟩
 ·
  go_upto_region 3 with (fail)
  refine F2.regionS [.o, .o] [Fact.eq ?cd11_, Fact.eq ?cd4_] [11, 4] [11, 4] (by kernel_rfl) ?sod ?sopd (by kernel_rfl) ?std ?find
  case sod => exact fun x hx => by cases hx
  case sopd => exact List.Pairwise.nil
  case std =>
   refine F2.Steps.consO rfl ?_ ?_
   ·
    intro vz wz hBz hDz hTz K hK
    have HW := hBz.ext
    replace hK := hK.out
    apply Kept.mk
    simp only [F2.Wp, F2.fc, actv, fill, Act.put, sZ, sS, fC, fN, tA, cS, cZ] at hK ⊢
    go_simp
    refine hK _ wz (Below.refl _ _) (Fact.eq_mk ?_)
    with_reducible rfl
   refine F2.Steps.consO rfl ?_ ?_
   ·
    intro vz wz hBz hDz hTz K hK
    have E11 : vz 11 = _ := hDz 0 (by kernel_rfl) rfl
    have HW := hBz.ext
    replace hK := hK.out
    apply Kept.mk
    simp only [F2.Wp, F2.fc, actv, fill, Act.put, sZ, sS, fC, fN, tA, cS, cZ] at hK ⊢
    simp only [E11] at hK ⊢
    go_simp
    refine hK _ wz (Below.refl _ _) (Fact.eq_mk ?_)
    with_reducible rfl
   exact F2.Steps.nil
  intro vd w4 hBz ⟨hOz, hAz, hNz, hSz⟩
  have E11 : vd 11 = _ := hOz 0 (by decide) rfl
  have E4 : vd 4 = _ := hOz 1 (by decide) rfl
  simp only [Act.put, actv, fill, fC, fN, tA, cS, cZ]
  simp only [E11, E4]
  clear E11 E4
  replace HB := hide (HB.out.trans (hBz.below (B := w.heap.size) HB.out.size zE))
  clear hOz hAz hNz hSz hBz
  go_wp2_with fail
  go_ret
  exact ⟨HB.out, VF.mk (Fact.cast (Fact.eq_self _ _) (by unfold fewZ; rw [if_neg (by omega)]; rfl))⟩
theorem rexp_named {w : World} {k0 : Nat} {n0 : Bool} {A0 : Option Addr} {l0 c0 : Nat} {x0 q n ra rb rc : Int} (h0 : Q w k0 n0 A0 l0 c0 x0) (hk0 : k0 ≤ 40) (ha : Hid ((if mayR x0 q n 2 = true then expLo x0 q n.toNat else 0) = ra)) (hb : Hid ((if mayR x0 q n 2 = true then expHi x0 q n.toNat else 0) = rb)) (hc : Hid ((if mayR x0 q n 2 = true then (0 : Int) else 1) = rc)) :
    Calls Try.prog 11 #[.agg #[.bool n0, .slice A0 l0 c0], .int .i64 q, .int .i64 n] w fun e w' => Below w.heap.size w w' ∧ VF (Fact.t3 (Fact.z 340 ra) (Fact.z 340 rb) (Fact.eq (.int .i64 rc))) e w' := by
  have h := rexp_calls (q := q) (n := n) h0 hk0
  rw [ha.out, hb.out, hc.out] at h
  exact h
theorem ratanh_named {w : World} {k0 : Nat} {n0 : Bool} {A0 : Option Addr} {l0 c0 : Nat} {x0 q n ra rb rc : Int} (h0 : Q w k0 n0 A0 l0 c0 x0) (hk0 : k0 ≤ 40) (ha : Hid ((if mayR x0 q n 1 = true then atanhLo x0 q n.toNat else 0) = ra)) (hb : Hid ((if mayR x0 q n 1 = true then atanhHi x0 q n.toNat else 0) = rb)) (hc : Hid ((if mayR x0 q n 1 = true then (0 : Int) else 1) = rc)) :
    Calls Try.prog 51 #[.agg #[.bool n0, .slice A0 l0 c0], .int .i64 q, .int .i64 n] w fun e w' => Below w.heap.size w w' ∧ VF (Fact.t3 (Fact.z 340 ra) (Fact.z 340 rb) (Fact.eq (.int .i64 rc))) e w' := by
  have h := ratanh_calls (q := q) (n := n) h0 hk0
  rw [ha.out, hb.out, hc.out] at h
  exact h
theorem ratan_named {w : World} {k0 : Nat} {n0 : Bool} {A0 : Option Addr} {l0 c0 : Nat} {x0 q n ra rb rc : Int} (h0 : Q w k0 n0 A0 l0 c0 x0) (hk0 : k0 ≤ 40) (ha : Hid ((if mayR x0 q n 1 = true then atanLo x0 q n.toNat else 0) = ra)) (hb : Hid ((if mayR x0 q n 1 = true then atanHi x0 q n.toNat else 0) = rb)) (hc : Hid ((if mayR x0 q n 1 = true then (0 : Int) else 1) = rc)) :
    Calls Try.prog 24 #[.agg #[.bool n0, .slice A0 l0 c0], .int .i64 q, .int .i64 n] w fun e w' => Below w.heap.size w w' ∧ VF (Fact.t3 (Fact.z 340 ra) (Fact.z 340 rb) (Fact.eq (.int .i64 rc))) e w' := by
  have h := ratan_calls (q := q) (n := n) h0 hk0
  rw [ha.out, hb.out, hc.out] at h
  exact h
theorem rsin_named {w : World} {k0 : Nat} {n0 : Bool} {A0 : Option Addr} {l0 c0 : Nat} {x0 q n ra rb rc : Int} (h0 : Q w k0 n0 A0 l0 c0 x0) (hk0 : k0 ≤ 40) (ha : Hid ((if mayR x0 q n 4 = true then sinLo x0 q n.toNat else 0) = ra)) (hb : Hid ((if mayR x0 q n 4 = true then sinHi x0 q n.toNat else 0) = rb)) (hc : Hid ((if mayR x0 q n 4 = true then (0 : Int) else 1) = rc)) :
    Calls Try.prog 15 #[.agg #[.bool n0, .slice A0 l0 c0], .int .i64 q, .int .i64 n] w fun e w' => Below w.heap.size w w' ∧ VF (Fact.t3 (Fact.z 340 ra) (Fact.z 340 rb) (Fact.eq (.int .i64 rc))) e w' := by
  have h := rsin_calls (q := q) (n := n) h0 hk0
  rw [ha.out, hb.out, hc.out] at h
  exact h
theorem rcos_named {w : World} {k0 : Nat} {n0 : Bool} {A0 : Option Addr} {l0 c0 : Nat} {x0 q n ra rb rc : Int} (h0 : Q w k0 n0 A0 l0 c0 x0) (hk0 : k0 ≤ 40) (ha : Hid ((if mayR x0 q n 4 = true then cosLo x0 q n.toNat else 0) = ra)) (hb : Hid ((if mayR x0 q n 4 = true then cosHi x0 q n.toNat else 0) = rb)) (hc : Hid ((if mayR x0 q n 4 = true then (0 : Int) else 1) = rc)) :
    Calls Try.prog 16 #[.agg #[.bool n0, .slice A0 l0 c0], .int .i64 q, .int .i64 n] w fun e w' => Below w.heap.size w w' ∧ VF (Fact.t3 (Fact.z 340 ra) (Fact.z 340 rb) (Fact.eq (.int .i64 rc))) e w' := by
  have h := rcos_calls (q := q) (n := n) h0 hk0
  rw [ha.out, hb.out, hc.out] at h
  exact h
end Go.Proofs.Ytnephejalollfaa

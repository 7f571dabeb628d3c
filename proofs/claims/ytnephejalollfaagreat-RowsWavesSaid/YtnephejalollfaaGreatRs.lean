/- zed.Text of 0, and of numbers of two and three digits. hairlinelaw06.shown. -/
import Derived.Test.YtnephejalollfaaGreatPats
import Derived.Test.YtnephejalollfaaGreatRl
section
set_option linter.unusedVariables false
set_option linter.unusedSimpArgs false
namespace Go.Proofs.YtnephejalollfaaGreat
open Go.RowKit
open L (val dig nth)
/-- The text of some bytes. -/
def txtL (l : List Int) : Value := .string (l.foldl (fun r n => r.push (UInt8.ofNat n.toNat)) ByteArray.empty)
/-- The last digits' signs, the last one first. -/
def digs (N : Nat) : Nat → List Nat
  | 0 => []
  | k + 1 => digs N k ++ [48 + N / 10 ^ k % 10]
set_option maxRecDepth 100000 in
theorem text_zero (w : World) (n : Bool) (B : Nat) (v : Value) (l : List Nat) (h : Nums w B v l) (hl : l.length ≤ 50000) (hN : val W l = 0) :
    Calls Tryz.prog 19 #[.agg #[.bool n, v]] w fun e w' => Below w.heap.size w w' ∧ e = .returned (txtL [48]) := by
  have h0 := h; obtain ⟨A, cap, rfl, -, -, -, hc⟩ := h; obtain ⟨W0, hW, hbx, hB0, hs⟩ := start1 w 24 #[.bool n, .slice A l.length cap]; have hu0 := h0.up hB0; clear hc; obtain ⟨c0, c1, -, -⟩ := hbx.two
  go_enter Tryz.func19, Tryz.ntmps19
  go_upto_region 1 with (fail)
  rw [← hW]; clear hW; have HP := norm_calls W0 B _ l hu0 (by omega); rw [hN] at HP
  go_wp2_with fail
  refine HP.mono ?_; rintro e w1 ⟨hb1, u1, d, rfl, hu1, hd⟩
  have hd1 : d = [] := by
    have e : d = dig W 0 := hd; rw [e, L.dig_zero]
  subst hd1; obtain ⟨A1, cap1, rfl⟩ := hu1.form
  go_wp2_with fail
  go_ret
  exact ⟨hB0.trans (hb1.mono (by omega)), rfl⟩

set_option maxHeartbeats 1000000 in
set_option maxRecDepth 100000 in
theorem text_two (w : World) (B : Nat) (v : Value) (l : List Nat) (N : Nat) (h : Nums w B v l) (hl : l.length ≤ 50000) (hN : val W l = N) (h1 : 10 ≤ N) (h9 : N ≤ 99) :
    Calls Tryz.prog 19 #[.agg #[.bool false, v]] w fun e w' => Below w.heap.size w w' ∧ e = .returned (txtL [48 + ((N / 10 % 10 : Nat) : Int), 48 + ((N % 10 : Nat) : Int)]) := by
  have h0 := h; obtain ⟨A, cap, rfl, -, -, -, hc⟩ := h; obtain ⟨W0, hW, hbx, hB0, hs⟩ := start1 w 24 #[.bool false, .slice A l.length cap]; have hu0 := h0.up hB0; have HN := hide hN; clear hc hN; obtain ⟨c0, c1, -, -⟩ := hbx.two; have HD : Hid (digs N 2 = [48 + N % 10, 48 + N / 10 % 10]) := hide (by simp [digs])
  have HX : Hid (∀ j, j ≤ 2 → (j < 2 → 0 < N / 10 ^ j) ∧ (j = 2 → N / 10 ^ j = 0) ∧ N / 10 ^ j ≤ 99) := hide (fun j hj => by
    obtain rfl | rfl | rfl : j = 0 ∨ j = 1 ∨ j = 2 := by omega
    all_goals refine ⟨fun h => ?_, fun h => ?_, ?_⟩ <;> simp at * <;> omega)
  go_enter Tryz.func19, Tryz.ntmps19
  go_upto_region 1 with (fail)
  rw [← hW]; clear hW; have HP := norm_calls W0 B _ l hu0 (by omega); rw [HN.out] at HP
  go_wp2_with fail
  refine HP.mono ?_; rintro e w1 ⟨hb1, u1, d, rfl, hu1, hd⟩; have hd1 := canon_one hd (by omega) (by unfold W; omega); subst hd1; obtain ⟨A1, cap1, rfl⟩ := hu1.form; have hbx1 := hbx.below hb1 (by omega); clear HP; have s1 := hb1.size; have HB1 := hide (hB0.trans (hb1.mono (by omega)))
  go_wp2_with fail
  go_loopw [3, 4] (fun m q wr => (m = .slice A1 1 cap1 ∧ q = .slice none 0 0 ∧ wr = w1) ∨ (m = .slice none 0 0 ∧ OwnB wr (w.heap.size + 1) q (digs N 2) ∧ Below w.heap.size w wr ∧ Blk wr w.heap.size 24 #[.bool false, .slice A l.length cap])) (fun m _ _ => lenOf m)
  case atStart => exact .inl ⟨rfl, rfl, rfl⟩
  case round =>
    rcases hrel with ⟨rfl, rfl, rfl⟩ | ⟨rfl, hq, hB2, hbx2⟩
    · have hone := Nums.one wr 1000000000000000000 1000000000000000000 rfl (by unfold W; omega)
      have hlt : val W [N] < val W [1000000000000000000] := by simp [L.val]; omega
      go_wp2_with fail
      refine (divmod_small _ 0 0 _ _ [N] [1000000000000000000] ((hu1.mono (Nat.zero_le _)).alloc _) hone hlt (by simp)).mono ?_; rintro e w3 ⟨hb3, u3, d3, rfl, hu3, hd3⟩
      have hd4 := canon_one (d := d3) (N := N) (by have e : val W [N] = N := by simp [L.val]
                                                   rw [e] at hd3; exact hd3) (by omega) (by unfold W; omega)
      subst hd4; have hbx3 := (hbx1.alloc (.cells #[.int .u64 1000000000000000000] 52)).below hb3 (by simp; omega); have HB3 := hide ((HB1.out.alloc (by omega) (.cells #[.int .u64 1000000000000000000] 52)).trans (hb3.mono (by simp; omega))); obtain ⟨A3, cap3, rfl, -, -, -, hc3⟩ := hu3; obtain ⟨b3, o3, rfl, -, -, hcell⟩ := hc3 (by simp); have hce := hcell 0 (by simp); simp only [Nat.add_zero] at hce; have hce' : w3.cell? ⟨b3, o3, none⟩ = some (.int .u64 (N : Int)) := by rw [hce]; simp [L.nth]
      clear hcell hc3 hce hlt hone
      go_wp2_with fail
      go_loopw [4, 8, 9] (fun q x i wx => ∃ j M : Nat, j ≤ 2 ∧ Hid (M = N / 10 ^ j) ∧ x = .int .u64 M ∧ i = .int .i64 j ∧ OwnB wx (w.heap.size + 1) q (digs N j) ∧ Below w.heap.size w wx ∧ Blk wx w.heap.size 24 #[.bool false, .slice A l.length cap]) (fun _ _ i _ => (2 + 1 - intOf i).toNat)
      case atStart => exact ⟨0, N, by omega, hide (by simp), rfl, rfl, OwnB.nil _ _, HB3.out, hbx3⟩
      case round =>
        obtain ⟨j, M, hj, HM, rfl, rfl, hq, hBq, hbq⟩ := hrel; obtain ⟨x1, x2, x3⟩ := HX.out j hj; rw [← HM.out] at x1 x2 x3
        by_cases hjl : j < 2
        · have hMp : (0 : Int) < (M : Int) := by have := x1 hjl; omega
          obtain ⟨r, hr⟩ : ∃ r : Nat, r = M % 10 := ⟨_, rfl⟩; obtain ⟨M2, hM2⟩ : ∃ r : Nat, r = M / 10 := ⟨_, rfl⟩; have hr9 : r < 10 := by omega
          have hm1 : (M : Int) % 10 = r := by omega
          have hm2 : (M : Int) / 10 = M2 := by omega
          have hw8 : IntKind.u8.wrap (48 + (r : Int)) = 48 + r := by rw [IntKind.wrap_u8]; omega
          have hcw : (wr.alloc (.cells #[.int .u8 (48 + (r : Int))] 5)).cell? ⟨wr.heap.size, 0, none⟩ = some (.int .u8 (48 + (r : Int))) := ((Blk.new wr 5 #[.int .u8 (48 + (r : Int))]).cell 0).trans rfl; have HCW := hide hcw; have HQ := hide (hq.alloc (.cells #[.int .u8 (48 + (r : Int))] 5))
          have hdl : (digs N j).length ≤ 1000 := by
            obtain rfl | rfl : j = 0 ∨ j = 1 := by omega
            all_goals simp [digs]
          have HDL := hide hdl; have s3 := hBq.size; have HM3 : Hid (M2 = N / 10 ^ (j + 1)) := hide (by rw [hM2, HM.out, Nat.div_div_eq_div_mul, Nat.pow_succ]); have HL3 : Hid (digs N j ++ [48 + r] = digs N (j + 1)) := hide (by rw [hr, HM.out]; rfl); clear hcw hdl hr hM2 x1 x2
          go_wp2_with (at_builtin; refine wpList_appendB _ rfl _ _ rfl (w.heap.size + 1) _ (digs N j) rfl HQ.out wr.heap.size _ (48 + r) rfl (by omega) HCW.out HDL.out (by simp; omega) ?_; intro v1 w4 hown1 hgrow1)
          have hB4 : Below w.heap.size wr w4 := ((Below.refl _ wr).alloc (by omega) _).grown hgrow1 (by simp; omega) (fun k hk => Nat.le_of_succ_le (HQ.out.own_ge k hk)); have hbq0 := hbq.alloc (.cells #[.int .u8 (48 + (r : Int))] 5); have hbq4 : Blk w4 w.heap.size 24 #[.bool false, .slice A l.length cap] := (hgrow1.block _ hbq0.lt (fun e => absurd (HQ.out.own_ge _ e.symm) (by omega))).trans hbq0; rw [HL3.out] at hown1
          go_roundw
          case rel => exact ⟨j + 1, M2, by omega, HM3, rfl, by go_num, hown1, hBq.trans hB4, hbq4⟩
          case measure => simp [intOf]; omega
        · have hjl' : j = 2 := by omega
          have hM0 : M = 0 := x2 hjl'; subst hM0; subst hjl'; clear x1 x2 x3 HM
          go_wp2_with fail
          go_roundw
          case rel => exact .inr ⟨rfl, hq, hBq, hbq⟩
          case measure => simp [lenOf]
    · obtain ⟨f0, f1, -, -⟩ := hbx2.two
      have s2 := hB2.size; rw [HD.out] at hq; have hq0 := hq; obtain ⟨g, capq, rfl, hg1, hg2, hcq, hfq⟩ := hq.form (by simp); have k0 : wr.cell? ⟨g, 0, none⟩ = some (.int .u8 (48 + ((N % 10 : Nat) : Int))) := by rw [hcq 0 (by simp)]; simp [L.nth, toB]
      have k1 : wr.cell? ⟨g, 1, none⟩ = some (.int .u8 (48 + ((N / 10 % 10 : Nat) : Int))) := by rw [hcq 1 (by simp)]; simp [L.nth, toB]
      simp only [List.length_cons, List.length_nil, Nat.zero_add, Nat.reduceAdd]
      go_wp2_with fail
      refine (reverse_two _ g capq _ _ k0 k1 (hfq 0) (hfq 1)).mono ?_; rintro e w5 ⟨rfl, hw5⟩; have hst := (World.ownsRow.stored (World.ownsRow.stored hq0 0 (.int .u8 (48 + ((N / 10 % 10 : Nat) : Int)))).1 1 (.int .u8 (48 + ((N % 10 : Nat) : Int)))).1
      have q0 : w5.cell? ⟨g, 0, none⟩ = some (.int .u8 (48 + ((N / 10 % 10 : Nat) : Int))) := by
        rw [hw5]; exact (World.ownsRow.cellAt hst 0 (by simp)).trans (by simp [toB])
      have q1 : w5.cell? ⟨g, 1, none⟩ = some (.int .u8 (48 + ((N % 10 : Nat) : Int))) := by
        rw [hw5]; exact (World.ownsRow.cellAt hst 1 (by simp)).trans (by simp [toB])
      clear hst
      have hB5 : Below w.heap.size wr w5 := by
        rw [hw5]; exact (((Below.refl _ _).setCell (p := ⟨g, 0, none⟩) (show w.heap.size ≤ g by omega) _).setCell (p := ⟨g, 1, none⟩) (show w.heap.size ≤ g by omega) _).drew
      clear hw5
      have hcv := conv_bytes w5 g 2 capq [48 + ((N / 10 % 10 : Nat) : Int), 48 + ((N % 10 : Nat) : Int)] rfl (by
        intro i z hz
        match i with
        | 0 => simp at hz; subst hz; simpa using q0
        | 1 => simp at hz; subst hz; simpa using q1
        | i + 2 => simp at hz)
      have HT : Hid (txtL [48 + ((N / 10 % 10 : Nat) : Int), 48 + ((N % 10 : Nat) : Int)] = .string ([48 + ((N / 10 % 10 : Nat) : Int), 48 + ((N % 10 : Nat) : Int)].foldl (fun r n => r.push (UInt8.ofNat n.toNat)) ByteArray.empty)) := hide rfl; rw [← HT.out] at hcv
      go_wp2_with fail
      go_ret
      exact ⟨hB2.trans hB5, rfl⟩
end Go.Proofs.YtnephejalollfaaGreat
end
section
set_option linter.unusedVariables false
set_option linter.unusedSimpArgs false
namespace Go.Proofs.YtnephejalollfaaGreat
open Go.RowKit
open L (val dig nth)
section
variable {w : World} {k : Nat} {n : Bool} {A : Option Addr} {len cap : Nat}
theorem v_text_zero (h : QB w 0 k n A len cap 0) (hk : k ≤ 40000) : Calls Tryz.prog 19 #[.agg #[.bool n, .slice A len cap]] w fun e w' => Below w.heap.size w w' ∧ VF (Fact.eq (.string ⟨#[48]⟩)) e w' := by
  obtain ⟨d, g1, g2, g3, g4⟩ := h; refine (text_zero w n 0 _ d g1 (by omega) (by rw [g3.val]; rfl)).mono ?_; rintro e w' ⟨hb, rfl⟩; exact ⟨hb, VF.eq rfl⟩
theorem v_text_one {N : Nat} (h : QB w 0 k n A len cap (N : Int)) (hk : k ≤ 40000) (h1 : 1 ≤ N) (h9 : N ≤ 9) {v : Value} (hv : txt false N = v) : Calls Tryz.prog 19 #[.agg #[.bool n, .slice A len cap]] w fun e w' => Below w.heap.size w w' ∧ VF (Fact.eq v) e w' := by
  obtain ⟨d, g1, g2, g3, g4⟩ := h; have hn : n = false := by rw [g4]; simp
  subst hn; refine (text_calls w false 0 _ d N g1 (by omega) (by rw [g3.val]; simp) h1 h9).mono ?_; rintro e w' ⟨hb, rfl⟩; exact ⟨hb, VF.eq (by rw [hv])⟩
theorem v_text_two {N : Nat} (h : QB w 0 k n A len cap (N : Int)) (hk : k ≤ 40000) (h1 : 10 ≤ N) (h9 : N ≤ 99) {v : Value} (hv : txtL [48 + ((N / 10 % 10 : Nat) : Int), 48 + ((N % 10 : Nat) : Int)] = v) : Calls Tryz.prog 19 #[.agg #[.bool n, .slice A len cap]] w fun e w' => Below w.heap.size w w' ∧ VF (Fact.eq v) e w' := by
  obtain ⟨d, g1, g2, g3, g4⟩ := h; have hn : n = false := by rw [g4]; simp
  subst hn; refine (text_two w 0 _ d N g1 (by omega) (by rw [g3.val]; simp) h1 h9).mono ?_; rintro e w' ⟨hb, rfl⟩; exact ⟨hb, VF.eq (by rw [hv])⟩
end
theorem sh_exp {w : World} {k0 : Nat} {n0 : Bool} {A0 : Option Addr} {l0 c0 : Nat} (h0 : Q w k0 n0 A0 l0 c0 16) (hk0 : k0 ≤ 40) :
    Calls Tryz.prog 17 #[.agg #[.bool n0, .slice A0 l0 c0], .int .i64 4, .int .i64 3] w fun e w' => Below w.heap.size w w' ∧ VF (Fact.t3 (Fact.z 340 40) (Fact.z 340 46) (Fact.eq (.int .i64 0))) e w' :=
  rexp_named h0 hk0 (hide (by kernel_rfl : (if mayR 16 4 3 2 = true then expLo 16 4 (Int.toNat 3) else 0) = 40)) (hide (by kernel_rfl : (if mayR 16 4 3 2 = true then expHi 16 4 (Int.toNat 3) else 0) = 46)) (hide (by kernel_rfl : (if mayR 16 4 3 2 = true then (0 : Int) else 1) = 0))
theorem sh_cos {w : World} {k0 : Nat} {n0 : Bool} {A0 : Option Addr} {l0 c0 : Nat} (h0 : Q w k0 n0 A0 l0 c0 0) (hk0 : k0 ≤ 40) :
    Calls Tryz.prog 11 #[.agg #[.bool n0, .slice A0 l0 c0], .int .i64 3, .int .i64 1] w fun e w' => Below w.heap.size w w' ∧ VF (Fact.t3 (Fact.z 340 8) (Fact.z 340 8) (Fact.eq (.int .i64 0))) e w' :=
  rcos_named h0 hk0 (hide (by kernel_rfl : (if mayR 0 3 1 4 = true then cosLo 0 3 (Int.toNat 1) else 0) = 8)) (hide (by kernel_rfl : (if mayR 0 3 1 4 = true then cosHi 0 3 (Int.toNat 1) else 0) = 8)) (hide (by kernel_rfl : (if mayR 0 3 1 4 = true then (0 : Int) else 1) = 0))
theorem sh_sin {w : World} {k0 : Nat} {n0 : Bool} {A0 : Option Addr} {l0 c0 : Nat} (h0 : Q w k0 n0 A0 l0 c0 0) (hk0 : k0 ≤ 40) :
    Calls Tryz.prog 8 #[.agg #[.bool n0, .slice A0 l0 c0], .int .i64 3, .int .i64 1] w fun e w' => Below w.heap.size w w' ∧ VF (Fact.t3 (Fact.z 340 0) (Fact.z 340 0) (Fact.eq (.int .i64 0))) e w' :=
  rsin_named h0 hk0 (hide (by kernel_rfl : (if mayR 0 3 1 4 = true then sinLo 0 3 (Int.toNat 1) else 0) = 0)) (hide (by kernel_rfl : (if mayR 0 3 1 4 = true then sinHi 0 3 (Int.toNat 1) else 0) = 0)) (hide (by kernel_rfl : (if mayR 0 3 1 4 = true then (0 : Int) else 1) = 0))
theorem sh_atan {w : World} {k0 : Nat} {n0 : Bool} {A0 : Option Addr} {l0 c0 : Nat} (h0 : Q w k0 n0 A0 l0 c0 9) (hk0 : k0 ≤ 40) :
    Calls Tryz.prog 15 #[.agg #[.bool n0, .slice A0 l0 c0], .int .i64 4, .int .i64 3] w fun e w' => Below w.heap.size w w' ∧ VF (Fact.t3 (Fact.z 340 0) (Fact.z 340 0) (Fact.eq (.int .i64 1))) e w' :=
  ratan_named h0 hk0 (hide (by kernel_rfl : (if mayR 9 4 3 1 = true then atanLo 9 4 (Int.toNat 3) else 0) = 0)) (hide (by kernel_rfl : (if mayR 9 4 3 1 = true then atanHi 9 4 (Int.toNat 3) else 0) = 0)) (hide (by kernel_rfl : (if mayR 9 4 3 1 = true then (0 : Int) else 1) = 1))
set_option maxHeartbeats 4000000 in
set_option maxRecDepth 100000 in
theorem shown6_calls {w : World}    :
    Calls Tryz.prog 5 #[] w fun e w' => Below w.heap.size w w' ∧ VF (Fact.eq (.bool true)) e w' := by
 go_enter Tryz.func5, Tryz.ntmps5
 have HB : Hid (Below w.heap.size w w) := hide (Below.refl _ _)
 go_upto_region 0 with (fail)
 refine F2.regionS [.o] [Fact.eq ?ca0_] [0] [0] (by kernel_rfl) ?soa ?sopa (by kernel_rfl) ?sta ?fina
 case soa => exact fun x hx => by cases hx
 case sopa => exact List.Pairwise.nil
 case sta =>
  refine F2.Steps.consO rfl ?_ ?_
  ·
   intro vz wz hBz hDz hTz K hK; have HW := hBz.ext; simp only [zy, F2.Wp] at hK ⊢; go_simp; refine hK _ wz zB (Fact.eq_mk ?_); with_reducible rfl
  exact F2.Steps.nil
 intro va w1 hBz ⟨hOz, hAz, hNz, hSz⟩; have E0 : va 0 = _ := hOz 0 (by decide) rfl; simp only [Act.put, actv, fill, fC, fN, tA, cS, cZ]; simp only [E0]; clear E0; replace HB := hide (HB.out.trans (hBz.below (B := w.heap.size) HB.out.size zE)); clear hOz hAz hNz hSz hBz
 go_upto_region 1 with (fail)
 refine F2.regionS [.o, .o, .o, .o, .o, .o, .al 24 #[.bool false, .slice none 0 0], .al 24 #[.bool false, .slice none 0 0], .st 6, .st 7, .o] [Fact.z ?kb15_ ?zb15_, Fact.t3 (Fact.z ?kb16_p ?zb16_p) (Fact.z ?kb16_q ?zb16_q) (Fact.eq ?cb16_r), Fact.t3 (Fact.z ?kb14_p ?zb14_p) (Fact.z ?kb14_q ?zb14_q) (Fact.eq ?cb14_r), Fact.z ?kb17_ ?zb17_, Fact.z ?kb18_ ?zb18_, Fact.eq ?cb19_, Fact.any, Fact.any, Fact.z ?kbs1_ ?zbs1_, Fact.z ?kbs2_ ?zbs2_, Fact.eq ?cb3_] [15, 16, 14, 17, 18, 19, 1, 2, 3] [15, 16, 14, 17, 18, 19, 1, 2, 0, 0, 3] (by kernel_rfl) ?sob ?sopb (by kernel_rfl) ?stb ?finb
 case sob => exact fun x hx => by cases hx
 case sopb => exact List.Pairwise.nil
 case stb =>
  refine F2.Steps.consO rfl ?_ ?_
  ·
   intro vz wz hBz hDz hTz K hK; have HW := hBz.ext; simp only [zy, F2.Wp] at hK ⊢; go_simp; refine Calls.mono (v_of  (by omega) (by omega)) ?_; rintro e w2z ⟨hb2, uz, rfl, hf⟩
   go_wp2_with fail
   refine hK _ w2z hb2 (Fact.cast (hf) ?_); with_reducible rfl
  refine F2.Steps.consO rfl ?_ ?_
  ·
   intro vz wz hBz hDz hTz K hK; obtain ⟨n15_, A15_, l15_, c15_, E15, q15⟩ : IntV 0 _ _ wz (vz 15) := hDz 0 (by kernel_rfl) rfl; have HW := hBz.ext; simp only [zy, F2.Wp] at hK ⊢; simp only [E15] at hK ⊢; go_simp; refine Calls.mono (sh_exp q15.q (by omega)) ?_; rintro e w2z ⟨hb2, uz, rfl, hf⟩
   go_wp2_with fail
   refine hK _ w2z hb2 (Fact.cast (hf) ?_); with_reducible rfl
  refine F2.Steps.consO rfl ?_ ?_
  ·
   intro vz wz hBz hDz hTz K hK; obtain ⟨x16p_, x16q_, x16r_, E16, h16p, h16q, h16r⟩ : TV3 _ _ _ wz (vz 16) := hDz 1 (by kernel_rfl) rfl; obtain rfl := Fact.eq_of h16r; have HW := hBz.ext; simp only [zy, F2.Wp] at hK ⊢; simp only [E16] at hK ⊢; go_simp; refine hK _ wz zB (Fact.cast (Fact.t3_mk h16p h16q (Fact.eq_self _ _)) ?_); with_reducible rfl
  refine F2.Steps.consO rfl ?_ ?_
  ·
   intro vz wz hBz hDz hTz K hK; obtain ⟨x14p_, x14q_, x14r_, E14, h14p, h14q, h14r⟩ : TV3 _ _ _ wz (vz 14) := hDz 2 (by kernel_rfl) rfl; obtain rfl := Fact.eq_of h14r; have HW := hBz.ext; simp only [zy, F2.Wp] at hK ⊢; simp only [E14] at hK ⊢; go_simp; refine hK _ wz zB (Fact.cast (h14p) ?_); with_reducible rfl
  refine F2.Steps.consO rfl ?_ ?_
  ·
   intro vz wz hBz hDz hTz K hK; obtain ⟨x14p_, x14q_, x14r_, E14, h14p, h14q, h14r⟩ : TV3 _ _ _ wz (vz 14) := hDz 2 (by kernel_rfl) rfl; obtain rfl := Fact.eq_of h14r; have HW := hBz.ext; simp only [zy, F2.Wp] at hK ⊢; simp only [E14] at hK ⊢; go_simp; refine hK _ wz zB (Fact.cast (h14q) ?_); with_reducible rfl
  refine F2.Steps.consO rfl ?_ ?_
  ·
   intro vz wz hBz hDz hTz K hK; obtain ⟨x14p_, x14q_, x14r_, E14, h14p, h14q, h14r⟩ : TV3 _ _ _ wz (vz 14) := hDz 2 (by kernel_rfl) rfl; obtain rfl := Fact.eq_of h14r; have HW := hBz.ext; simp only [zy, F2.Wp] at hK ⊢; simp only [E14] at hK ⊢; go_simp; refine hK _ wz zB (Fact.eq_mk ?_); with_reducible rfl
  refine F2.Steps.consA rfl ⟨NoU.two nB nS, ?_⟩ ?_
  ·
   intro vz wz hBz K hK; simp only [zy, F2.Wp] at hK ⊢; go_simp; exact hK
  refine F2.Steps.consA rfl ⟨NoU.two nB nS, ?_⟩ ?_
  ·
   intro vz wz hBz K hK; simp only [zy, F2.Wp] at hK ⊢; go_simp; exact hK
  refine F2.Steps.consS rfl rfl ?_ ?_
  ·
   intro vz wz gz hBz hDz E1' hgz hbz K hK; obtain ⟨zc0, zc1, zc2, zc3⟩ := hbz.two; obtain ⟨n17_, A17_, l17_, c17_, E17, q17⟩ : IntV 0 _ _ wz (vz 17) := hDz 3 (by kernel_rfl) rfl; have E1 : vz 1 = .pointer (some ⟨gz, 0, none⟩) := E1'; have HW := hBz.ext; simp only [zy, F2.Wp] at hK ⊢; simp only [E1, E17] at hK ⊢; go_simp; refine hK _ ((Far.set _ gz 0 _).trans (Far.set _ gz 1 _)) ⟨_, blk_two hbz, NoU.two nB nS, Fact.cast (Fact.z_mk q17) ?_⟩; with_reducible rfl
  refine F2.Steps.consS rfl rfl ?_ ?_
  ·
   intro vz wz gz hBz hDz E2' hgz hbz K hK; obtain ⟨zc0, zc1, zc2, zc3⟩ := hbz.two; obtain ⟨n18_, A18_, l18_, c18_, E18, q18⟩ : IntV 0 _ _ wz (vz 18) := hDz 4 (by kernel_rfl) rfl; have E2 : vz 2 = .pointer (some ⟨gz, 0, none⟩) := E2'; have HW := hBz.ext; simp only [zy, F2.Wp] at hK ⊢; simp only [E2, E18] at hK ⊢; go_simp; refine hK _ ((Far.set _ gz 0 _).trans (Far.set _ gz 1 _)) ⟨_, blk_two hbz, NoU.two nB nS, Fact.cast (Fact.z_mk q18) ?_⟩; with_reducible rfl
  refine F2.Steps.consO rfl ?_ ?_
  ·
   intro vz wz hBz hDz hTz K hK; have E19 : vz 19 = _ := hDz 5 (by kernel_rfl) rfl; have HW := hBz.ext; simp only [zy, F2.Wp] at hK ⊢; simp only [E19] at hK ⊢; go_simp; refine hK _ wz zB (Fact.eq_mk ?_); with_reducible rfl
  exact F2.Steps.nil
 intro vb w2 hBz ⟨hOz, hAz, hNz, hSz⟩; obtain ⟨n15_, A15_, l15_, c15_, E15, q15⟩ : IntV 0 _ _ w2 (vb 15) := hOz 0 (by decide) rfl; obtain ⟨x16p_, x16q_, x16r_, E16, h16p, h16q, h16r⟩ : TV3 _ _ _ w2 (vb 16) := hOz 1 (by decide) rfl; obtain rfl := Fact.eq_of h16r; obtain ⟨x14p_, x14q_, x14r_, E14, h14p, h14q, h14r⟩ : TV3 _ _ _ w2 (vb 14) := hOz 2 (by decide) rfl; obtain rfl := Fact.eq_of h14r; obtain ⟨n17_, A17_, l17_, c17_, E17, q17⟩ : IntV 0 _ _ w2 (vb 17) := hOz 3 (by decide) rfl; obtain ⟨n18_, A18_, l18_, c18_, E18, q18⟩ : IntV 0 _ _ w2 (vb 18) := hOz 4 (by decide) rfl; have E19 : vb 19 = _ := hOz 5 (by decide) rfl; obtain ⟨g1, cs1, E1, hg1, bx1, hs1, hz1⟩ := hAz 6 _ _ (by decide) rfl; obtain ⟨g2, cs2, E2, hg2, bx2, hs2, hz2⟩ := hAz 7 _ _ (by decide) rfl; obtain ⟨n1sb_, A1sb_, l1sb_, c1sb_, E1sb, q1sb⟩ : IntV 0 _ _ w2 (.agg cs1) := hs1 8 (by decide) rfl; injection E1sb with E1sb
 subst E1sb; obtain ⟨n2sb_, A2sb_, l2sb_, c2sb_, E2sb, q2sb⟩ : IntV 0 _ _ w2 (.agg cs2) := hs2 9 (by decide) rfl; injection E2sb with E2sb
 subst E2sb; have E3 : vb 3 = _ := hOz 10 (by decide) rfl; have hne1_2 : Hid (¬ g1 = g2) := hide (fun h => hNz 6 7 _ _ _ _ (by decide) (by decide) (by decide) rfl rfl (by rw [E1, E2, h])); simp only [Act.put, actv, fill, fC, fN, tA, cS, cZ]; simp only [E15, E16, E14, E17, E18, E19, (show vb 1 = _ from E1), (show vb 2 = _ from E2), E3]; clear E15 E16 E14 E17 E18 E19 E1 E2 E3; have hge1 : w.heap.size ≤ g1 := Nat.le_trans HB.out.size hg1; have hge2 : w.heap.size ≤ g2 := Nat.le_trans HB.out.size hg2; replace HB := hide (HB.out.trans (hBz.below (B := w.heap.size) HB.out.size zE)); clear hOz hAz hNz hSz hs1 hz1 hs2 hz2 hBz
 go_upto_region 2 with (fail)
 refine F2.regionS [.o, .o, .o, .o, .o, .o, .al 24 #[.bool false, .slice none 0 0], .al 24 #[.bool false, .slice none 0 0], .st 6, .st 7, .o] [Fact.eq ?cc21_, Fact.t3 (Fact.z ?kc22_p ?zc22_p) (Fact.z ?kc22_q ?zc22_q) (Fact.eq ?cc22_r), Fact.t3 (Fact.z ?kc20_p ?zc20_p) (Fact.z ?kc20_q ?zc20_q) (Fact.eq ?cc20_r), Fact.z ?kc23_ ?zc23_, Fact.z ?kc24_ ?zc24_, Fact.eq ?cc25_, Fact.any, Fact.any, Fact.z ?kcs4_ ?zcs4_, Fact.z ?kcs5_ ?zcs5_, Fact.eq ?cc6_] [21, 22, 20, 23, 24, 25, 4, 5, 6] [21, 22, 20, 23, 24, 25, 4, 5, 0, 0, 6] (by kernel_rfl) ?soc ?sopc (by kernel_rfl) ?stc ?finc
 case soc => exact fun x hx => by cases hx
 case sopc => exact List.Pairwise.nil
 case stc =>
  refine F2.Steps.consO rfl ?_ ?_
  ·
   intro vz wz hBz hDz hTz K hK; have HW := hBz.ext; simp only [zy, F2.Wp] at hK ⊢; go_simp; refine hK _ wz zB (Fact.eq_mk ?_); with_reducible rfl
  refine F2.Steps.consO rfl ?_ ?_
  ·
   intro vz wz hBz hDz hTz K hK; have E21 : vz 21 = _ := hDz 0 (by kernel_rfl) rfl; have HW := hBz.ext; simp only [zy, F2.Wp] at hK ⊢; simp only [E21] at hK ⊢; go_simp; refine Calls.mono (sh_cos (QB.zero _ 0 0).q (by omega)) ?_; rintro e w2z ⟨hb2, uz, rfl, hf⟩
   go_wp2_with fail
   refine hK _ w2z hb2 (Fact.cast (hf) ?_); with_reducible rfl
  refine F2.Steps.consO rfl ?_ ?_
  ·
   intro vz wz hBz hDz hTz K hK; obtain ⟨x22p_, x22q_, x22r_, E22, h22p, h22q, h22r⟩ : TV3 _ _ _ wz (vz 22) := hDz 1 (by kernel_rfl) rfl; obtain rfl := Fact.eq_of h22r; have HW := hBz.ext; simp only [zy, F2.Wp] at hK ⊢; simp only [E22] at hK ⊢; go_simp; refine hK _ wz zB (Fact.cast (Fact.t3_mk h22p h22q (Fact.eq_self _ _)) ?_); with_reducible rfl
  refine F2.Steps.consO rfl ?_ ?_
  ·
   intro vz wz hBz hDz hTz K hK; obtain ⟨x20p_, x20q_, x20r_, E20, h20p, h20q, h20r⟩ : TV3 _ _ _ wz (vz 20) := hDz 2 (by kernel_rfl) rfl; obtain rfl := Fact.eq_of h20r; have HW := hBz.ext; simp only [zy, F2.Wp] at hK ⊢; simp only [E20] at hK ⊢; go_simp; refine hK _ wz zB (Fact.cast (h20p) ?_); with_reducible rfl
  refine F2.Steps.consO rfl ?_ ?_
  ·
   intro vz wz hBz hDz hTz K hK; obtain ⟨x20p_, x20q_, x20r_, E20, h20p, h20q, h20r⟩ : TV3 _ _ _ wz (vz 20) := hDz 2 (by kernel_rfl) rfl; obtain rfl := Fact.eq_of h20r; have HW := hBz.ext; simp only [zy, F2.Wp] at hK ⊢; simp only [E20] at hK ⊢; go_simp; refine hK _ wz zB (Fact.cast (h20q) ?_); with_reducible rfl
  refine F2.Steps.consO rfl ?_ ?_
  ·
   intro vz wz hBz hDz hTz K hK; obtain ⟨x20p_, x20q_, x20r_, E20, h20p, h20q, h20r⟩ : TV3 _ _ _ wz (vz 20) := hDz 2 (by kernel_rfl) rfl; obtain rfl := Fact.eq_of h20r; have HW := hBz.ext; simp only [zy, F2.Wp] at hK ⊢; simp only [E20] at hK ⊢; go_simp; refine hK _ wz zB (Fact.eq_mk ?_); with_reducible rfl
  refine F2.Steps.consA rfl ⟨NoU.two nB nS, ?_⟩ ?_
  ·
   intro vz wz hBz K hK; simp only [zy, F2.Wp] at hK ⊢; go_simp; exact hK
  refine F2.Steps.consA rfl ⟨NoU.two nB nS, ?_⟩ ?_
  ·
   intro vz wz hBz K hK; simp only [zy, F2.Wp] at hK ⊢; go_simp; exact hK
  refine F2.Steps.consS rfl rfl ?_ ?_
  ·
   intro vz wz gz hBz hDz E4' hgz hbz K hK; obtain ⟨zc0, zc1, zc2, zc3⟩ := hbz.two; obtain ⟨n23_, A23_, l23_, c23_, E23, q23⟩ : IntV 0 _ _ wz (vz 23) := hDz 3 (by kernel_rfl) rfl; have E4 : vz 4 = .pointer (some ⟨gz, 0, none⟩) := E4'; have HW := hBz.ext; simp only [zy, F2.Wp] at hK ⊢; simp only [E4, E23] at hK ⊢; go_simp; refine hK _ ((Far.set _ gz 0 _).trans (Far.set _ gz 1 _)) ⟨_, blk_two hbz, NoU.two nB nS, Fact.cast (Fact.z_mk q23) ?_⟩; with_reducible rfl
  refine F2.Steps.consS rfl rfl ?_ ?_
  ·
   intro vz wz gz hBz hDz E5' hgz hbz K hK; obtain ⟨zc0, zc1, zc2, zc3⟩ := hbz.two; obtain ⟨n24_, A24_, l24_, c24_, E24, q24⟩ : IntV 0 _ _ wz (vz 24) := hDz 4 (by kernel_rfl) rfl; have E5 : vz 5 = .pointer (some ⟨gz, 0, none⟩) := E5'; have HW := hBz.ext; simp only [zy, F2.Wp] at hK ⊢; simp only [E5, E24] at hK ⊢; go_simp; refine hK _ ((Far.set _ gz 0 _).trans (Far.set _ gz 1 _)) ⟨_, blk_two hbz, NoU.two nB nS, Fact.cast (Fact.z_mk q24) ?_⟩; with_reducible rfl
  refine F2.Steps.consO rfl ?_ ?_
  ·
   intro vz wz hBz hDz hTz K hK; have E25 : vz 25 = _ := hDz 5 (by kernel_rfl) rfl; have HW := hBz.ext; simp only [zy, F2.Wp] at hK ⊢; simp only [E25] at hK ⊢; go_simp; refine hK _ wz zB (Fact.eq_mk ?_); with_reducible rfl
  exact F2.Steps.nil
 intro vc w3 hBz ⟨hOz, hAz, hNz, hSz⟩; have E21 : vc 21 = _ := hOz 0 (by decide) rfl; obtain ⟨x22p_, x22q_, x22r_, E22, h22p, h22q, h22r⟩ : TV3 _ _ _ w3 (vc 22) := hOz 1 (by decide) rfl; obtain rfl := Fact.eq_of h22r; obtain ⟨x20p_, x20q_, x20r_, E20, h20p, h20q, h20r⟩ : TV3 _ _ _ w3 (vc 20) := hOz 2 (by decide) rfl; obtain rfl := Fact.eq_of h20r; obtain ⟨n23_, A23_, l23_, c23_, E23, q23⟩ : IntV 0 _ _ w3 (vc 23) := hOz 3 (by decide) rfl; obtain ⟨n24_, A24_, l24_, c24_, E24, q24⟩ : IntV 0 _ _ w3 (vc 24) := hOz 4 (by decide) rfl; have E25 : vc 25 = _ := hOz 5 (by decide) rfl; obtain ⟨g4, cs4, E4, hg4, bx4, hs4, hz4⟩ := hAz 6 _ _ (by decide) rfl; obtain ⟨g5, cs5, E5, hg5, bx5, hs5, hz5⟩ := hAz 7 _ _ (by decide) rfl; obtain ⟨n4sc_, A4sc_, l4sc_, c4sc_, E4sc, q4sc⟩ : IntV 0 _ _ w3 (.agg cs4) := hs4 8 (by decide) rfl; injection E4sc with E4sc
 subst E4sc; obtain ⟨n5sc_, A5sc_, l5sc_, c5sc_, E5sc, q5sc⟩ : IntV 0 _ _ w3 (.agg cs5) := hs5 9 (by decide) rfl; injection E5sc with E5sc
 subst E5sc; have E6 : vc 6 = _ := hOz 10 (by decide) rfl; have hne4_5 : Hid (¬ g4 = g5) := hide (fun h => hNz 6 7 _ _ _ _ (by decide) (by decide) (by decide) rfl rfl (by rw [E4, E5, h])); simp only [Act.put, actv, fill, fC, fN, tA, cS, cZ]; simp only [E21, E22, E20, E23, E24, E25, (show vc 4 = _ from E4), (show vc 5 = _ from E5), E6]; clear E21 E22 E20 E23 E24 E25 E4 E5 E6; have hge4 : w.heap.size ≤ g4 := Nat.le_trans HB.out.size hg4; have hne4_1 := hide (Nat.ne_of_gt (Nat.lt_of_lt_of_le bx1.lt (show w2.heap.size ≤ g4 from hg4))); have hne4_2 := hide (Nat.ne_of_gt (Nat.lt_of_lt_of_le bx2.lt (show w2.heap.size ≤ g4 from hg4))); have hge5 : w.heap.size ≤ g5 := Nat.le_trans HB.out.size hg5; have hne5_1 := hide (Nat.ne_of_gt (Nat.lt_of_lt_of_le bx1.lt (show w2.heap.size ≤ g5 from hg5))); have hne5_2 := hide (Nat.ne_of_gt (Nat.lt_of_lt_of_le bx2.lt (show w2.heap.size ≤ g5 from hg5))); replace q1sb := q1sb.ext hBz.ext; replace q2sb := q2sb.ext hBz.ext; replace bx1 := hBz.blk bx1 zN; replace bx2 := hBz.blk bx2 zN; replace HB := hide (HB.out.trans (hBz.below (B := w.heap.size) HB.out.size zE)); clear hOz hAz hNz hSz hs4 hz4 hs5 hz5 hBz
 go_upto_region 3 with (fail)
 refine F2.regionS [.o, .o, .o, .o, .o, .o, .al 24 #[.bool false, .slice none 0 0], .al 24 #[.bool false, .slice none 0 0], .st 6, .st 7, .o] [Fact.eq ?cd27_, Fact.t3 (Fact.z ?kd28_p ?zd28_p) (Fact.z ?kd28_q ?zd28_q) (Fact.eq ?cd28_r), Fact.t3 (Fact.z ?kd26_p ?zd26_p) (Fact.z ?kd26_q ?zd26_q) (Fact.eq ?cd26_r), Fact.z ?kd29_ ?zd29_, Fact.z ?kd30_ ?zd30_, Fact.eq ?cd31_, Fact.any, Fact.any, Fact.z ?kds7_ ?zds7_, Fact.z ?kds8_ ?zds8_, Fact.eq ?cd9_] [27, 28, 26, 29, 30, 31, 7, 8, 9] [27, 28, 26, 29, 30, 31, 7, 8, 0, 0, 9] (by kernel_rfl) ?sod ?sopd (by kernel_rfl) ?std ?find
 case sod => exact fun x hx => by cases hx
 case sopd => exact List.Pairwise.nil
 case std =>
  refine F2.Steps.consO rfl ?_ ?_
  ·
   intro vz wz hBz hDz hTz K hK; have HW := hBz.ext; simp only [zy, F2.Wp] at hK ⊢; go_simp; refine hK _ wz zB (Fact.eq_mk ?_); with_reducible rfl
  refine F2.Steps.consO rfl ?_ ?_
  ·
   intro vz wz hBz hDz hTz K hK; have E27 : vz 27 = _ := hDz 0 (by kernel_rfl) rfl; have HW := hBz.ext; simp only [zy, F2.Wp] at hK ⊢; simp only [E27] at hK ⊢; go_simp; refine Calls.mono (sh_sin (QB.zero _ 0 0).q (by omega)) ?_; rintro e w2z ⟨hb2, uz, rfl, hf⟩
   go_wp2_with fail
   refine hK _ w2z hb2 (Fact.cast (hf) ?_); with_reducible rfl
  refine F2.Steps.consO rfl ?_ ?_
  ·
   intro vz wz hBz hDz hTz K hK; obtain ⟨x28p_, x28q_, x28r_, E28, h28p, h28q, h28r⟩ : TV3 _ _ _ wz (vz 28) := hDz 1 (by kernel_rfl) rfl; obtain rfl := Fact.eq_of h28r; have HW := hBz.ext; simp only [zy, F2.Wp] at hK ⊢; simp only [E28] at hK ⊢; go_simp; refine hK _ wz zB (Fact.cast (Fact.t3_mk h28p h28q (Fact.eq_self _ _)) ?_); with_reducible rfl
  refine F2.Steps.consO rfl ?_ ?_
  ·
   intro vz wz hBz hDz hTz K hK; obtain ⟨x26p_, x26q_, x26r_, E26, h26p, h26q, h26r⟩ : TV3 _ _ _ wz (vz 26) := hDz 2 (by kernel_rfl) rfl; obtain rfl := Fact.eq_of h26r; have HW := hBz.ext; simp only [zy, F2.Wp] at hK ⊢; simp only [E26] at hK ⊢; go_simp; refine hK _ wz zB (Fact.cast (h26p) ?_); with_reducible rfl
  refine F2.Steps.consO rfl ?_ ?_
  ·
   intro vz wz hBz hDz hTz K hK; obtain ⟨x26p_, x26q_, x26r_, E26, h26p, h26q, h26r⟩ : TV3 _ _ _ wz (vz 26) := hDz 2 (by kernel_rfl) rfl; obtain rfl := Fact.eq_of h26r; have HW := hBz.ext; simp only [zy, F2.Wp] at hK ⊢; simp only [E26] at hK ⊢; go_simp; refine hK _ wz zB (Fact.cast (h26q) ?_); with_reducible rfl
  refine F2.Steps.consO rfl ?_ ?_
  ·
   intro vz wz hBz hDz hTz K hK; obtain ⟨x26p_, x26q_, x26r_, E26, h26p, h26q, h26r⟩ : TV3 _ _ _ wz (vz 26) := hDz 2 (by kernel_rfl) rfl; obtain rfl := Fact.eq_of h26r; have HW := hBz.ext; simp only [zy, F2.Wp] at hK ⊢; simp only [E26] at hK ⊢; go_simp; refine hK _ wz zB (Fact.eq_mk ?_); with_reducible rfl
  refine F2.Steps.consA rfl ⟨NoU.two nB nS, ?_⟩ ?_
  ·
   intro vz wz hBz K hK; simp only [zy, F2.Wp] at hK ⊢; go_simp; exact hK
  refine F2.Steps.consA rfl ⟨NoU.two nB nS, ?_⟩ ?_
  ·
   intro vz wz hBz K hK; simp only [zy, F2.Wp] at hK ⊢; go_simp; exact hK
  refine F2.Steps.consS rfl rfl ?_ ?_
  ·
   intro vz wz gz hBz hDz E7' hgz hbz K hK; obtain ⟨zc0, zc1, zc2, zc3⟩ := hbz.two; obtain ⟨n29_, A29_, l29_, c29_, E29, q29⟩ : IntV 0 _ _ wz (vz 29) := hDz 3 (by kernel_rfl) rfl; have E7 : vz 7 = .pointer (some ⟨gz, 0, none⟩) := E7'; have HW := hBz.ext; simp only [zy, F2.Wp] at hK ⊢; simp only [E7, E29] at hK ⊢; go_simp; refine hK _ ((Far.set _ gz 0 _).trans (Far.set _ gz 1 _)) ⟨_, blk_two hbz, NoU.two nB nS, Fact.cast (Fact.z_mk q29) ?_⟩; with_reducible rfl
  refine F2.Steps.consS rfl rfl ?_ ?_
  ·
   intro vz wz gz hBz hDz E8' hgz hbz K hK; obtain ⟨zc0, zc1, zc2, zc3⟩ := hbz.two; obtain ⟨n30_, A30_, l30_, c30_, E30, q30⟩ : IntV 0 _ _ wz (vz 30) := hDz 4 (by kernel_rfl) rfl; have E8 : vz 8 = .pointer (some ⟨gz, 0, none⟩) := E8'; have HW := hBz.ext; simp only [zy, F2.Wp] at hK ⊢; simp only [E8, E30] at hK ⊢; go_simp; refine hK _ ((Far.set _ gz 0 _).trans (Far.set _ gz 1 _)) ⟨_, blk_two hbz, NoU.two nB nS, Fact.cast (Fact.z_mk q30) ?_⟩; with_reducible rfl
  refine F2.Steps.consO rfl ?_ ?_
  ·
   intro vz wz hBz hDz hTz K hK; have E31 : vz 31 = _ := hDz 5 (by kernel_rfl) rfl; have HW := hBz.ext; simp only [zy, F2.Wp] at hK ⊢; simp only [E31] at hK ⊢; go_simp; refine hK _ wz zB (Fact.eq_mk ?_); with_reducible rfl
  exact F2.Steps.nil
 intro vd w4 hBz ⟨hOz, hAz, hNz, hSz⟩; have E27 : vd 27 = _ := hOz 0 (by decide) rfl; obtain ⟨x28p_, x28q_, x28r_, E28, h28p, h28q, h28r⟩ : TV3 _ _ _ w4 (vd 28) := hOz 1 (by decide) rfl; obtain rfl := Fact.eq_of h28r; obtain ⟨x26p_, x26q_, x26r_, E26, h26p, h26q, h26r⟩ : TV3 _ _ _ w4 (vd 26) := hOz 2 (by decide) rfl; obtain rfl := Fact.eq_of h26r; obtain ⟨n29_, A29_, l29_, c29_, E29, q29⟩ : IntV 0 _ _ w4 (vd 29) := hOz 3 (by decide) rfl; obtain ⟨n30_, A30_, l30_, c30_, E30, q30⟩ : IntV 0 _ _ w4 (vd 30) := hOz 4 (by decide) rfl; have E31 : vd 31 = _ := hOz 5 (by decide) rfl; obtain ⟨g7, cs7, E7, hg7, bx7, hs7, hz7⟩ := hAz 6 _ _ (by decide) rfl; obtain ⟨g8, cs8, E8, hg8, bx8, hs8, hz8⟩ := hAz 7 _ _ (by decide) rfl; obtain ⟨n7sd_, A7sd_, l7sd_, c7sd_, E7sd, q7sd⟩ : IntV 0 _ _ w4 (.agg cs7) := hs7 8 (by decide) rfl; injection E7sd with E7sd
 subst E7sd; obtain ⟨n8sd_, A8sd_, l8sd_, c8sd_, E8sd, q8sd⟩ : IntV 0 _ _ w4 (.agg cs8) := hs8 9 (by decide) rfl; injection E8sd with E8sd
 subst E8sd; have E9 : vd 9 = _ := hOz 10 (by decide) rfl; have hne7_8 : Hid (¬ g7 = g8) := hide (fun h => hNz 6 7 _ _ _ _ (by decide) (by decide) (by decide) rfl rfl (by rw [E7, E8, h])); simp only [Act.put, actv, fill, fC, fN, tA, cS, cZ]; simp only [E27, E28, E26, E29, E30, E31, (show vd 7 = _ from E7), (show vd 8 = _ from E8), E9]; clear E27 E28 E26 E29 E30 E31 E7 E8 E9; have hge7 : w.heap.size ≤ g7 := Nat.le_trans HB.out.size hg7; have hne7_1 := hide (Nat.ne_of_gt (Nat.lt_of_lt_of_le bx1.lt (show w3.heap.size ≤ g7 from hg7))); have hne7_2 := hide (Nat.ne_of_gt (Nat.lt_of_lt_of_le bx2.lt (show w3.heap.size ≤ g7 from hg7))); have hne7_4 := hide (Nat.ne_of_gt (Nat.lt_of_lt_of_le bx4.lt (show w3.heap.size ≤ g7 from hg7))); have hne7_5 := hide (Nat.ne_of_gt (Nat.lt_of_lt_of_le bx5.lt (show w3.heap.size ≤ g7 from hg7))); have hge8 : w.heap.size ≤ g8 := Nat.le_trans HB.out.size hg8; have hne8_1 := hide (Nat.ne_of_gt (Nat.lt_of_lt_of_le bx1.lt (show w3.heap.size ≤ g8 from hg8))); have hne8_2 := hide (Nat.ne_of_gt (Nat.lt_of_lt_of_le bx2.lt (show w3.heap.size ≤ g8 from hg8))); have hne8_4 := hide (Nat.ne_of_gt (Nat.lt_of_lt_of_le bx4.lt (show w3.heap.size ≤ g8 from hg8))); have hne8_5 := hide (Nat.ne_of_gt (Nat.lt_of_lt_of_le bx5.lt (show w3.heap.size ≤ g8 from hg8))); replace q1sb := q1sb.ext hBz.ext; replace q2sb := q2sb.ext hBz.ext; replace q4sc := q4sc.ext hBz.ext; replace q5sc := q5sc.ext hBz.ext; replace bx1 := hBz.blk bx1 zN; replace bx2 := hBz.blk bx2 zN; replace bx4 := hBz.blk bx4 zN; replace bx5 := hBz.blk bx5 zN; replace HB := hide (HB.out.trans (hBz.below (B := w.heap.size) HB.out.size zE)); clear hOz hAz hNz hSz hs7 hz7 hs8 hz8 hBz
 go_upto_region 4 with (fail)
 refine F2.regionS [.o, .o, .o, .o, .o, .o, .al 24 #[.bool false, .slice none 0 0], .al 24 #[.bool false, .slice none 0 0], .st 6, .st 7, .o] [Fact.z ?ke33_ ?ze33_, Fact.t3 (Fact.z ?ke34_p ?ze34_p) (Fact.z ?ke34_q ?ze34_q) (Fact.eq ?ce34_r), Fact.t3 (Fact.z ?ke32_p ?ze32_p) (Fact.z ?ke32_q ?ze32_q) (Fact.eq ?ce32_r), Fact.z ?ke35_ ?ze35_, Fact.z ?ke36_ ?ze36_, Fact.eq ?ce37_, Fact.any, Fact.any, Fact.z ?kes10_ ?zes10_, Fact.z ?kes11_ ?zes11_, Fact.eq ?ce12_] [33, 34, 32, 35, 36, 37, 10, 11, 12] [33, 34, 32, 35, 36, 37, 10, 11, 0, 0, 12] (by kernel_rfl) ?soe ?sope (by kernel_rfl) ?ste ?fine
 case soe => exact fun x hx => by cases hx
 case sope => exact List.Pairwise.nil
 case ste =>
  refine F2.Steps.consO rfl ?_ ?_
  ·
   intro vz wz hBz hDz hTz K hK; have HW := hBz.ext; simp only [zy, F2.Wp] at hK ⊢; go_simp; refine Calls.mono (v_of  (by omega) (by omega)) ?_; rintro e w2z ⟨hb2, uz, rfl, hf⟩
   go_wp2_with fail
   refine hK _ w2z hb2 (Fact.cast (hf) ?_); with_reducible rfl
  refine F2.Steps.consO rfl ?_ ?_
  ·
   intro vz wz hBz hDz hTz K hK; obtain ⟨n33_, A33_, l33_, c33_, E33, q33⟩ : IntV 0 _ _ wz (vz 33) := hDz 0 (by kernel_rfl) rfl; have HW := hBz.ext; simp only [zy, F2.Wp] at hK ⊢; simp only [E33] at hK ⊢; go_simp; refine Calls.mono (sh_atan q33.q (by omega)) ?_; rintro e w2z ⟨hb2, uz, rfl, hf⟩
   go_wp2_with fail
   refine hK _ w2z hb2 (Fact.cast (hf) ?_); with_reducible rfl
  refine F2.Steps.consO rfl ?_ ?_
  ·
   intro vz wz hBz hDz hTz K hK; obtain ⟨x34p_, x34q_, x34r_, E34, h34p, h34q, h34r⟩ : TV3 _ _ _ wz (vz 34) := hDz 1 (by kernel_rfl) rfl; obtain rfl := Fact.eq_of h34r; have HW := hBz.ext; simp only [zy, F2.Wp] at hK ⊢; simp only [E34] at hK ⊢; go_simp; refine hK _ wz zB (Fact.cast (Fact.t3_mk h34p h34q (Fact.eq_self _ _)) ?_); with_reducible rfl
  refine F2.Steps.consO rfl ?_ ?_
  ·
   intro vz wz hBz hDz hTz K hK; obtain ⟨x32p_, x32q_, x32r_, E32, h32p, h32q, h32r⟩ : TV3 _ _ _ wz (vz 32) := hDz 2 (by kernel_rfl) rfl; obtain rfl := Fact.eq_of h32r; have HW := hBz.ext; simp only [zy, F2.Wp] at hK ⊢; simp only [E32] at hK ⊢; go_simp; refine hK _ wz zB (Fact.cast (h32p) ?_); with_reducible rfl
  refine F2.Steps.consO rfl ?_ ?_
  ·
   intro vz wz hBz hDz hTz K hK; obtain ⟨x32p_, x32q_, x32r_, E32, h32p, h32q, h32r⟩ : TV3 _ _ _ wz (vz 32) := hDz 2 (by kernel_rfl) rfl; obtain rfl := Fact.eq_of h32r; have HW := hBz.ext; simp only [zy, F2.Wp] at hK ⊢; simp only [E32] at hK ⊢; go_simp; refine hK _ wz zB (Fact.cast (h32q) ?_); with_reducible rfl
  refine F2.Steps.consO rfl ?_ ?_
  ·
   intro vz wz hBz hDz hTz K hK; obtain ⟨x32p_, x32q_, x32r_, E32, h32p, h32q, h32r⟩ : TV3 _ _ _ wz (vz 32) := hDz 2 (by kernel_rfl) rfl; obtain rfl := Fact.eq_of h32r; have HW := hBz.ext; simp only [zy, F2.Wp] at hK ⊢; simp only [E32] at hK ⊢; go_simp; refine hK _ wz zB (Fact.eq_mk ?_); with_reducible rfl
  refine F2.Steps.consA rfl ⟨NoU.two nB nS, ?_⟩ ?_
  ·
   intro vz wz hBz K hK; simp only [zy, F2.Wp] at hK ⊢; go_simp; exact hK
  refine F2.Steps.consA rfl ⟨NoU.two nB nS, ?_⟩ ?_
  ·
   intro vz wz hBz K hK; simp only [zy, F2.Wp] at hK ⊢; go_simp; exact hK
  refine F2.Steps.consS rfl rfl ?_ ?_
  ·
   intro vz wz gz hBz hDz E10' hgz hbz K hK; obtain ⟨zc0, zc1, zc2, zc3⟩ := hbz.two; obtain ⟨n35_, A35_, l35_, c35_, E35, q35⟩ : IntV 0 _ _ wz (vz 35) := hDz 3 (by kernel_rfl) rfl; have E10 : vz 10 = .pointer (some ⟨gz, 0, none⟩) := E10'; have HW := hBz.ext; simp only [zy, F2.Wp] at hK ⊢; simp only [E10, E35] at hK ⊢; go_simp; refine hK _ ((Far.set _ gz 0 _).trans (Far.set _ gz 1 _)) ⟨_, blk_two hbz, NoU.two nB nS, Fact.cast (Fact.z_mk q35) ?_⟩; with_reducible rfl
  refine F2.Steps.consS rfl rfl ?_ ?_
  ·
   intro vz wz gz hBz hDz E11' hgz hbz K hK; obtain ⟨zc0, zc1, zc2, zc3⟩ := hbz.two; obtain ⟨n36_, A36_, l36_, c36_, E36, q36⟩ : IntV 0 _ _ wz (vz 36) := hDz 4 (by kernel_rfl) rfl; have E11 : vz 11 = .pointer (some ⟨gz, 0, none⟩) := E11'; have HW := hBz.ext; simp only [zy, F2.Wp] at hK ⊢; simp only [E11, E36] at hK ⊢; go_simp; refine hK _ ((Far.set _ gz 0 _).trans (Far.set _ gz 1 _)) ⟨_, blk_two hbz, NoU.two nB nS, Fact.cast (Fact.z_mk q36) ?_⟩; with_reducible rfl
  refine F2.Steps.consO rfl ?_ ?_
  ·
   intro vz wz hBz hDz hTz K hK; have E37 : vz 37 = _ := hDz 5 (by kernel_rfl) rfl; have HW := hBz.ext; simp only [zy, F2.Wp] at hK ⊢; simp only [E37] at hK ⊢; go_simp; refine hK _ wz zB (Fact.eq_mk ?_); with_reducible rfl
  exact F2.Steps.nil
 intro ve w5 hBz ⟨hOz, hAz, hNz, hSz⟩; obtain ⟨n33_, A33_, l33_, c33_, E33, q33⟩ : IntV 0 _ _ w5 (ve 33) := hOz 0 (by decide) rfl; obtain ⟨x34p_, x34q_, x34r_, E34, h34p, h34q, h34r⟩ : TV3 _ _ _ w5 (ve 34) := hOz 1 (by decide) rfl; obtain rfl := Fact.eq_of h34r; obtain ⟨x32p_, x32q_, x32r_, E32, h32p, h32q, h32r⟩ : TV3 _ _ _ w5 (ve 32) := hOz 2 (by decide) rfl; obtain rfl := Fact.eq_of h32r; obtain ⟨n35_, A35_, l35_, c35_, E35, q35⟩ : IntV 0 _ _ w5 (ve 35) := hOz 3 (by decide) rfl; obtain ⟨n36_, A36_, l36_, c36_, E36, q36⟩ : IntV 0 _ _ w5 (ve 36) := hOz 4 (by decide) rfl; have E37 : ve 37 = _ := hOz 5 (by decide) rfl; obtain ⟨g10, cs10, E10, hg10, bx10, hs10, hz10⟩ := hAz 6 _ _ (by decide) rfl; obtain ⟨g11, cs11, E11, hg11, bx11, hs11, hz11⟩ := hAz 7 _ _ (by decide) rfl; obtain ⟨n10se_, A10se_, l10se_, c10se_, E10se, q10se⟩ : IntV 0 _ _ w5 (.agg cs10) := hs10 8 (by decide) rfl; injection E10se with E10se
 subst E10se; obtain ⟨n11se_, A11se_, l11se_, c11se_, E11se, q11se⟩ : IntV 0 _ _ w5 (.agg cs11) := hs11 9 (by decide) rfl; injection E11se with E11se
 subst E11se; have E12 : ve 12 = _ := hOz 10 (by decide) rfl; have hne10_11 : Hid (¬ g10 = g11) := hide (fun h => hNz 6 7 _ _ _ _ (by decide) (by decide) (by decide) rfl rfl (by rw [E10, E11, h])); simp only [Act.put, actv, fill, fC, fN, tA, cS, cZ]; simp only [E33, E34, E32, E35, E36, E37, (show ve 10 = _ from E10), (show ve 11 = _ from E11), E12]; clear E33 E34 E32 E35 E36 E37 E10 E11 E12; have hge10 : w.heap.size ≤ g10 := Nat.le_trans HB.out.size hg10; have hne10_1 := hide (Nat.ne_of_gt (Nat.lt_of_lt_of_le bx1.lt (show w4.heap.size ≤ g10 from hg10))); have hne10_2 := hide (Nat.ne_of_gt (Nat.lt_of_lt_of_le bx2.lt (show w4.heap.size ≤ g10 from hg10))); have hne10_4 := hide (Nat.ne_of_gt (Nat.lt_of_lt_of_le bx4.lt (show w4.heap.size ≤ g10 from hg10))); have hne10_5 := hide (Nat.ne_of_gt (Nat.lt_of_lt_of_le bx5.lt (show w4.heap.size ≤ g10 from hg10))); have hne10_7 := hide (Nat.ne_of_gt (Nat.lt_of_lt_of_le bx7.lt (show w4.heap.size ≤ g10 from hg10))); have hne10_8 := hide (Nat.ne_of_gt (Nat.lt_of_lt_of_le bx8.lt (show w4.heap.size ≤ g10 from hg10))); have hge11 : w.heap.size ≤ g11 := Nat.le_trans HB.out.size hg11; have hne11_1 := hide (Nat.ne_of_gt (Nat.lt_of_lt_of_le bx1.lt (show w4.heap.size ≤ g11 from hg11))); have hne11_2 := hide (Nat.ne_of_gt (Nat.lt_of_lt_of_le bx2.lt (show w4.heap.size ≤ g11 from hg11))); have hne11_4 := hide (Nat.ne_of_gt (Nat.lt_of_lt_of_le bx4.lt (show w4.heap.size ≤ g11 from hg11))); have hne11_5 := hide (Nat.ne_of_gt (Nat.lt_of_lt_of_le bx5.lt (show w4.heap.size ≤ g11 from hg11))); have hne11_7 := hide (Nat.ne_of_gt (Nat.lt_of_lt_of_le bx7.lt (show w4.heap.size ≤ g11 from hg11))); have hne11_8 := hide (Nat.ne_of_gt (Nat.lt_of_lt_of_le bx8.lt (show w4.heap.size ≤ g11 from hg11))); replace q1sb := q1sb.ext hBz.ext; replace q2sb := q2sb.ext hBz.ext; replace q4sc := q4sc.ext hBz.ext; replace q5sc := q5sc.ext hBz.ext; replace q7sd := q7sd.ext hBz.ext; replace q8sd := q8sd.ext hBz.ext; replace bx1 := hBz.blk bx1 zN; replace bx2 := hBz.blk bx2 zN; replace bx4 := hBz.blk bx4 zN; replace bx5 := hBz.blk bx5 zN; replace bx7 := hBz.blk bx7 zN; replace bx8 := hBz.blk bx8 zN; replace HB := hide (HB.out.trans (hBz.below (B := w.heap.size) HB.out.size zE)); clear hOz hAz hNz hSz hs10 hz10 hs11 hz11 hBz; obtain ⟨bx1c0, bx1c1, -⟩ := bx1.two; obtain ⟨bx2c0, bx2c1, -⟩ := bx2.two; obtain ⟨bx4c0, bx4c1, -⟩ := bx4.two; obtain ⟨bx5c0, bx5c1, -⟩ := bx5.two; obtain ⟨bx7c0, bx7c1, -⟩ := bx7.two; obtain ⟨bx8c0, bx8c1, -⟩ := bx8.two; obtain ⟨bx10c0, bx10c1, -⟩ := bx10.two; obtain ⟨bx11c0, bx11c1, -⟩ := bx11.two
 go_wp2_with fail
 refine Calls.mono (v_text_two (N := 40) q1sb (by omega) (by omega) (by omega) (show _ = Value.string ⟨#[52, 48]⟩ from rfl)) ?_; rintro e w6 ⟨hb2, uz6, rfl, hf⟩; clear bx1c0 bx1c1 bx2c0 bx2c1 bx4c0 bx4c1 bx5c0 bx5c1 bx7c0 bx7c1 bx8c0 bx8c1 bx10c0 bx10c1 bx11c0 bx11c1; obtain rfl := Fact.eq_of hf; have HW := ext_of hb2; replace q10se := q10se.ext HW; replace q11se := q11se.ext HW; replace q1sb := q1sb.ext HW; replace q2sb := q2sb.ext HW; replace q4sc := q4sc.ext HW; replace q5sc := q5sc.ext HW; replace q7sd := q7sd.ext HW; replace q8sd := q8sd.ext HW; replace bx1 := bx1.below hb2 bx1.lt; replace bx2 := bx2.below hb2 bx2.lt; replace bx4 := bx4.below hb2 bx4.lt; replace bx5 := bx5.below hb2 bx5.lt; replace bx7 := bx7.below hb2 bx7.lt; replace bx8 := bx8.below hb2 bx8.lt; replace bx10 := bx10.below hb2 bx10.lt; replace bx11 := bx11.below hb2 bx11.lt; replace HB := hide (HB.out.trans (hb2.mono HB.out.size)); clear HW hb2; obtain ⟨bx1c0, bx1c1, -⟩ := bx1.two; obtain ⟨bx2c0, bx2c1, -⟩ := bx2.two; obtain ⟨bx4c0, bx4c1, -⟩ := bx4.two; obtain ⟨bx5c0, bx5c1, -⟩ := bx5.two; obtain ⟨bx7c0, bx7c1, -⟩ := bx7.two; obtain ⟨bx8c0, bx8c1, -⟩ := bx8.two; obtain ⟨bx10c0, bx10c1, -⟩ := bx10.two; obtain ⟨bx11c0, bx11c1, -⟩ := bx11.two
 go_wp2_with fail
 refine Calls.mono (v_text_two (N := 46) q2sb (by omega) (by omega) (by omega) (show _ = Value.string ⟨#[52, 54]⟩ from rfl)) ?_; rintro e w7 ⟨hb2, uz7, rfl, hf⟩; clear bx1c0 bx1c1 bx2c0 bx2c1 bx4c0 bx4c1 bx5c0 bx5c1 bx7c0 bx7c1 bx8c0 bx8c1 bx10c0 bx10c1 bx11c0 bx11c1; obtain rfl := Fact.eq_of hf; have HW := ext_of hb2; replace q10se := q10se.ext HW; replace q11se := q11se.ext HW; replace q1sb := q1sb.ext HW; replace q2sb := q2sb.ext HW; replace q4sc := q4sc.ext HW; replace q5sc := q5sc.ext HW; replace q7sd := q7sd.ext HW; replace q8sd := q8sd.ext HW; replace bx1 := bx1.below hb2 bx1.lt; replace bx2 := bx2.below hb2 bx2.lt; replace bx4 := bx4.below hb2 bx4.lt; replace bx5 := bx5.below hb2 bx5.lt; replace bx7 := bx7.below hb2 bx7.lt; replace bx8 := bx8.below hb2 bx8.lt; replace bx10 := bx10.below hb2 bx10.lt; replace bx11 := bx11.below hb2 bx11.lt; replace HB := hide (HB.out.trans (hb2.mono HB.out.size)); clear HW hb2; obtain ⟨bx1c0, bx1c1, -⟩ := bx1.two; obtain ⟨bx2c0, bx2c1, -⟩ := bx2.two; obtain ⟨bx4c0, bx4c1, -⟩ := bx4.two; obtain ⟨bx5c0, bx5c1, -⟩ := bx5.two; obtain ⟨bx7c0, bx7c1, -⟩ := bx7.two; obtain ⟨bx8c0, bx8c1, -⟩ := bx8.two; obtain ⟨bx10c0, bx10c1, -⟩ := bx10.two; obtain ⟨bx11c0, bx11c1, -⟩ := bx11.two
 go_wp2_with fail
 refine Calls.mono (v_text_one (N := 8) q4sc (by omega) (by omega) (by omega) (show _ = Value.string ⟨#[56]⟩ from rfl)) ?_; rintro e w8 ⟨hb2, uz8, rfl, hf⟩; clear bx1c0 bx1c1 bx2c0 bx2c1 bx4c0 bx4c1 bx5c0 bx5c1 bx7c0 bx7c1 bx8c0 bx8c1 bx10c0 bx10c1 bx11c0 bx11c1; obtain rfl := Fact.eq_of hf; have HW := ext_of hb2; replace q10se := q10se.ext HW; replace q11se := q11se.ext HW; replace q1sb := q1sb.ext HW; replace q2sb := q2sb.ext HW; replace q4sc := q4sc.ext HW; replace q5sc := q5sc.ext HW; replace q7sd := q7sd.ext HW; replace q8sd := q8sd.ext HW; replace bx1 := bx1.below hb2 bx1.lt; replace bx2 := bx2.below hb2 bx2.lt; replace bx4 := bx4.below hb2 bx4.lt; replace bx5 := bx5.below hb2 bx5.lt; replace bx7 := bx7.below hb2 bx7.lt; replace bx8 := bx8.below hb2 bx8.lt; replace bx10 := bx10.below hb2 bx10.lt; replace bx11 := bx11.below hb2 bx11.lt; replace HB := hide (HB.out.trans (hb2.mono HB.out.size)); clear HW hb2; obtain ⟨bx1c0, bx1c1, -⟩ := bx1.two; obtain ⟨bx2c0, bx2c1, -⟩ := bx2.two; obtain ⟨bx4c0, bx4c1, -⟩ := bx4.two; obtain ⟨bx5c0, bx5c1, -⟩ := bx5.two; obtain ⟨bx7c0, bx7c1, -⟩ := bx7.two; obtain ⟨bx8c0, bx8c1, -⟩ := bx8.two; obtain ⟨bx10c0, bx10c1, -⟩ := bx10.two; obtain ⟨bx11c0, bx11c1, -⟩ := bx11.two
 go_wp2_with fail
 refine Calls.mono (v_text_one (N := 8) q5sc (by omega) (by omega) (by omega) (show _ = Value.string ⟨#[56]⟩ from rfl)) ?_; rintro e w9 ⟨hb2, uz9, rfl, hf⟩; clear bx1c0 bx1c1 bx2c0 bx2c1 bx4c0 bx4c1 bx5c0 bx5c1 bx7c0 bx7c1 bx8c0 bx8c1 bx10c0 bx10c1 bx11c0 bx11c1; obtain rfl := Fact.eq_of hf; have HW := ext_of hb2; replace q10se := q10se.ext HW; replace q11se := q11se.ext HW; replace q1sb := q1sb.ext HW; replace q2sb := q2sb.ext HW; replace q4sc := q4sc.ext HW; replace q5sc := q5sc.ext HW; replace q7sd := q7sd.ext HW; replace q8sd := q8sd.ext HW; replace bx1 := bx1.below hb2 bx1.lt; replace bx2 := bx2.below hb2 bx2.lt; replace bx4 := bx4.below hb2 bx4.lt; replace bx5 := bx5.below hb2 bx5.lt; replace bx7 := bx7.below hb2 bx7.lt; replace bx8 := bx8.below hb2 bx8.lt; replace bx10 := bx10.below hb2 bx10.lt; replace bx11 := bx11.below hb2 bx11.lt; replace HB := hide (HB.out.trans (hb2.mono HB.out.size)); clear HW hb2; obtain ⟨bx1c0, bx1c1, -⟩ := bx1.two; obtain ⟨bx2c0, bx2c1, -⟩ := bx2.two; obtain ⟨bx4c0, bx4c1, -⟩ := bx4.two; obtain ⟨bx5c0, bx5c1, -⟩ := bx5.two; obtain ⟨bx7c0, bx7c1, -⟩ := bx7.two; obtain ⟨bx8c0, bx8c1, -⟩ := bx8.two; obtain ⟨bx10c0, bx10c1, -⟩ := bx10.two; obtain ⟨bx11c0, bx11c1, -⟩ := bx11.two
 go_wp2_with fail
 refine Calls.mono (v_text_zero q7sd (by omega)) ?_; rintro e w10 ⟨hb2, uz10, rfl, hf⟩; clear bx1c0 bx1c1 bx2c0 bx2c1 bx4c0 bx4c1 bx5c0 bx5c1 bx7c0 bx7c1 bx8c0 bx8c1 bx10c0 bx10c1 bx11c0 bx11c1; obtain rfl := Fact.eq_of hf; have HW := ext_of hb2; replace q10se := q10se.ext HW; replace q11se := q11se.ext HW; replace q1sb := q1sb.ext HW; replace q2sb := q2sb.ext HW; replace q4sc := q4sc.ext HW; replace q5sc := q5sc.ext HW; replace q7sd := q7sd.ext HW; replace q8sd := q8sd.ext HW; replace bx1 := bx1.below hb2 bx1.lt; replace bx2 := bx2.below hb2 bx2.lt; replace bx4 := bx4.below hb2 bx4.lt; replace bx5 := bx5.below hb2 bx5.lt; replace bx7 := bx7.below hb2 bx7.lt; replace bx8 := bx8.below hb2 bx8.lt; replace bx10 := bx10.below hb2 bx10.lt; replace bx11 := bx11.below hb2 bx11.lt; replace HB := hide (HB.out.trans (hb2.mono HB.out.size)); clear HW hb2; obtain ⟨bx1c0, bx1c1, -⟩ := bx1.two; obtain ⟨bx2c0, bx2c1, -⟩ := bx2.two; obtain ⟨bx4c0, bx4c1, -⟩ := bx4.two; obtain ⟨bx5c0, bx5c1, -⟩ := bx5.two; obtain ⟨bx7c0, bx7c1, -⟩ := bx7.two; obtain ⟨bx8c0, bx8c1, -⟩ := bx8.two; obtain ⟨bx10c0, bx10c1, -⟩ := bx10.two; obtain ⟨bx11c0, bx11c1, -⟩ := bx11.two
 go_wp2_with fail
 refine Calls.mono (v_text_zero q8sd (by omega)) ?_; rintro e w11 ⟨hb2, uz11, rfl, hf⟩; clear bx1c0 bx1c1 bx2c0 bx2c1 bx4c0 bx4c1 bx5c0 bx5c1 bx7c0 bx7c1 bx8c0 bx8c1 bx10c0 bx10c1 bx11c0 bx11c1; obtain rfl := Fact.eq_of hf; have HW := ext_of hb2; replace q10se := q10se.ext HW; replace q11se := q11se.ext HW; replace q1sb := q1sb.ext HW; replace q2sb := q2sb.ext HW; replace q4sc := q4sc.ext HW; replace q5sc := q5sc.ext HW; replace q7sd := q7sd.ext HW; replace q8sd := q8sd.ext HW; replace bx1 := bx1.below hb2 bx1.lt; replace bx2 := bx2.below hb2 bx2.lt; replace bx4 := bx4.below hb2 bx4.lt; replace bx5 := bx5.below hb2 bx5.lt; replace bx7 := bx7.below hb2 bx7.lt; replace bx8 := bx8.below hb2 bx8.lt; replace bx10 := bx10.below hb2 bx10.lt; replace bx11 := bx11.below hb2 bx11.lt; replace HB := hide (HB.out.trans (hb2.mono HB.out.size)); clear HW hb2
 go_wp2_with fail
 go_ret
 exact ⟨HB.out, VF.mk (Fact.eq_self _ _)⟩
end Go.Proofs.YtnephejalollfaaGreat
end

/- cut: a dyad whose integer has so many limbs at most, its own. law03's 'of' and 'small'. law03's 'shown' is true. -/
import Derived.Test.YtnkembnachhicaaCons
import Derived.Deep.DeepCutAuto
import Derived.Test.YtnkembnachhicaaPairs
section
set_option linter.unusedVariables false
set_option linter.unusedSimpArgs false
namespace Go.Proofs.Ytnkembnachhicaa
open Go.RowKit
open L (val dig nth)

/-- A dyad is handed back, its cells from block B on. -/
def RetDB (B k : Nat) (z x : Int) (e : Ending) (w : World) : Prop := ∃ n A len cap d, e = .returned (.agg #[.bool n, .slice A len cap, .int .i64 x]) ∧ Nums w B (.slice A len cap) d ∧ d.length ≤ k ∧ ival n (val W d) = z
theorem RetDB.toD {B k : Nat} {z x : Int} {e : Ending} {w : World} (h : RetDB B k z x e w) : RetD k z x e w := by
  obtain ⟨n, A, len, cap, d, rfl, h1, h2, h3⟩ := h
  exact ⟨n, A, len, cap, rfl, d, h1.mono (Nat.zero_le _), h2, h3⟩
theorem step_appendU {ops : Array Oper} {o : Oper} {a : Act} {K : Act → World → Prop} {Q : Exit → Act → World → Prop} {E : Prop} (w : World) (hgd : o.guard = none) (s x : Operand)
    (ho : o.op = .call { callee := .builtin .append, args := #[s, x], argTypes := #[22, 22] })
    (base : Nat) (v : Value) (lx : List Nat) (hs : a.eval s = v) (hown : OwnU w base v lx) (B : Nat) (vs : Value) (ls : List Nat) (hx : a.eval x = vs) (h : Nums w B vs ls)
    (hn : lx.length + ls.length ≤ 1000000) (hbase : base ≤ w.heap.size)
    (hk : ∀ v' w', OwnU w' base v' (lx ++ ls) → w.grownBy w' v.ownBlock → K (a.put o.dst v') w') :
    if Region.wanted o (yielded ops a.tmps) = true then Oper.wp Try.prog o a w K Q else E := by
  have hw : Region.wanted o (yielded ops a.tmps) = true := by simp [Region.wanted, hgd]
  rw [if_pos hw]
  obtain ⟨v', w', hrun, h2, h3⟩ := appendU_run w base v lx hown B vs ls h hn hbase o.type
  unfold Oper.wp execOp
  simp only [ho, resolve, invoke, builtin, Sem.run_bind, Sem.run_pure, Result.andThen_ok, List.map_toArray, List.map_cons, List.map_nil, hs, hx, hrun]
  exact hk v' w' h2 h3

set_option maxHeartbeats 1000000 in
set_option maxRecDepth 100000 in
theorem cut3L_calls (w : World) (n : Bool) (A : Option Addr) (len cap : Nat) (x : Int) (k : Nat) (L : List Nat) (h : Nums w 0 (.slice A len cap) L) (hk : k ≤ 1000) :
    Calls Try.prog 15 #[.agg #[.bool n, .slice A len cap, .int .i64 x], .int .i64 k] w fun e w' => Below w.heap.size w w' ∧ ∃ A' len' cap', e = .returned (.agg #[.bool n, .slice A' len' cap', .int .i64 x]) ∧ Nums w' w.heap.size (.slice A' len' cap') (L.take k) := by
  have hlen : L.length = len := by
    obtain ⟨A', cap', h1, -⟩ := h
    injection h1 with _ h1 _
    exact h1.symm
  have hcl : len ≤ cap ∧ cap ≤ 9223372036854775807 := by
    obtain ⟨A', cap', h1, h2, h3, -⟩ := h
    injection h1 with _ e2 e3
    subst e3
    omega
  obtain ⟨W0, hW, hbx, hrs, hB0, hs⟩ := start2 w 26 26 #[.bool n, .slice A len cap, .int .i64 x] #[.bool false, .slice none 0 0, .int .i64 0]
  have h0 := h.up hB0
  obtain ⟨c0, c1, c2, -, -, -⟩ := hbx.three
  obtain ⟨d0, d1, d2, d3, d4, d5⟩ := hrs.three
  have HS := hide hs
  have hs2 : w.heap.size + 1 < W0.heap.size := by omega
  clear hs
  go_enter Try.func15, Try.ntmps15
  go_upto_region 1 with (fail)
  rw [← hW]
  clear hW
  go_upto_if 12 with (fail)
  go_cut [5] (fun m wx => W0 = wx ∧ ∃ A' l' c', m = .slice A' l' c' ∧ Nums W0 0 (.slice A' l' c') (L.take k))
  case first =>
    by_cases hlt : (k : Int) < (len : Int)
    · have hk0 : (0 : Int) ≤ (k : Int) := by omega
      have hkc : (k : Int) ≤ (cap : Int) := by omega
      have HN := hide (Nums.first (l := L) (n := k) (by rw [hlen]; exact h0) (by omega))
      clear hlen
      go_wp2_with fail
      go_meet
      exact ⟨rfl, _, _, _, rfl, HN.out⟩
    · have HN := hide (show Nums W0 0 (.slice A len cap) (L.take k) from by rw [List.take_of_length_le (by omega)]; exact h0)
      clear hlen
      go_wp2_with fail
      go_meet
      exact ⟨rfl, _, _, _, rfl, HN.out⟩
  case rest =>
    obtain ⟨rfl, A', l', c', rfl, hm⟩ := hcut
    have hml : (L.take k).length ≤ k := by simp; omega
    obtain ⟨M, HM⟩ : ∃ M, Hid (L.take k = M) := ⟨_, hide rfl⟩
    rw [HM.out] at hm hml
    clear hlen
    go_upto_region 4 with (fail)
    go_region_held3 (fun w' => w'.cell? ⟨w.heap.size, 0, none⟩ = some (.bool n) ∧ w'.cell? ⟨w.heap.size, 2, none⟩ = some (.int .i64 x)) (go_keep)
      ((refine step_appendU _ (by rfl) _ _ (by rfl) W0.heap.size _ [] (by rfl) (OwnU.empty W0.drew (Nat.le_refl _)) 0 _ M (by rfl) ((hm.drew).alloc _) (by have := hml; simp only [List.length_nil]; omega) (by simp) ?_
        intro v' w' hown hgrow
        have hB1 : Below W0.heap.size W0 w' := Below.grown (B := W0.heap.size) (((Below.refl _ _).drew).alloc (Nat.le_refl _) _) hgrow (by simp) (by intro j hj; simp only [Value.ownBlock, Option.some.injEq] at hj; exact Nat.le_of_eq hj)
        obtain ⟨Ao, co, hvo⟩ := hown.form
        rw [hvo] at hown ⊢
        have hbx1 := hbx.below hB1 (by omega)
        have hrs1 := hrs.below hB1 (by omega)
        obtain ⟨i0, i1, i2, -, -, -⟩ := hbx1.three
        obtain ⟨j0, j1, j2, j3, j4, j5⟩ := hrs1.three))
    go_wp2_with fail
    refine bodyPost_ret (results_dyad rfl _ _ _ _ _ _ _ rfl (((hrs1.set_ 0 _).set_ 1 _).set_ 2 _)) rfl ⟨below3 (hB0.trans (hB1.mono hB0.size)) (by omega) _ _ _, ?_⟩
    refine ⟨Ao, M.length, co, rfl, ?_⟩
    rw [HM.out]
    have hn := OwnU.nums hown (by rw [List.nil_append]; exact hm.lt)
    exact (nums_low3 hn hs2 _ _ _).mono hB0.size

theorem cut3_calls (w : World) (n : Bool) (A : Option Addr) (len cap : Nat) (x : Int) (k : Nat) (L : List Nat) (h : Nums w 0 (.slice A len cap) L) (hk : k ≤ 1000) :
    Calls Try.prog 15 #[.agg #[.bool n, .slice A len cap, .int .i64 x], .int .i64 k] w fun e w' => Below w.heap.size w w' ∧ RetDB w.heap.size k (ival n (val W (L.take k))) x e w' := by
  refine (cut3L_calls w n A len cap x k L h hk).mono ?_
  rintro e w' ⟨hb, A', l', c', rfl, hn⟩
  exact ⟨hb, n, A', l', c', _, rfl, hn, by simp; omega, rfl⟩

set_option maxHeartbeats 1000000 in
set_option maxRecDepth 100000 in
theorem cut4_calls (w : World) (n : Bool) (A : Option Addr) (len cap : Nat) (x : Int) (k : Nat) (L : List Nat) (h : Nums w 0 (.slice A len cap) L) (hk : k ≤ 1000) :
    Calls Try.prog 48 #[.agg #[.bool n, .slice A len cap, .int .i64 x], .int .i64 k] w fun e w' => Below w.heap.size w w' ∧ RetDB w.heap.size k (ival n (val W (L.take k))) x e w' := by
  have hlen : L.length = len := by
    obtain ⟨A', cap', h1, -⟩ := h
    injection h1 with _ h1 _
    exact h1.symm
  have hcl : len ≤ cap ∧ cap ≤ 9223372036854775807 := by
    obtain ⟨A', cap', h1, h2, h3, -⟩ := h
    injection h1 with _ e2 e3
    subst e3
    omega
  obtain ⟨W0, hW, hbx, hrs, hB0, hs⟩ := start2 w 26 26 #[.bool n, .slice A len cap, .int .i64 x] #[.bool false, .slice none 0 0, .int .i64 0]
  have h0 := h.up hB0
  obtain ⟨c0, c1, c2, -, -, -⟩ := hbx.three
  obtain ⟨d0, d1, d2, d3, d4, d5⟩ := hrs.three
  have HS := hide hs
  have hs2 : w.heap.size + 1 < W0.heap.size := by omega
  clear hs
  go_enter Try.func48, Try.ntmps48
  go_upto_region 1 with (fail)
  rw [← hW]
  clear hW
  go_upto_if 12 with (fail)
  go_cut [5] (fun m wx => W0 = wx ∧ ∃ A' l' c', m = .slice A' l' c' ∧ Nums W0 0 (.slice A' l' c') (L.take k))
  case first =>
    by_cases hlt : (k : Int) < (len : Int)
    · have hk0 : (0 : Int) ≤ (k : Int) := by omega
      have hkc : (k : Int) ≤ (cap : Int) := by omega
      have HN := hide (Nums.first (l := L) (n := k) (by rw [hlen]; exact h0) (by omega))
      clear hlen
      go_wp2_with fail
      go_meet
      exact ⟨rfl, _, _, _, rfl, HN.out⟩
    · have HN := hide (show Nums W0 0 (.slice A len cap) (L.take k) from by rw [List.take_of_length_le (by omega)]; exact h0)
      clear hlen
      go_wp2_with fail
      go_meet
      exact ⟨rfl, _, _, _, rfl, HN.out⟩
  case rest =>
    obtain ⟨rfl, A', l', c', rfl, hm⟩ := hcut
    have hml : (L.take k).length ≤ k := by simp; omega
    obtain ⟨M, HM⟩ : ∃ M, Hid (L.take k = M) := ⟨_, hide rfl⟩
    rw [HM.out] at hm hml
    clear hlen
    go_upto_region 4 with (fail)
    go_region_held3 (fun w' => w'.cell? ⟨w.heap.size, 0, none⟩ = some (.bool n) ∧ w'.cell? ⟨w.heap.size, 2, none⟩ = some (.int .i64 x)) (go_keep)
      ((refine step_appendU _ (by rfl) _ _ (by rfl) W0.heap.size _ [] (by rfl) (OwnU.empty W0.drew (Nat.le_refl _)) 0 _ M (by rfl) ((hm.drew).alloc _) (by have := hml; simp only [List.length_nil]; omega) (by simp) ?_
        intro v' w' hown hgrow
        have hB1 : Below W0.heap.size W0 w' := Below.grown (B := W0.heap.size) (((Below.refl _ _).drew).alloc (Nat.le_refl _) _) hgrow (by simp) (by intro j hj; simp only [Value.ownBlock, Option.some.injEq] at hj; exact Nat.le_of_eq hj)
        obtain ⟨Ao, co, hvo⟩ := hown.form
        rw [hvo] at hown ⊢
        have hbx1 := hbx.below hB1 (by omega)
        have hrs1 := hrs.below hB1 (by omega)
        obtain ⟨i0, i1, i2, -, -, -⟩ := hbx1.three
        obtain ⟨j0, j1, j2, j3, j4, j5⟩ := hrs1.three))
    go_wp2_with fail
    refine bodyPost_ret (results_dyad rfl _ _ _ _ _ _ _ rfl (((hrs1.set_ 0 _).set_ 1 _).set_ 2 _)) rfl ⟨below3 (hB0.trans (hB1.mono hB0.size)) (by omega) _ _ _, ?_⟩
    refine ⟨n, Ao, M.length, co, M, rfl, ?_, hml, by rw [HM.out]⟩
    have hn := OwnU.nums hown (by rw [List.nil_append]; exact hm.lt)
    exact (nums_low3 hn hs2 _ _ _).mono hB0.size
end Go.Proofs.Ytnkembnachhicaa
end
section
set_option linter.unusedVariables false
set_option linter.unusedSimpArgs false
namespace Go.Proofs.Ytnkembnachhicaa
open Go.RowKit
open L (val dig nth)

set_option maxRecDepth 100000 in
theorem of3_calls (w : World) (n e : Int) (hn0 : -9223372036854775808 ≤ n) (hn1 : n ≤ 9223372036854775807) (he0 : -9223372036854775808 ≤ e) (he1 : e ≤ 9223372036854775807) :
    Calls Try.prog 60 #[.int .i64 n, .int .i64 e] w fun e' w' => Below w.heap.size w w' ∧ RetD 1 (nM n e) (nE n e) e' w' := by
  obtain ⟨W0, hW, hrs, hB0, hs⟩ := start1 w 26 #[.bool false, .slice none 0 0, .int .i64 0]
  have hs2 : w.heap.size < W0.heap.size := by omega
  clear hs
  obtain ⟨z, HZ⟩ : ∃ z, Hid (nM n e = z) := ⟨_, hide rfl⟩
  obtain ⟨y, HY⟩ : ∃ z, Hid (nE n e = z) := ⟨_, hide rfl⟩
  rw [HZ.out, HY.out]
  go_enter Try.func60, Try.ntmps60
  go_upto_region 1 with (fail)
  rw [← hW]
  clear hW
  go_wp2_with fail
  refine (c_zof n hn0 hn1).mono ?_
  rintro e1 w1 ⟨hb1, n1, A1, l1, k1, rfl, hq1⟩
  have hrs1 := hrs.below hb1 hs2
  have s1 := hb1.size
  obtain ⟨d1, g1, g2, g3⟩ := hq1
  have HP := of_dyad_calls w1 n1 0 _ d1 e g1 (by omega) he0 he1
  rw [g3, HZ.out, HY.out] at HP
  have hzl : z.natAbs < W ^ 1 := by
    rw [← HZ.out]; refine nM_lt ?_
    rw [Nat.pow_one]; unfold W; omega
  go_wp2_with fail
  refine HP.mono ?_
  rintro e1 w2 ⟨hb2, u2, d2, rfl, hu2, hd2⟩
  clear HP
  have hrs2 := hrs1.below hb2 (by omega)
  have s2 := hb2.size
  obtain ⟨A2, cap2, rfl⟩ := hu2.form
  obtain ⟨f0, f1, f2, f3, f4, f5⟩ := hrs2.three
  go_wp2_with fail
  refine bodyPost_ret (results_dyad rfl _ _ _ _ _ _ _ rfl (((hrs2.set_ 0 _).set_ 1 _).set_ 2 _)) rfl ⟨below3 ((hB0.trans (hb1.mono hB0.size)).trans (hb2.mono (by omega))) (by omega) _ _ _, ?_⟩
  exact ⟨_, A2, _, cap2, rfl, d2, (nums_low3 hu2 (by omega) _ _ _).mono (Nat.zero_le _), by rw [hd2.len]; exact hzl, by rw [hd2.val, ival_self]⟩

/-- A struct of three cells stored over another; a second block stays. -/
theorem set3_two {w : World} {r g : Nat} {t t' : TypeId} {a b c : Value} {cs : Array Value} (h : Blk w r t #[a, b, c]) (hg : Blk w g t' cs) (hne : g ≠ r) (x y u : Value) :
    ∃ W2, W2 = ((w.setCell ⟨r, 0, none⟩ x).setCell ⟨r, 1, none⟩ y).setCell ⟨r, 2, none⟩ u ∧ Blk W2 r t #[x, y, u] ∧ Blk W2 g t' cs ∧
    (∀ B v l, r < B → Nums w B v l → Nums W2 B v l) ∧ W2.heap.size = w.heap.size ∧ (∀ B w0, Below B w0 w → B ≤ r → Below B w0 W2) := by
  refine ⟨_, rfl, ?_, ((hg.far hne x).far hne y).far hne u, fun B v l hr hn => nums_low3 hn hr _ _ _, by simp, fun B w0 hb hr => ((hb.setCell (p := ⟨r, 0, none⟩) hr x).setCell (p := ⟨r, 1, none⟩) hr y).setCell (p := ⟨r, 2, none⟩) hr u⟩
  have := ((h.set_ 0 x).set_ 1 y).set_ 2 u
  simpa using this
theorem set1_two {w : World} {r g : Nat} {t t' : TypeId} {a b c : Value} {cs : Array Value} (h : Blk w r t #[a, b, c]) (hg : Blk w g t' cs) (hne : g ≠ r) (u : Value) :
    ∃ W2, W2 = w.setCell ⟨r, 2, none⟩ u ∧ Blk W2 r t #[a, b, u] ∧ Blk W2 g t' cs ∧
    (∀ B v l, r < B → Nums w B v l → Nums W2 B v l) ∧ W2.heap.size = w.heap.size ∧ (∀ B w0, Below B w0 w → B ≤ r → Below B w0 W2) := by
  refine ⟨_, rfl, ?_, hg.far hne u, fun B v l hr hn => hn.set_low (p := ⟨r, 2, none⟩) hr u, by simp, fun B w0 hb hr => hb.setCell (p := ⟨r, 2, none⟩) hr u⟩
  have := h.set_ 2 u
  simpa using this
set_option maxRecDepth 100000 in
theorem small3_calls (w : World) (n : Bool) (A : Option Addr) (len cap : Nat) (x : Int) (L : List Nat) (h : Nums w 0 (.slice A len cap) L) :
    Calls Try.prog 42 #[.agg #[.bool n, .slice A len cap, .int .i64 x]] w fun e w' => Below w.heap.size w w' ∧ RetDB w.heap.size 4 (ival n (val W (L.take 4))) (x.tmod 600) e w' := by
  obtain ⟨W0, hW, hbx, hrs, hB0, hs⟩ := start2 w 26 26 #[.bool n, .slice A len cap, .int .i64 x] #[.bool false, .slice none 0 0, .int .i64 0]
  have h0 := h.up hB0
  have hs2 : w.heap.size + 1 < W0.heap.size := by omega
  clear hs
  obtain ⟨c0, c1, c2, -, -, -⟩ := hbx.three
  obtain ⟨z, HZ⟩ : ∃ z, Hid (ival n (val W (L.take 4)) = z) := ⟨_, hide rfl⟩
  rw [HZ.out]
  go_enter Try.func42, Try.ntmps42
  go_upto_region 1 with (fail)
  rw [← hW]
  clear hW
  have HP := cut3_calls W0 n A len cap x 4 L h0 (by omega)
  rw [HZ.out] at HP
  go_wp2_with fail
  refine HP.mono ?_
  rintro e1 w1 ⟨hb1, n1, A1, l1, k1, d1, rfl, hq1, hd1, hv1⟩
  clear HP c0 c1 c2
  have hbx1 := hbx.below hb1 (by omega)
  have hrs1 := hrs.below hb1 (by omega)
  have s1 := hb1.size
  obtain ⟨i0, i1, i2, i3, i4, i5⟩ := hbx1.three
  obtain ⟨w2, hW2, hbx2, hrs2, hk2, hs2', hB2⟩ := set3_two hbx1 hrs1 (by omega) (.bool n1) (.slice A1 l1 k1) (.int .i64 x)
  have hq2 := hk2 _ _ _ (by omega) hq1
  have HB2 := hide (hB2 _ _ (hB0.trans (hb1.mono hB0.size)) (Nat.le_refl _))
  clear hB2 hk2
  go_upto_region 2 with (fail)
  rw [← hW2]
  clear hW2 i0 i1 i2 i3 i4 i5
  obtain ⟨i0, i1, i2, i3, i4, i5⟩ := hbx2.three
  obtain ⟨w3, hW3, hbx3, hrs3, hk3, hs3, hB3⟩ := set1_two hbx2 hrs2 (by omega) (.int .i64 (x.tmod 600))
  have hq3 := hk3 _ _ _ (by omega) hq2
  have HB3 := hide (hB3 _ _ HB2.out (Nat.le_refl _))
  clear hB3 hk3
  go_upto_region 3 with (fail)
  rw [← hW3]
  clear hW3 i0 i1 i2 i3 i4 i5
  obtain ⟨i0, i1, i2, i3, i4, i5⟩ := hbx3.three
  obtain ⟨j0, j1, j2, j3, j4, j5⟩ := hrs3.three
  go_wp2_with fail
  refine bodyPost_ret (results_dyad rfl _ _ _ _ _ _ _ rfl (((hrs3.set_ 0 _).set_ 1 _).set_ 2 _)) rfl ⟨below3 HB3.out (by omega) _ _ _, ?_⟩
  exact ⟨_, A1, _, k1, d1, rfl, (nums_low3 hq3 (by omega) _ _ _).mono hB0.size, hd1, hv1⟩
/-- A struct of three cells stored over another. -/
theorem set3_all {w : World} {r : Nat} {t : TypeId} {a b c : Value} (h : Blk w r t #[a, b, c]) (x y u : Value) :
    ∃ W2, W2 = ((w.setCell ⟨r, 0, none⟩ x).setCell ⟨r, 1, none⟩ y).setCell ⟨r, 2, none⟩ u ∧ Blk W2 r t #[x, y, u] ∧ (∀ g t' cs, g ≠ r → Blk w g t' cs → Blk W2 g t' cs) ∧
    (∀ B v l, r < B → Nums w B v l → Nums W2 B v l) ∧ W2.heap.size = w.heap.size ∧ (∀ B w0, Below B w0 w → B ≤ r → Below B w0 W2) := by
  refine ⟨_, rfl, ?_, fun g t' cs hne hg => ((hg.far hne x).far hne y).far hne u, fun B v l hr hn => nums_low3 hn hr _ _ _, by simp, fun B w0 hb hr => ((hb.setCell (p := ⟨r, 0, none⟩) hr x).setCell (p := ⟨r, 1, none⟩) hr y).setCell (p := ⟨r, 2, none⟩) hr u⟩
  have := ((h.set_ 0 x).set_ 1 y).set_ 2 u
  simpa using this
theorem set1_all {w : World} {r : Nat} {t : TypeId} {a b c : Value} (h : Blk w r t #[a, b, c]) (u : Value) :
    ∃ W2, W2 = w.setCell ⟨r, 2, none⟩ u ∧ Blk W2 r t #[a, b, u] ∧ (∀ g t' cs, g ≠ r → Blk w g t' cs → Blk W2 g t' cs) ∧
    (∀ B v l, r < B → Nums w B v l → Nums W2 B v l) ∧ W2.heap.size = w.heap.size ∧ (∀ B w0, Below B w0 w → B ≤ r → Below B w0 W2) := by
  refine ⟨_, rfl, ?_, fun g t' cs hne hg => hg.far hne u, fun B v l hr hn => hn.set_low (p := ⟨r, 2, none⟩) hr u, by simp, fun B w0 hb hr => hb.setCell (p := ⟨r, 2, none⟩) hr u⟩
  have := h.set_ 2 u
  simpa using this
end Go.Proofs.Ytnkembnachhicaa
end
section
set_option linter.unusedVariables false
set_option linter.unusedSimpArgs false
namespace Go.Proofs.Ytnkembnachhicaa
open Go.RowKit
open L (val dig nth)

theorem nM_12 : nM 12 (-1) = 3 := nM_pow (z := 3) (n := 2) (by omega) (by omega) rfl
theorem nE_12 : nE 12 (-1) = 1 := nE_pow (z := 3) (n := 2) (by omega) (by omega) rfl
theorem nM_1 : nM 1 (-1) = 1 := nM_odd (by omega) (by omega) rfl
theorem nE_1 : nE 1 (-1) = -1 := nE_odd (by omega) (by omega) rfl
theorem nM_32 : nM 3 (-2) = 3 := nM_odd (by omega) (by omega) rfl
theorem nE_32 : nE 3 (-2) = -2 := nE_odd (by omega) (by omega) rfl
theorem nM_m32 : nM (-3) (-2) = -3 := nM_odd (by omega) (by omega) rfl
theorem nE_m32 : nE (-3) (-2) = -2 := nE_odd (by omega) (by omega) rfl
theorem sum_one (K : Nat) (hK : 4000 ≤ K) : av K 1 (-1) + av K 1 (-1) = sv K 1 0 := by
  rw [av_of (by omega) (by omega), ← sv_add, show (1 : Int) + 1 = 1 * 2 ^ 1 from rfl, sv_shift K _ _ _ (by omega)]; rfl
theorem sum_M : pM (av 4000 1 (-1) + av 4000 1 (-1)) = 1 := by rw [sum_one _ (by omega), pM_sv]; exact pM_one
theorem sum_E : pE (av 4000 1 (-1) + av 4000 1 (-1)) (-(4000 : Nat)) = 0 := by rw [sum_one _ (by omega), pE_sv _ _ _ (by omega)]; exact pE_one _
theorem lg_3 : lgN 3 (-2) = -1 := by
  unfold lgN; rw [cM_in (by omega) (by omega), cE_in (by omega) (by omega) (by omega), if_neg (by omega), show (3 : Int).natAbs = 3 from rfl, nbits_3]; rfl
theorem lgOk_3 : lgOk 3 (-2) = true := by unfold lgOk; rw [cM_in (by omega) (by omega)]; rfl
theorem near_1 : nearZ 1 = 1 := rfl
theorem floor_m3 : vFloor 4000 (av 4000 (-3) (-2)) (nearZ 1) = -2 := by
  rw [near_1, av_of (by omega) (by omega), ← scF_sv 4000 _ _ _ (by omega)]; rfl
theorem ceil_m3 : vCeil 4000 (av 4000 (-3) (-2)) (nearZ 1) = -1 := by
  rw [near_1, av_of (by omega) (by omega), ← scC_sv 4000 _ _ _ (by omega)]; rfl
theorem txt_3 : txt (decide ((3 : Int) < 0)) 3 = .string ⟨#[51]⟩ := rfl
theorem txt_m2 : txt (decide ((-2 : Int) < 0)) 2 = .string ⟨#[45, 50]⟩ := rfl
theorem txt_m1 : txt (decide ((-1 : Int) < 0)) 1 = .string ⟨#[45, 49]⟩ := rfl

set_option maxRecDepth 100000 in
theorem shown3_calls (w : World) : Calls Try.prog 14 #[] w fun e w' => Below w.heap.size w w' ∧ e = .returned (.bool true) := by
  go_enter Try.func14, Try.ntmps14
  go_wp2_with fail
  refine (c_zof 12 (by omega) (by omega)).mono ?_
  rintro e w1 ⟨hb1, n1, A1, l1, k1, rfl, hq1⟩
  have HP := c_norm (x := -1) hq1 (by omega) (by omega) (by omega)
  rw [nM_12, nE_12] at HP
  go_wp2_with fail
  refine HP.mono ?_
  rintro e w2 ⟨hb2, n2, A2, l2, k2, rfl, hq2⟩
  clear HP
  have s1 := hb1.size
  have s2 := hb2.size
  obtain ⟨w3, hW, hbd3, hB3, hs3⟩ := start1 w2 26 #[.bool n2, .slice A2 l2 k2, .int .i64 1]
  have hq3 := hq2.below hB3
  have hs3' : w2.heap.size < w3.heap.size := by omega
  have HB3 := hide ((hb1.trans (hb2.mono hb1.size)).trans (hB3.mono (by omega)))
  clear hs3
  go_upto_region 2 with (fail)
  rw [← hW]
  clear hW
  have HP := of3_calls w3 1 (-1) (by omega) (by omega) (by omega) (by omega)
  rw [nM_1, nE_1] at HP
  go_wp2_with fail
  refine HP.mono ?_
  rintro e w4 ⟨hb4, n4, A4, l4, k4, rfl, hq4⟩
  clear HP
  have s4 := hb4.size
  have hbd4 := hbd3.below hb4 hs3'
  have hq3 := hq3.below hb4
  have HP := of3_calls w4 1 (-1) (by omega) (by omega) (by omega) (by omega)
  rw [nM_1, nE_1] at HP
  go_wp2_with fail
  refine HP.mono ?_
  rintro e w5 ⟨hb5, n5, A5, l5, k5, rfl, hq5⟩
  clear HP
  have s5 := hb5.size
  have hbd5 := hbd4.below hb5 hbd4.lt
  have hq3 := hq3.below hb5
  have hq4 := hq4.below hb5
  have HP := c_add (x := -1) (y := -1) hq4 hq5 (by omega) (by omega) (by omega) (by omega) (by omega) (by omega) 4000 (Nat.le_refl _)
  rw [sum_M, sum_E] at HP
  go_wp2_with fail
  refine HP.mono ?_
  rintro e w6 ⟨hb6, n6, A6, l6, k6, rfl, hq6⟩
  clear HP
  have s6 := hb6.size
  have hbd6 := hbd5.below hb6 hbd5.lt
  have hq3 := hq3.below hb6
  obtain ⟨w7, hW, hbs7, hB7, hs7⟩ := start1 w6 26 #[.bool n6, .slice A6 l6 k6, .int .i64 0]
  have hq3 := hq3.below hB7
  have hq7 := hq6.below hB7
  have hbd7 := hbd6.below hB7 hbd6.lt
  have hs7' : w6.heap.size < w7.heap.size := by omega
  have HB7 := hide ((((HB3.out.trans (hb4.mono (by omega))).trans (hb5.mono (by omega))).trans (hb6.mono (by omega))).trans (hB7.mono (by omega)))
  clear hs7
  go_upto_region 3 with (fail)
  rw [← hW]
  clear hW
  have HP := of3_calls w7 3 (-2) (by omega) (by omega) (by omega) (by omega)
  rw [nM_32, nE_32] at HP
  go_wp2_with fail
  refine HP.mono ?_
  rintro e w8 ⟨hb8, n8, A8, l8, k8, rfl, hq8⟩
  clear HP
  have s8 := hb8.size
  have hbd8 := hbd7.below hb8 hbd7.lt
  have hbs8 := hbs7.below hb8 hs7'
  have hq3 := hq3.below hb8
  have hq7 := hq7.below hb8
  have HP := c_log (x := -2) hq8 (by omega) (by omega) (by omega)
  rw [lg_3, lgOk_3] at HP
  go_wp2_with fail
  refine HP.mono ?_
  rintro e w9 ⟨hb9, rfl⟩
  clear HP
  have s9 := hb9.size
  have hbd9 := hbd8.below hb9 hbd8.lt
  have hbs9 := hbs8.below hb9 hbs8.lt
  have hq3 := hq3.below hb9
  have hq7 := hq7.below hb9
  have HB9 := hide ((HB7.out.trans (hb8.mono (by omega))).trans (hb9.mono (by omega)))
  obtain ⟨i0, i1, i2, -, -, -⟩ := hbd9.three
  have HP := c_text (z := 3) hq3 (by omega) 3 rfl (by omega) (by omega)
  rw [txt_3] at HP
  go_wp2_with fail
  refine HP.mono ?_
  rintro e w10 ⟨hb10, rfl⟩
  clear HP
  have s10 := hb10.size
  have hbd10 := hbd9.below hb10 hbd9.lt
  have hbs10 := hbs9.below hb10 hbs9.lt
  have hq7 := hq7.below hb10
  obtain ⟨j0, j1, j2, -, -, -⟩ := hbd10.three
  obtain ⟨f0, f1, f2, -, -, -⟩ := hbs10.three
  have HP := c_text (z := 1) hq7 (by omega) 1 rfl (by omega) (by omega)
  rw [txt_one] at HP
  go_wp2_with fail
  refine HP.mono ?_
  rintro e w11 ⟨hb11, rfl⟩
  clear HP
  have s11 := hb11.size
  have hbd11 := hbd10.below hb11 hbd10.lt
  have hbs11 := hbs10.below hb11 hbs10.lt
  have HB11 := hide ((HB9.out.trans (hb10.mono (by omega))).trans (hb11.mono (by omega)))
  obtain ⟨o0, o1, o2, -, -, -⟩ := hbs11.three
  have HP := of3_calls w11 (-3) (-2) (by omega) (by omega) (by omega) (by omega)
  rw [nM_m32, nE_m32] at HP
  go_wp2_with fail
  refine HP.mono ?_
  rintro e w12 ⟨hb12, n12, A12, l12, k12, rfl, hq12⟩
  clear HP
  have s12 := hb12.size
  have HP := c_floor (x := -2) hq12 (by omega) (by omega) (by omega) 4000 (Nat.le_refl _) 1
  rw [floor_m3] at HP
  go_wp2_with fail
  refine HP.mono ?_
  rintro e w13 ⟨hb13, n13, A13, l13, k13, rfl, hq13⟩
  clear HP
  have s13 := hb13.size
  have HP := c_text (z := -2) hq13 (by omega) 2 rfl (by omega) (by omega)
  rw [txt_m2] at HP
  go_wp2_with fail
  refine HP.mono ?_
  rintro e w14 ⟨hb14, rfl⟩
  clear HP
  have s14 := hb14.size
  have HB14 := hide (((HB11.out.trans (hb12.mono (by omega))).trans (hb13.mono (by omega))).trans (hb14.mono (by omega)))
  have HP := of3_calls w14 (-3) (-2) (by omega) (by omega) (by omega) (by omega)
  rw [nM_m32, nE_m32] at HP
  go_wp2_with fail
  refine HP.mono ?_
  rintro e w15 ⟨hb15, n15, A15, l15, k15, rfl, hq15⟩
  clear HP
  have s15 := hb15.size
  have HP := c_ceil (x := -2) hq15 (by omega) (by omega) (by omega) 4000 (Nat.le_refl _) 1
  rw [ceil_m3] at HP
  go_wp2_with fail
  refine HP.mono ?_
  rintro e w16 ⟨hb16, n16, A16, l16, k16, rfl, hq16⟩
  clear HP
  have s16 := hb16.size
  have HP := c_text (z := -1) hq16 (by omega) 1 rfl (by omega) (by omega)
  rw [txt_m1] at HP
  go_wp2_with fail
  refine HP.mono ?_
  rintro e w17 ⟨hb17, rfl⟩
  clear HP
  go_wp2_with fail
  go_ret
  exact ⟨((HB14.out.trans (hb15.mono (by omega))).trans (hb16.mono (by omega))).trans (hb17.mono (by omega)), rfl⟩
end Go.Proofs.Ytnkembnachhicaa
end

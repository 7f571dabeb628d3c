/- hairlinelaw05.right: a right ball of at most four limbs. -/
import Derived.Test.YtnfbngiabdlclaaBl1
import Derived.Test.YtnfbngiabdlclaaLw5
set_option linter.unusedVariables false
set_option linter.unusedSimpArgs false
namespace Go.Proofs.Ytnfbngiabdlclaa
open Go.RowKit
open L (val dig nth)

/-- A struct's sign and slice stand for a number; the slice lies from a block on. -/
def QN (w : World) (B k : Nat) (n : Bool) (A : Option Addr) (len cap : Nat) (z : Int) : Prop := ∃ d, Nums w B (.slice A len cap) d ∧ d.length ≤ k ∧ ival n (val W d) = z
section
variable {w w' : World} {B k : Nat} {n : Bool} {A : Option Addr} {len cap : Nat} {z : Int}
theorem QN.q (h : QN w B k n A len cap z) : Q w k n A len cap z := by
  obtain ⟨d, h1, h2, h3⟩ := h
  exact ⟨d, h1.mono (Nat.zero_le _), h2, h3⟩
theorem QN.below (h : QN w B k n A len cap z) (hb : Below w.heap.size w w') : QN w' B k n A len cap z := by
  obtain ⟨d, h1, h2, h3⟩ := h
  exact ⟨d, h1.below hb, h2, h3⟩
theorem QN.drew (h : QN w B k n A len cap z) : QN w.drew B k n A len cap z := h
theorem QN.mono {B' : Nat} (h : QN w B k n A len cap z) (hB : B' ≤ B) : QN w B' k n A len cap z := by
  obtain ⟨d, h1, h2, h3⟩ := h
  exact ⟨d, h1.mono hB, h2, h3⟩
theorem QN.low (h : QN w B k n A len cap z) {p : Addr} (hr : p.block < B) (x : Value) : QN (w.setCell p x) B k n A len cap z := by
  obtain ⟨d, h1, h2, h3⟩ := h
  exact ⟨d, h1.set_low hr x, h2, h3⟩
theorem QB.qn (h : QB w B k n A len cap z) : QN w B k n A len cap z := by
  obtain ⟨d, h1, h2, h3, h4⟩ := h
  exact ⟨d, h1, h2, by rw [h3.val, h4]; exact ival_self _⟩
end
theorem bits_range (q : Int) (m : Nat) (hm : m < 1000) : 0 ≤ bits .and .i64 q m ∧ bits .and .i64 q m ≤ m := by
  have h0 : (BitVec.ofInt 64 (m : Int)).toNat = m := by
    rw [BitVec.ofInt_natCast, BitVec.toNat_ofNat]
    exact Nat.mod_eq_of_lt (by omega)
  have h1 : ((BitVec.ofInt 64 q) &&& (BitVec.ofInt 64 (m : Int))).toNat ≤ m := by
    rw [BitVec.toNat_and, h0]
    exact Nat.and_le_right
  have h2 : bits .and .i64 q m = IntKind.i64.wrap (((BitVec.ofInt 64 q) &&& (BitVec.ofInt 64 (m : Int))).toNat : Int) := rfl
  rw [h2]
  generalize ((BitVec.ofInt 64 q) &&& (BitVec.ofInt 64 (m : Int))).toNat = t at h1
  rw [IntWalk.i64_in _ (by omega)]
  omega
/-- Five cells are stored, as 'set5_all' says it, for numbers that are not canonical too. -/
theorem set5_qn {w : World} {r : Nat} {t : TypeId} {a b c d e : Value} (h : Blk w r t #[a, b, c, d, e]) (x y z u v : Value) :
    ∃ W2, W2 = ((((w.setCell ⟨r, 0, none⟩ x).setCell ⟨r, 1, none⟩ y).setCell ⟨r, 2, none⟩ z).setCell ⟨r, 3, none⟩ u).setCell ⟨r, 4, none⟩ v ∧ Blk W2 r t #[x, y, z, u, v] ∧
    (∀ B k n A l c z, r < B → QN w B k n A l c z → QN W2 B k n A l c z) ∧ (∀ B w0, Below B w0 w → B ≤ r → Below B w0 W2) ∧ W2.heap.size = w.heap.size ∧ (∀ g t' cs, g ≠ r → Blk w g t' cs → Blk W2 g t' cs) ∧ (∀ B v l, r < B → Nums w B v l → Nums W2 B v l) := by
  obtain ⟨W2, h1, h2, -, h4, h5, h6, h7⟩ := set5_all h x y z u v
  exact ⟨W2, h1, h2, fun B k n A l c z hr ⟨d, q1, q2, q3⟩ => ⟨d, h7 _ _ _ hr q1, q2, q3⟩, h4, h5, h6, h7⟩

theorem set4_qn {w : World} {r : Nat} {t : TypeId} {a b c d e : Value} (h : Blk w r t #[a, b, c, d, e]) (x y z u : Value) :
    ∃ W2, W2 = (((w.setCell ⟨r, 0, none⟩ x).setCell ⟨r, 1, none⟩ y).setCell ⟨r, 2, none⟩ z).setCell ⟨r, 3, none⟩ u ∧ Blk W2 r t #[x, y, z, u, e] ∧
    (∀ B k n A l c z, r < B → QN w B k n A l c z → QN W2 B k n A l c z) ∧ (∀ B w0, Below B w0 w → B ≤ r → Below B w0 W2) ∧ W2.heap.size = w.heap.size ∧ (∀ g t' cs, g ≠ r → Blk w g t' cs → Blk W2 g t' cs) := by
  refine ⟨_, rfl, ?_, fun B k n A l c z' hr hq => (((hq.low (p := ⟨r, 0, none⟩) hr x).low (p := ⟨r, 1, none⟩) hr y).low (p := ⟨r, 2, none⟩) hr z).low (p := ⟨r, 3, none⟩) hr u,
    fun B w0 hb hr => (((hb.setCell (p := ⟨r, 0, none⟩) hr x).setCell (p := ⟨r, 1, none⟩) hr y).setCell (p := ⟨r, 2, none⟩) hr z).setCell (p := ⟨r, 3, none⟩) hr u, by simp,
    fun g t' cs hne hg => (((hg.far (p := ⟨r, 0, none⟩) hne x).far (p := ⟨r, 1, none⟩) hne y).far (p := ⟨r, 2, none⟩) hne z).far (p := ⟨r, 3, none⟩) hne u⟩
  have := (((h.set_ 0 x).set_ 1 y).set_ 2 z).set_ 3 u
  simpa using this

set_option maxHeartbeats 2000000 in
set_option maxRecDepth 100000 in
theorem right5_calls (w : World) (n0 n1 : Bool) (A0 A1 : Option Addr) (l0 l1 c0 c1 : Nat) (Q0 q : Int) (L0 L1 : List Nat) (h0 : Nums w 0 (.slice A0 l0 c0) L0) (h1 : Nums w 0 (.slice A1 l1 c1) L1) :
    Calls Try.prog 16 #[.agg #[.bool n0, .slice A0 l0 c0, .bool n1, .slice A1 l1 c1, .int .i64 Q0], .int .i64 q] w fun e w' => Below w.heap.size w w' ∧
      ∃ n A l c n' A' l' c', e = .returned (.agg #[.bool n, .slice A l c, .bool n', .slice A' l' c', .int .i64 (bits .and .i64 q 255)]) ∧
        QN w' w.heap.size 4 n A l c (min (ival n0 (val W (L0.take 4))) (ival n1 (val W (L1.take 4)))) ∧ QN w' w.heap.size 4 n' A' l' c' (max (ival n0 (val W (L0.take 4))) (ival n1 (val W (L1.take 4)))) := by
  obtain ⟨W0, hW, ha, hr, hB0, hs⟩ := start2 w 27 27 #[.bool n0, .slice A0 l0 c0, .bool n1, .slice A1 l1 c1, .int .i64 Q0] #[.bool false, .slice none 0 0, .bool false, .slice none 0 0, .int .i64 0]
  have HB := hide hB0
  have hsz : w.heap.size + 2 ≤ W0.heap.size := by omega
  clear hs hB0
  obtain ⟨M0, HM0⟩ : ∃ l, Hid (L0.take 4 = l) := ⟨_, hide rfl⟩
  obtain ⟨M1, HM1⟩ : ∃ l, Hid (L1.take 4 = l) := ⟨_, hide rfl⟩
  have hm0 : M0.length ≤ 4 := by rw [← HM0.out]; simp; omega
  have hm1 : M1.length ≤ 4 := by rw [← HM1.out]; simp; omega
  rw [HM0.out, HM1.out]
  obtain ⟨z0, HZ0⟩ : ∃ z, Hid (ival n0 (val W M0) = z) := ⟨_, hide rfl⟩
  obtain ⟨z1, HZ1⟩ : ∃ z, Hid (ival n1 (val W M1) = z) := ⟨_, hide rfl⟩
  rw [HZ0.out, HZ1.out]
  obtain ⟨mn, HMN⟩ : ∃ z, Hid (min z0 z1 = z) := ⟨_, hide rfl⟩
  obtain ⟨mx, HMX⟩ : ∃ z, Hid (max z0 z1 = z) := ⟨_, hide rfl⟩
  rw [HMN.out, HMX.out]
  obtain ⟨qq, HQ⟩ : ∃ z, Hid (bits .and .i64 q 255 = z) := ⟨_, hide rfl⟩
  rw [HQ.out]
  have hqq := HQ.out
  obtain ⟨a0, a1, a2, a3, a4, -⟩ := ha.five
  have HP := hide (cut5_calls W0 n0 n1 A0 A1 l0 l1 c0 c1 Q0 4 L0 L1 (h0.below HB.out) (h1.below HB.out) (by omega))
  rw [HM0.out, HM1.out] at HP
  go_enter Try.func16, Try.ntmps16
  go_upto_region 1 with (fail)
  rw [← hW]
  clear hW
  go_wp2_with fail
  refine HP.out.mono ?_
  rintro e w1 ⟨hb, C0, j0, i0, C1, j1, i1, rfl, hn0, hn1⟩
  clear HP a0 a1 a2 a3 a4
  have q0 : QN w1 (w.heap.size + 2) 4 n0 C0 j0 i0 z0 := ⟨M0, hn0.mono hsz, hm0, HZ0.out⟩
  have q1 : QN w1 (w.heap.size + 2) 4 n1 C1 j1 i1 z1 := ⟨M1, hn1.mono hsz, hm1, HZ1.out⟩
  clear hn0 hn1
  have ha := ha.below hb ha.lt
  have hr := hr.below hb hr.lt
  have HB := hide (HB.out.trans (hb.mono HB.out.size))
  have hsz := Nat.le_trans hsz hb.size
  clear hb
  obtain ⟨a0, a1, a2, a3, a4, a5, a6, a7, a8, a9⟩ := ha.five
  go_upto_region 2 with (fail)
  obtain ⟨w2, hW, ha, kq, kb, ks, kg, -⟩ := set5_qn ha (.bool n0) (.slice C0 j0 i0) (.bool n1) (.slice C1 j1 i1) (.int .i64 Q0)
  rw [← hW]
  have hr := kg _ _ _ (by omega) hr
  have q0 := kq _ _ _ _ _ _ _ (by omega) q0
  have q1 := kq _ _ _ _ _ _ _ (by omega) q1
  have HB := hide (kb _ _ HB.out (by omega))
  have hsz := Nat.le_trans hsz (Nat.le_of_eq ks.symm)
  clear kq kb ks kg hW a0 a1 a2 a3 a4 a5 a6 a7 a8 a9
  obtain ⟨a0, a1, a2, a3, a4, a5, a6, a7, a8, a9⟩ := ha.five
  go_upto_region 3 with (fail)
  have ha' : Blk (w2.setCell ⟨w.heap.size, 4, none⟩ (.int .i64 qq)) w.heap.size 27 #[.bool n0, .slice C0 j0 i0, .bool n1, .slice C1 j1 i1, .int .i64 qq] := by
    have := ha.set_ 4 (.int .i64 qq)
    simpa using this
  have hr := hr.far (p := ⟨w.heap.size, 4, none⟩) (by simp) (.int .i64 qq)
  have q0 := q0.low (p := ⟨w.heap.size, 4, none⟩) (by simp) (.int .i64 qq)
  have q1 := q1.low (p := ⟨w.heap.size, 4, none⟩) (by simp) (.int .i64 qq)
  have HB := hide (HB.out.setCell (p := ⟨w.heap.size, 4, none⟩) (by simp) (.int .i64 qq))
  have hsz : w.heap.size + 2 ≤ (w2.setCell ⟨w.heap.size, 4, none⟩ (.int .i64 qq)).heap.size := by simpa using hsz
  obtain ⟨w3, hW⟩ : ∃ w3, w3 = w2.setCell ⟨w.heap.size, 4, none⟩ (.int .i64 qq) := ⟨_, rfl⟩
  rw [← hW] at ha' hr q0 q1 HB hsz
  rw [← hW]
  clear hW a0 a1 a2 a3 a4 a5 a6 a7 a8 a9 ha
  obtain ⟨a0, a1, a2, a3, a4, -⟩ := ha'.five
  have HP := hide (c_zcmp q0.q q1.q (by omega) (by omega))
  obtain ⟨c, HC⟩ : ∃ z, Hid (cmpZ z0 z1 = z) := ⟨_, hide rfl⟩
  rw [HC.out] at HP
  go_wp2_with fail
  refine HP.out.mono ?_
  rintro e w4 ⟨hb, rfl⟩
  clear HP a0 a1 a2 a3 a4
  have ha := ha'.below hb ha'.lt
  have hr := hr.below hb hr.lt
  have q0 := q0.below hb
  have q1 := q1.below hb
  have HB := hide (HB.out.trans (hb.mono HB.out.size))
  have hsz := Nat.le_trans hsz hb.size
  clear hb ha'
  obtain ⟨a0, a1, a2, a3, a4, a5, a6, a7, a8, a9⟩ := ha.five
  obtain ⟨r0, r1, r2, r3, r4, r5, r6, r7, r8, r9⟩ := hr.five
  by_cases hc : c ≤ 0
  · have hle : z0 ≤ z1 := (cmpZ_le z0 z1).1 (by rw [HC.out]; exact hc)
    have ht : ¬ (0 < c) := by omega
    have e1 : z0 = mn := by have := HMN.out; omega
    have e2 : z1 = mx := by have := HMX.out; omega
    rw [e1] at q0
    rw [e2] at q1
    clear e1 e2
    go_wp2_with fail
    obtain ⟨w5, hW, bl, kq, kb, -⟩ := set5_qn hr (.bool n0) (.slice C0 j0 i0) (.bool n1) (.slice C1 j1 i1) (.int .i64 qq)
    rw [← hW]
    exact bodyPost_ret (results_ball rfl _ _ _ _ _ _ _ _ _ rfl bl) rfl ⟨kb _ _ HB.out (by omega), _, _, _, _, _, _, _, _, rfl, (kq _ _ _ _ _ _ _ (by omega) q0).mono (by omega), (kq _ _ _ _ _ _ _ (by omega) q1).mono (by omega)⟩
  · have hle : ¬ z0 ≤ z1 := fun h => hc (by rw [← HC.out]; exact (cmpZ_le z0 z1).2 h)
    have ht : 0 < c := by omega
    have e1 : z0 = mx := by have := HMX.out; omega
    have e2 : z1 = mn := by have := HMN.out; omega
    rw [e1] at q0
    rw [e2] at q1
    clear e1 e2
    go_upto_region 5 with (fail)
    obtain ⟨w5, hW, ha, kq, kb, ks, kg⟩ := set4_qn ha (.bool n1) (.slice C1 j1 i1) (.bool n0) (.slice C0 j0 i0)
    rw [← hW]
    have hr := kg _ _ _ (by omega) hr
    have q0 := kq _ _ _ _ _ _ _ (by omega) q0
    have q1 := kq _ _ _ _ _ _ _ (by omega) q1
    have HB := hide (kb _ _ HB.out (by omega))
    clear kq kb ks kg hW a0 a1 a2 a3 a4 a5 a6 a7 a8 a9 r0 r1 r2 r3 r4 r5 r6 r7 r8 r9
    obtain ⟨a0, a1, a2, a3, a4, -⟩ := ha.five
    obtain ⟨r0, r1, r2, r3, r4, r5, r6, r7, r8, r9⟩ := hr.five
    go_wp2_with fail
    obtain ⟨w6, hW, bl, kq, kb, -⟩ := set5_qn hr (.bool n1) (.slice C1 j1 i1) (.bool n0) (.slice C0 j0 i0) (.int .i64 qq)
    rw [← hW]
    exact bodyPost_ret (results_ball rfl _ _ _ _ _ _ _ _ _ rfl bl) rfl ⟨kb _ _ HB.out (by omega), _, _, _, _, _, _, _, _, rfl, (kq _ _ _ _ _ _ _ (by omega) q1).mono (by omega), (kq _ _ _ _ _ _ _ (by omega) q0).mono (by omega)⟩
end Go.Proofs.Ytnfbngiabdlclaa

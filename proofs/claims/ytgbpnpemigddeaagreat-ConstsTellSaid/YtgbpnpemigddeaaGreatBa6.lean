/- ball: results that are balls; pair, Point. ball: Mul, Div. ball: Recast, Shift. The document's dyads: Add Sub. The document's dyads: Sub. The document's dyads: Cmp. The document's balls: Down, Over, Cmp, Right. The document's balls: Point, Recast, Shift. The document's balls: least, greatest, Times. -/
import Derived.Test.YtgbpnpemigddeaaGreatBa1
import Derived.Test.YtgbpnpemigddeaaGreatRefC
set_option linter.unusedVariables false
set_option linter.unusedSimpArgs false
namespace Go.Proofs.YtgbpnpemigddeaaGreat
section
section
open Go.RowKit
open L (val dig nth)
theorem jmx {w : World} {r : Nat} {t : TypeId} {a b c d e : Value} (h : Blk w r t #[a, b, c, d, e]) : (loadVar 27 ⟨r, 0, none⟩).run Tryz.prog w = .ok (.agg #[a, b, c, d, e]) w := by
  obtain ⟨c0, c1, c2, c3, c4, -⟩ := h.five; simp [go_sem, c0, c1, c2, c3, c4]
theorem jc2 {fn : Func} {p q : Tmp} (h : fn.results = #[.cell p 27, .tmp q]) (tmps : Array Value) (w : World) (r : Nat) (t : TypeId) (a b c d e : Value) (hp : tmps.getD p undef = .pointer (some ⟨r, 0, none⟩)) (hb : Blk w r t #[a, b, c, d, e]) :
    (results fn tmps).run Tryz.prog w = .ok (.tuple #[.agg #[a, b, c, d, e], tmps.getD q undef]) w := by
  simp only [results, h]; simp only [Array.getD_eq_getD_getElem?] at hp; simp [Sem.run_bind, Result.andThen, asAddr, hp, jmx hb]
theorem jkl {w : World} {r : Nat} {t : TypeId} {a b c d e : Value} (h : Blk w r t #[a, b, c, d, e]) (x y z u v : Value) :
    ∃ W2, W2 = ((((w.setCell ⟨r, 0, none⟩ x).setCell ⟨r, 1, none⟩ y).setCell ⟨r, 2, none⟩ z).setCell ⟨r, 3, none⟩ u).setCell ⟨r, 4, none⟩ v ∧ Blk W2 r t #[x, y, z, u, v] ∧
    (∀ B k n A l c z, r < B → QB w B k n A l c z → QB W2 B k n A l c z) ∧ (∀ B w0, Below B w0 w → B ≤ r → Below B w0 W2) ∧ W2.heap.size = w.heap.size ∧ (∀ g t' cs, g ≠ r → Blk w g t' cs → Blk W2 g t' cs) ∧ (∀ B v l, r < B → Nums w B v l → Nums W2 B v l) := by
  refine ⟨_, rfl, ?_, fun B k n A l c z hr hq => ((((hq.low (p := ⟨r, 0, none⟩) hr x).low (p := ⟨r, 1, none⟩) hr y).low (p := ⟨r, 2, none⟩) hr _).low (p := ⟨r, 3, none⟩) hr u).low (p := ⟨r, 4, none⟩) hr v,
    fun B w0 hb hr => ((((hb.setCell (p := ⟨r, 0, none⟩) hr x).setCell (p := ⟨r, 1, none⟩) hr y).setCell (p := ⟨r, 2, none⟩) hr z).setCell (p := ⟨r, 3, none⟩) hr u).setCell (p := ⟨r, 4, none⟩) hr v, by simp,
    fun g t' cs hne hg => ((((hg.far (p := ⟨r, 0, none⟩) hne x).far (p := ⟨r, 1, none⟩) hne y).far (p := ⟨r, 2, none⟩) hne z).far (p := ⟨r, 3, none⟩) hne u).far (p := ⟨r, 4, none⟩) hne v,
    fun B vv l hr hn => ((((hn.set_low (p := ⟨r, 0, none⟩) hr x).set_low (p := ⟨r, 1, none⟩) hr y).set_low (p := ⟨r, 2, none⟩) hr z).set_low (p := ⟨r, 3, none⟩) hr u).set_low (p := ⟨r, 4, none⟩) hr v⟩
  have := ((((h.set_ 0 x).set_ 1 y).set_ 2 z).set_ 3 u).set_ 4 v
  simpa using this
def RetB (B k : Nat) (x y q err : Int) (e : Ending) (w : World) : Prop := ∃ n A l c n' A' l' c', e = .returned (.tuple #[.agg #[.bool n, .slice A l c, .bool n', .slice A' l' c', .int .i64 q], .int .i64 err]) ∧ QB w B k n A l c x ∧ QB w B k n' A' l' c' y
def RetE (B k : Nat) (ok : Bool) (x y q err : Int) (e : Ending) (w : World) : Prop := RetB B k (if ok then x else 0) (if ok then y else 0) (if ok then q else 0) (if ok then 0 else err) e w
theorem RetE.yes {B k : Nat} {x y q err : Int} {e : Ending} {w : World} (h : RetB B k x y q 0 e w) : RetE B k true x y q err e w := h
theorem RetE.no {B k : Nat} {x y q err : Int} {w : World} : RetE B k false x y q err (.returned (.tuple #[.agg #[.bool false, .slice none 0 0, .bool false, .slice none 0 0, .int .i64 0], .int .i64 err])) w :=
  ⟨_, _, _, _, _, _, _, _, rfl, QB.zero _ _ _, QB.zero _ _ _⟩
def pairB (x y q x' y' q' : Int) : Bool := rightB x y q && rightB x' y' q' && (q == q')
end
end
section
section
open Go.RowKit
open L (val dig nth)
end
end
section
section
open Go.RowKit
open L (val dig nth)
end
end
section
section
section
open Go.RowKit
open L (val dig nth)
end
end
section
section
open Go.RowKit
open L (val dig nth)
end
end
section
section
open Go.RowKit
open L (val dig nth)
end
end
end
section
section
open Go.RowKit
open L (val dig nth)
section
variable {w : World} {k k' : Nat} {n m : Bool} {A A' : Option Addr} {len cap len' cap' : Nat} {z y : Int}
theorem jh5 (h : Q w k n A len cap z) (hk : k ≤ 30000) :
    Calls Tryz.prog 88 #[.agg #[.bool n, .slice A len cap]] w fun e w' => Below w.heap.size w w' ∧ RetZ w.heap.size (-z) e w' := by
  obtain ⟨d, h1, h2, rfl⟩ := h; exact jfh w n 0 _ d h1 (by omega)
theorem jmy (h : Q w k n A len cap z) (h' : Q w k' m A' len' cap' y) (hk : k ≤ 30000) (hk' : k' ≤ 30000) :
    Calls Tryz.prog 44 #[.agg #[.bool n, .slice A len cap], .agg #[.bool m, .slice A' len' cap']] w fun e w' => Below w.heap.size w w' ∧ RetZ w.heap.size (z * y) e w' := by
  obtain ⟨d, h1, h2, rfl⟩ := h; obtain ⟨d', h1', h2', rfl⟩ := h'; exact jjm w n m 0 0 _ _ d d' h1 h1' (by omega) (by omega)
theorem jmz (h : Q w k n A len cap z) (h' : Q w k' m A' len' cap' y) (hk : k ≤ 30000) (hk' : k' ≤ 30000) :
    Calls Tryz.prog 59 #[.agg #[.bool n, .slice A len cap], .agg #[.bool m, .slice A' len' cap']] w fun e w' => Below w.heap.size w w' ∧ RetZ w.heap.size (z - y) e w' := by
  obtain ⟨d, h1, h2, rfl⟩ := h; obtain ⟨d', h1', h2', rfl⟩ := h'; exact jjo w n m 0 0 _ _ d d' h1 h1' (by omega) (by omega)
theorem jkm (h : Q w k n A len cap z) (hk : k ≤ 30000) :
    Calls Tryz.prog 84 #[.agg #[.bool n, .slice A len cap]] w fun e w' => Below w.heap.size w w' ∧ e = .returned (.int .i64 z.sign) := by
  obtain ⟨d, h1, h2, rfl⟩ := h; exact jh9 w n 0 _ d h1 (by omega)
theorem js8 (h : Q w k n A len cap z) (hk : k ≤ 30000) (c : Nat) (hc : c ≤ 8000) :
    Calls Tryz.prog 41 #[.agg #[.bool n, .slice A len cap], .int .i64 (c : Nat)] w fun e w' => Below w.heap.size w w' ∧ RetZ w.heap.size (z * 2 ^ c) e w' := by
  obtain ⟨d, h1, h2, rfl⟩ := h; have := jjn w n 0 _ d (c : Int) h1 (by omega) (by omega) (by omega)
  rwa [show clampN (c : Int) = c from by unfold clampN; omega] at this
theorem js9 (h : Q w k n A len cap z) (hk : k ≤ 30000) (c : Nat) (hc : c ≤ 8000) :
    Calls Tryz.prog 87 #[.agg #[.bool n, .slice A len cap], .int .i64 (c : Nat)] w fun e w' => Below w.heap.size w w' ∧ RetZ w.heap.size (z / 2 ^ c) e w' := by
  obtain ⟨d, h1, h2, rfl⟩ := h; have := jjp w n 0 _ d (c : Int) h1 (by omega) (by omega) (by omega)
  rwa [show clampN (c : Int) = c from by unfold clampN; omega] at this
end
set_option maxRecDepth 100000 in
theorem jkn {w : World} {k k' : Nat} {n m : Bool} {A A' : Option Addr} {len cap len' cap' : Nat} {x y : Int} (h : Q w k n A len cap x) (h' : Q w k' m A' len' cap' y) (hk : k ≤ 1000) (hk' : k' ≤ 1000) :
    Calls Tryz.prog 85 #[.agg #[.bool n, .slice A len cap], .agg #[.bool m, .slice A' len' cap']] w fun e w' => Below w.heap.size w w' ∧ e = .returned (.int .i64 (cmpZ x y)) := by
  obtain ⟨W0, hW, ha, hb, hB0, hs⟩ := start2 w 25 25 #[.bool n, .slice A len cap] #[.bool m, .slice A' len' cap']; have HB0 := hide hB0; clear hs hB0; obtain ⟨a0, a1, -, -⟩ := ha.two; obtain ⟨b0, b1, -, -⟩ := hb.two; have HS := hide (jmz (h.at_ HB0) (h'.at_ HB0) (by omega) (by omega)); have hl : (x - y).natAbs < W ^ (k + k' + 1) := jq1 (Int.natAbs_sub_le _ _) (Nat.lt_of_lt_of_le h.lt (Nat.pow_le_pow_right ja6 (by omega))) (Nat.lt_of_lt_of_le h'.lt (Nat.pow_le_pow_right ja6 (by omega))) (Nat.lt_succ_self (k + k')); rw [jd5]; obtain ⟨z, HZ⟩ : ∃ z, Hid (x - y = z) := ⟨_, hide rfl⟩; rw [HZ.out] at HS hl ⊢; have HL := hide hl; obtain ⟨s, HSG⟩ : ∃ s, Hid (z.sign = s) := ⟨_, hide rfl⟩; rw [HSG.out]; clear hl
  go_enter Tryz.func85, Tryz.ntmps85
  go_upto_region 1 with (fail)
  rw [← hW]; clear hW
  go_wp2_with fail
  refine HS.out.mono ?_; rintro e w1 ⟨hb1, u1, d1, rfl, hu1, hd1⟩; obtain ⟨C1, cc1, rfl⟩ := hu1.form; have HB1 := hide (HB0.out.trans (hb1.mono HB0.out.size)); have HG := hide (jkm (RetZ.q hu1 hd1 HL.out) (by omega)); rw [HSG.out] at HG
  go_wp2_with fail
  refine HG.out.mono ?_; rintro e w2 ⟨hb2, rfl⟩; have HB2 := hide (HB1.out.trans (hb2.mono HB1.out.size))
  go_wp2_with fail
  go_ret
  exact ⟨HB2.out, rfl⟩
set_option maxRecDepth 100000 in
theorem jh6 {w : World} {k k' : Nat} {n m : Bool} {A A' : Option Addr} {len cap len' cap' : Nat} {x y : Int} (q : Int) (h : Q w k n A len cap x) (h' : Q w k' m A' len' cap' y) (hk : k ≤ 1000) (hk' : k' ≤ 1000) :
    Calls Tryz.prog 48 #[.agg #[.bool n, .slice A len cap, .bool m, .slice A' len' cap', .int .i64 q]] w fun e w' => Below w.heap.size w w' ∧ e = .returned (.bool (rightB x y q)) := by
  obtain ⟨W0, hW, hbx, hB0, hs⟩ := start1 w 27 #[.bool n, .slice A len cap, .bool m, .slice A' len' cap', .int .i64 q]; have HB0 := hide hB0; clear hs hB0; obtain ⟨c0, c1, c2, c3, c4, -⟩ := hbx.five; have HC := hide (jkn (h.at_ HB0) (h'.at_ HB0) (by omega) (by omega)); obtain ⟨c, HCC⟩ : ∃ c, Hid (cmpZ x y = c) := ⟨_, hide rfl⟩; rw [HCC.out] at HC; have HL : Hid (c ≤ 0 ↔ x ≤ y) := hide (by rw [← HCC.out]; exact jb9 x y); obtain ⟨r, HR⟩ : ∃ r, Hid (rightB x y q = r) := ⟨_, hide rfl⟩; have HRR : Hid (r = (decide (0 ≤ q ∧ q ≤ 2048) && decide (x ≤ y))) := hide (by rw [← HR.out]; rfl); rw [HR.out]
  go_enter Tryz.func48, Tryz.ntmps48
  go_upto_region 1 with (fail)
  rw [← hW]; clear hW
  go_wp2_with fail
  refine HC.out.mono ?_; rintro e w1 ⟨hb1, rfl⟩; have HB1 := hide (HB0.out.trans (hb1.mono HB0.out.size)); have hbx := hbx.below hb1 hbx.lt; obtain ⟨c0, c1, c2, c3, c4, -⟩ := hbx.five
  by_cases hc : c ≤ 0
  · have hl := HL.out.1 hc
    by_cases h0 : 0 ≤ q
    · by_cases h1 : q ≤ 2048
      · have hr : r = true := by rw [HRR.out, decide_eq_true ⟨h0, h1⟩, decide_eq_true hl]; rfl
        subst hr
        go_wp2_with fail
        go_ret
        exact ⟨HB1.out, rfl⟩
      · have hr : r = false := by rw [HRR.out, decide_eq_false (fun h => h1 h.2)]; rfl
        subst hr
        go_wp2_with fail
        go_ret
        first | exact ⟨HB1.out, rfl⟩ | exact ⟨HB1.out, congrArg (fun b => Ending.returned (Value.bool b)) (decide_eq_false (by omega))⟩
    · have hr : r = false := by rw [HRR.out, decide_eq_false (fun h => h0 h.1)]; rfl
      subst hr
      go_wp2_with fail
      go_ret
      exact ⟨HB1.out, rfl⟩
  · have hl : ¬ x ≤ y := fun h => hc (HL.out.2 h)
    have hr : r = false := by rw [HRR.out, decide_eq_false hl, Bool.and_false]
    subst hr
    go_wp2_with fail
    go_ret
    exact ⟨HB1.out, rfl⟩
end
end
section
section
open Go.RowKit
open L (val dig nth)
end
end
section
section
open Go.RowKit
open L (val dig nth)
theorem Ints.two {w : World} {k B g : Nat} {t : TypeId} {n0 n1 : Bool} {A0 A1 : Option Addr} {l0 l1 c0 c1 : Nat} {z0 z1 : Int}
    (h : Blk w g t #[.bool n0, .slice A0 l0 c0, .bool n1, .slice A1 l1 c1]) (h0 : QB w B k n0 A0 l0 c0 z0) (h1 : QB w B k n1 A1 l1 c1 z1) :
    Ints w k B g 2 (pick n0 n1 n1 n1) (pick A0 A1 A1 A1) (pick l0 l1 l1 l1) (pick c0 c1 c1 c1) (pick z0 z1 z1 z1) := by
  refine ⟨h.lt, fun i hi => ?_, fun i hi => ?_, fun i hi => ?_⟩
  all_goals obtain rfl | rfl : i = 0 ∨ i = 1 := by omega
  · exact h.cell 0
  · exact h.cell 2
  · exact h.cell 1
  · exact h.cell 3
  · exact h0
  · exact h1
theorem jm0 {a b : Int} {j : Nat} (hj : j < 2) (h : ∀ i, i < 2 → pick a b b b j ≤ pick a b b b i) : pick a b b b j = min a b := by
  have h0 : pick a b b b j ≤ a := h 0 (by omega); have h1 : pick a b b b j ≤ b := h 1 (by omega); obtain rfl | rfl : j = 0 ∨ j = 1 := by omega
  · show a = min a b
    have h1' : a ≤ b := h1
    omega
  · show b = min a b
    have h0' : b ≤ a := h0
    omega
theorem jm1 {a b : Int} {j : Nat} (hj : j < 2) (h : ∀ i, i < 2 → pick a b b b i ≤ pick a b b b j) : pick a b b b j = max a b := by
  have h0 : a ≤ pick a b b b j := h 0 (by omega); have h1 : b ≤ pick a b b b j := h 1 (by omega); obtain rfl | rfl : j = 0 ∨ j = 1 := by omega
  · show a = max a b
    have h1' : b ≤ a := h1
    omega
  · show b = max a b
    have h0' : a ≤ b := h0
    omega
set_option maxHeartbeats 2000000 in
set_option maxRecDepth 100000 in
theorem jjj {w : World} {k B g m : Nat} {N : Nat → Bool} {As : Nat → Option Addr} {ls cs : Nat → Nat} {zs : Nat → Int} (h : Ints w k B g m N As ls cs zs) (hm : 1 ≤ m) (hm1 : m ≤ 1000) (hk : k ≤ 1000) (cp : Nat := m) :
    Calls Tryz.prog 49 #[.slice (some ⟨g, 0, none⟩) m cp] w fun e w' => Below w.heap.size w w' ∧
      ∃ j, j < m ∧ e = .returned (.agg #[.bool (N j), .slice (As j) (ls j) (cs j)]) ∧ ∀ i, i < m → zs j ≤ zs i := by
  obtain ⟨W0, hW, hrs, hB0, hs⟩ := start1 w 25 #[.bool false, .slice none 0 0]; have h0 := h.below hB0; obtain ⟨W1, hW1, hmb, hB1, hs1⟩ := start1 W0 25 #[.bool (N 0), .slice (As 0) (ls 0) (cs 0)]; have h1 := h0.below hB1; have hrs1 := hrs.below hB1 hrs.lt; have HB1 := hide (hB0.trans (hB1.mono hB0.size)); have hsz : W1.heap.size = w.heap.size + 2 := by omega
  have HS := hide hs; have a0 := h0.c0 0 hm; have a1 := h0.c1 0 hm; have hgl := h.lt; have HQ := hide h.q; have HC0 := hide h1.c0; have HC1 := hide h1.c1; have hge : ¬ ((m : Int) < 1) := by omega
  have a0' : W0.cell? ⟨g, 0, none⟩ = some (.bool (N 0)) := a0; have a1' : W0.cell? ⟨g, 1, none⟩ = some (.slice (As 0) (ls 0) (cs 0)) := a1; clear hs hs1 a0 a1 h0 h1 hB0 hB1
  go_enter Tryz.func49, Tryz.ntmps49
  go_upto_region 1 with (fail)
  rw [← hW]; clear hW
  go_upto_region 2 with (fail)
  rw [← hW1]; clear hW1
  go_wp2_with fail
  go_loopw [4] (fun i_ wr => ∃ i j : Nat, i_ = .int .i64 i ∧ j < i ∧ i ≤ m ∧ Blk wr W0.heap.size 25 #[.bool (N j), .slice (As j) (ls j) (cs j)] ∧ Blk wr w.heap.size 25 #[.bool false, .slice none 0 0] ∧ Hid (Below w.heap.size w wr) ∧ Hid (∀ i', i' < i → zs j ≤ zs i')) (fun i_ _ => m - (intOf i_).toNat)
  case atStart => exact ⟨1, 0, rfl, by omega, hm, hmb, hrs1, HB1, hide (fun i' hi' => by rw [show i' = 0 from by omega]; exact Int.le_refl _)⟩
  case round =>
    clear HC0 HC1 a0' a1' hmb hrs1 HB1; obtain ⟨i, j, rfl, hji, him, hmb, hrs, HB, HM⟩ := hrel; have hsr := hmb.lt
    by_cases hlt : i < m
    · have hI := h.below HB.out
      have a0 := hI.c0 i hlt; have a1 := hI.c1 i hlt; have HC := hide (jkn (hI.q i hlt).q.drew (hI.q j (by omega)).q.drew (by omega) (by omega)); obtain ⟨c, HCC⟩ : ∃ c, Hid (cmpZ (zs i) (zs j) = c) := ⟨_, hide rfl⟩; rw [HCC.out] at HC; have hil : (i : Int) < (m : Int) := by omega
      obtain ⟨b0, b1, b2, b3⟩ := hmb.two; have hs0 : w.heap.size < W0.heap.size := by have := HS.out; omega
      have hne : ¬ W0.heap.size = w.heap.size := by omega
      have hne2 : ¬ w.heap.size = W0.heap.size := by omega
      have hne3 : ¬ g = W0.heap.size := by omega
      have HBI := hide hI; clear hI
      go_wp2_with fail
      go_region_held3 (fun w' => w'.cell? ⟨g, i * 2, none⟩ = some (.bool (N i)) ∧ w'.cell? ⟨g, i * 2 + 1, none⟩ = some (.slice (As i) (ls i) (cs i)) ∧ w'.cell? ⟨W0.heap.size, 0, none⟩ = some (.bool (N j)) ∧ w'.cell? ⟨W0.heap.size, 1, none⟩ = some (.slice (As j) (ls j) (cs j))) (go_keep)
        ((go_at_call 85; (with_reducible refine HC.out.mono ?_); rintro e w1 ⟨hb1, rfl⟩
          have mb1 := hmb.drew.below hb1 hmb.lt; have rs1 := hrs.drew.below hb1 hrs.lt; have HB1 := hide (HB.out.drew.trans (hb1.mono HB.out.size)); have hI1 := h.below HB1.out; have d0 := hI1.c0 i hlt; have d1 := hI1.c1 i hlt; obtain ⟨e0, e1, e2, e3⟩ := mb1.two))
      by_cases hc : zs i < zs j
      · have hc' : c < 0 := by rw [← HCC.out, jd5]; exact jfc (by omega)
        go_wp2_with fail
        go_roundw
        case rel =>
          exact ⟨i + 1, i, by go_num, by omega, by omega, jab mb1, jbb rs1 hne2 _ _, hide (below2 HB1.out (by omega) _ _), hide (fun i' hi' => by
            rcases Nat.lt_or_ge i' i with h1 | h1
            · have := HM.out i' h1; omega
            · rw [show i' = i from by omega]; exact Int.le_refl _)⟩
        case measure => simp [intOf]; omega
      · have hc' : ¬ c < 0 := by
          have := jb9 (zs j) (zs i); rw [← HCC.out, jd5]; intro hs; have := jfd hs
          omega
        go_wp2_with fail
        go_roundw
        case rel =>
          exact ⟨i + 1, j, by go_num, by omega, by omega, mb1, rs1, HB1, hide (fun i' hi' => by
            rcases Nat.lt_or_ge i' i with h1 | h1
            · exact HM.out i' h1
            · rw [show i' = i from by omega]; omega)⟩
        case measure => simp [intOf]; omega
    · have hmi : i = m := by omega
      have hil : ¬ ((i : Int) < (m : Int)) := by omega
      have hs0 : w.heap.size < W0.heap.size := by have := HS.out; omega
      have hne : ¬ W0.heap.size = w.heap.size := by omega
      obtain ⟨b0, b1, b2, b3⟩ := hmb.two; obtain ⟨r0, r1, r2, r3⟩ := hrs.two
      go_wp2_with fail
      refine bodyPost_ret (jac rfl _ _ _ _ _ _ rfl (jab hrs)) rfl ⟨below2 HB.out (Nat.le_refl _) _ _, j, by omega, rfl, fun i' hi' => HM.out i' (by omega)⟩
set_option maxHeartbeats 2000000 in
set_option maxRecDepth 100000 in
theorem jgg {w : World} {k B g m : Nat} {N : Nat → Bool} {As : Nat → Option Addr} {ls cs : Nat → Nat} {zs : Nat → Int} (h : Ints w k B g m N As ls cs zs) (hm : 1 ≤ m) (hm1 : m ≤ 1000) (hk : k ≤ 1000) (cp : Nat := m) :
    Calls Tryz.prog 50 #[.slice (some ⟨g, 0, none⟩) m cp] w fun e w' => Below w.heap.size w w' ∧
      ∃ j, j < m ∧ e = .returned (.agg #[.bool (N j), .slice (As j) (ls j) (cs j)]) ∧ ∀ i, i < m → zs i ≤ zs j := by
  obtain ⟨W0, hW, hrs, hB0, hs⟩ := start1 w 25 #[.bool false, .slice none 0 0]; have h0 := h.below hB0; obtain ⟨W1, hW1, hmb, hB1, hs1⟩ := start1 W0 25 #[.bool (N 0), .slice (As 0) (ls 0) (cs 0)]; have h1 := h0.below hB1; have hrs1 := hrs.below hB1 hrs.lt; have HB1 := hide (hB0.trans (hB1.mono hB0.size)); have hsz : W1.heap.size = w.heap.size + 2 := by omega
  have HS := hide hs; have a0 := h0.c0 0 hm; have a1 := h0.c1 0 hm; have hgl := h.lt; have HQ := hide h.q; have HC0 := hide h1.c0; have HC1 := hide h1.c1; have hge : ¬ ((m : Int) < 1) := by omega
  have a0' : W0.cell? ⟨g, 0, none⟩ = some (.bool (N 0)) := a0; have a1' : W0.cell? ⟨g, 1, none⟩ = some (.slice (As 0) (ls 0) (cs 0)) := a1; clear hs hs1 a0 a1 h0 h1 hB0 hB1
  go_enter Tryz.func50, Tryz.ntmps50
  go_upto_region 1 with (fail)
  rw [← hW]; clear hW
  go_upto_region 2 with (fail)
  rw [← hW1]; clear hW1
  go_wp2_with fail
  go_loopw [4] (fun i_ wr => ∃ i j : Nat, i_ = .int .i64 i ∧ j < i ∧ i ≤ m ∧ Blk wr W0.heap.size 25 #[.bool (N j), .slice (As j) (ls j) (cs j)] ∧ Blk wr w.heap.size 25 #[.bool false, .slice none 0 0] ∧ Hid (Below w.heap.size w wr) ∧ Hid (∀ i', i' < i → zs i' ≤ zs j)) (fun i_ _ => m - (intOf i_).toNat)
  case atStart => exact ⟨1, 0, rfl, by omega, hm, hmb, hrs1, HB1, hide (fun i' hi' => by rw [show i' = 0 from by omega]; exact Int.le_refl _)⟩
  case round =>
    clear HC0 HC1 a0' a1' hmb hrs1 HB1; obtain ⟨i, j, rfl, hji, him, hmb, hrs, HB, HM⟩ := hrel; have hsr := hmb.lt
    by_cases hlt : i < m
    · have hI := h.below HB.out
      have a0 := hI.c0 i hlt; have a1 := hI.c1 i hlt; have HC := hide (jkn (hI.q i hlt).q.drew (hI.q j (by omega)).q.drew (by omega) (by omega)); obtain ⟨c, HCC⟩ : ∃ c, Hid (cmpZ (zs i) (zs j) = c) := ⟨_, hide rfl⟩; rw [HCC.out] at HC; have hil : (i : Int) < (m : Int) := by omega
      obtain ⟨b0, b1, b2, b3⟩ := hmb.two; have hs0 : w.heap.size < W0.heap.size := by have := HS.out; omega
      have hne : ¬ W0.heap.size = w.heap.size := by omega
      have hne2 : ¬ w.heap.size = W0.heap.size := by omega
      have hne3 : ¬ g = W0.heap.size := by omega
      have HBI := hide hI; clear hI
      go_wp2_with fail
      go_region_held3 (fun w' => w'.cell? ⟨g, i * 2, none⟩ = some (.bool (N i)) ∧ w'.cell? ⟨g, i * 2 + 1, none⟩ = some (.slice (As i) (ls i) (cs i)) ∧ w'.cell? ⟨W0.heap.size, 0, none⟩ = some (.bool (N j)) ∧ w'.cell? ⟨W0.heap.size, 1, none⟩ = some (.slice (As j) (ls j) (cs j))) (go_keep)
        ((go_at_call 85; (with_reducible refine HC.out.mono ?_); rintro e w1 ⟨hb1, rfl⟩
          have mb1 := hmb.drew.below hb1 hmb.lt; have rs1 := hrs.drew.below hb1 hrs.lt; have HB1 := hide (HB.out.drew.trans (hb1.mono HB.out.size)); have hI1 := h.below HB1.out; have d0 := hI1.c0 i hlt; have d1 := hI1.c1 i hlt; obtain ⟨e0, e1, e2, e3⟩ := mb1.two))
      by_cases hc : zs j < zs i
      · have hc' : 0 < c := by rw [← HCC.out, jd5, Int.sign_eq_one_of_pos (by omega)]; omega
        go_wp2_with fail
        go_roundw
        case rel =>
          exact ⟨i + 1, i, by go_num, by omega, by omega, jab mb1, jbb rs1 hne2 _ _, hide (below2 HB1.out (by omega) _ _), hide (fun i' hi' => by
            rcases Nat.lt_or_ge i' i with h1 | h1
            · have := HM.out i' h1; omega
            · rw [show i' = i from by omega]; exact Int.le_refl _)⟩
        case measure => simp [intOf]; omega
      · have hc' : ¬ 0 < c := by
          rw [← HCC.out]; have := (jb9 (zs i) (zs j)).2 (by omega)
          omega
        go_wp2_with fail
        go_roundw
        case rel =>
          exact ⟨i + 1, j, by go_num, by omega, by omega, mb1, rs1, HB1, hide (fun i' hi' => by
            rcases Nat.lt_or_ge i' i with h1 | h1
            · exact HM.out i' h1
            · rw [show i' = i from by omega]; omega)⟩
        case measure => simp [intOf]; omega
    · have hmi : i = m := by omega
      have hil : ¬ ((i : Int) < (m : Int)) := by omega
      have hs0 : w.heap.size < W0.heap.size := by have := HS.out; omega
      have hne : ¬ W0.heap.size = w.heap.size := by omega
      obtain ⟨b0, b1, b2, b3⟩ := hmb.two; obtain ⟨r0, r1, r2, r3⟩ := hrs.two
      go_wp2_with fail
      refine bodyPost_ret (jac rfl _ _ _ _ _ _ rfl (jab hrs)) rfl ⟨below2 HB.out (Nat.le_refl _) _ _, j, by omega, rfl, fun i' hi' => HM.out i' (by omega)⟩
set_option maxHeartbeats 2000000 in
set_option maxRecDepth 100000 in
theorem jh7 {w : World} {k : Nat} {n0 n1 m : Bool} {A0 A1 B : Option Addr} {l0 l1 j c0 c1 d : Nat} {x y z : Int} (Q0 : Int) (hx : Q w k n0 A0 l0 c0 x) (hy : Q w k n1 A1 l1 c1 y) (hz : Q w k m B j d z) (hk : k ≤ 400) :
    Calls Tryz.prog 16 #[.agg #[.bool n0, .slice A0 l0 c0, .bool n1, .slice A1 l1 c1, .int .i64 Q0], .agg #[.bool m, .slice B j d]] w fun e w' => Below w.heap.size w w' ∧ RetE w.heap.size (k + k) (rightB x y Q0) (min (x * z) (y * z)) (max (x * z) (y * z)) Q0 1 e w' := by
  obtain ⟨W0, hW, ha, hb, hrs, hB0, hs⟩ := start3 w 27 25 27 #[.bool n0, .slice A0 l0 c0, .bool n1, .slice A1 l1 c1, .int .i64 Q0] #[.bool m, .slice B j d] #[.bool false, .slice none 0 0, .bool false, .slice none 0 0, .int .i64 0]; have HB0 := hide hB0; have hs2 : w.heap.size + 3 ≤ W0.heap.size := by omega
  clear hs hB0; obtain ⟨a0, a1, a2, a3, a4, -⟩ := ha.five; obtain ⟨b0, b1, -, -⟩ := hb.two; obtain ⟨p, HP⟩ : ∃ z', Hid (x * z = z') := ⟨_, hide rfl⟩; obtain ⟨q, HQ⟩ : ∃ z', Hid (y * z = z') := ⟨_, hide rfl⟩; have HL1 : Hid (p.natAbs < W ^ (k + k)) := hide (by rw [← HP.out]; exact jq2 hx.lt hz.lt); have HL2 : Hid (q.natAbs < W ^ (k + k)) := hide (by rw [← HQ.out]; exact jq2 hy.lt hz.lt); rw [HP.out, HQ.out]; obtain ⟨mn, HMN⟩ : ∃ z', Hid (min p q = z') := ⟨_, hide rfl⟩; obtain ⟨mx, HMX⟩ : ∃ z', Hid (max p q = z') := ⟨_, hide rfl⟩; rw [HMN.out, HMX.out]; have HR := hide (jh6 Q0 (hx.at_ HB0) (hy.at_ HB0) (by omega) (by omega)); obtain ⟨rb, HRB⟩ : ∃ b, Hid (rightB x y Q0 = b) := ⟨_, hide rfl⟩; rw [HRB.out] at HR ⊢
  cases rb with
  | false =>
    go_enter Tryz.func16, Tryz.ntmps16
    go_upto_region 1 with (fail)
    rw [← hW]; clear hW
    go_wp2_with fail
    refine HR.out.mono ?_; rintro e w1 ⟨hb1, rfl⟩; have hrs := hrs.below hb1 hrs.lt; have HB1 := hide (HB0.out.trans (hb1.mono HB0.out.size)); obtain ⟨r0, r1, r2, r3, r4, r5, r6, r7, r8, r9⟩ := hrs.five
    go_wp2_with fail
    obtain ⟨W2, hW2, bl, -, kb, -⟩ := jkl hrs (.bool false) (.slice none 0 0) (.bool false) (.slice none 0 0) (.int .i64 0); rw [← hW2]; refine bodyPost_ret (jc2 rfl _ _ _ _ _ _ _ _ _ rfl bl) rfl ⟨kb _ _ HB1.out (by omega), RetE.no⟩
  | true =>
    go_enter Tryz.func16, Tryz.ntmps16
    go_upto_region 1 with (fail)
    rw [← hW]; clear hW
    go_wp2_with fail
    refine HR.out.mono ?_; rintro e w1 ⟨hb1, rfl⟩; have ha := ha.below hb1 ha.lt; have hb := hb.below hb1 hb.lt; have hrs := hrs.below hb1 hrs.lt; have HB1 := hide ((HB0.out.trans (hb1.mono HB0.out.size)).drew); have hs3 : w.heap.size + 3 ≤ w1.heap.size := Nat.le_trans hs2 hb1.size; have HM1 := hide (jmy (hx.at_ HB1) (hz.at_ HB1) (by omega) (by omega)); rw [HP.out] at HM1; clear a0 a1 a2 a3 a4 b0 b1; obtain ⟨a0, a1, a2, a3, a4, -⟩ := ha.five; obtain ⟨b0, b1, -, -⟩ := hb.two; have tok0 : True := trivial
    go_upto_region 4 with (fail)
    go_region_held3 (fun w' => w'.cell? ⟨w.heap.size, 0, none⟩ = some (.bool n0) ∧ w'.cell? ⟨w.heap.size, 1, none⟩ = some (.slice A0 l0 c0) ∧ w'.cell? ⟨w.heap.size, 2, none⟩ = some (.bool n1) ∧ w'.cell? ⟨w.heap.size, 3, none⟩ = some (.slice A1 l1 c1) ∧ w'.cell? ⟨w.heap.size + 1, 0, none⟩ = some (.bool m) ∧ w'.cell? ⟨w.heap.size + 1, 1, none⟩ = some (.slice B j d)) (go_keep)
      (first
        | (go_at_call 44; have _t := tok0; (with_reducible refine HM1.out.mono ?_); rintro e v1 ⟨vb1, u1, d1, rfl, hu1, hd1⟩
           obtain ⟨C1, cc1, rfl⟩ := hu1.form; have ha := ha.drew.below vb1 ha.lt; have hb := hb.drew.below vb1 hb.lt; have hrs := hrs.drew.below vb1 hrs.lt; have HV1 := hide (HB1.out.trans (vb1.mono HB1.out.size)); have vs1 := vb1.size; obtain ⟨a0, a1, a2, a3, a4, -⟩ := ha.five; obtain ⟨b0, b1, -, -⟩ := hb.two; have HM2 := hide (jmy (hy.at_ HV1) (hz.at_ HV1) (by omega) (by omega)); rw [HQ.out] at HM2; clear _t tok0; have tok1 : True := trivial)
        | (go_at_call 44; have _t := tok1; (with_reducible refine HM2.out.mono ?_); rintro e v2 ⟨vb2, u2, d2, rfl, hu2, hd2⟩
           obtain ⟨C2, cc2, rfl⟩ := hu2.form; have ha := ha.below vb2 ha.lt; have hb := hb.below vb2 hb.lt; have hrs := hrs.below vb2 hrs.lt; have hu1 := hu1.below vb2; have HV2 := hide (HV1.out.trans (vb2.mono HV1.out.size)); have vs2 := vb2.size; obtain ⟨a0, a1, a2, a3, a4, -⟩ := ha.five; obtain ⟨b0, b1, -, -⟩ := hb.two))
    have q1 := (RetZ.qb hu1 hd1 HL1.out).mono (show w.heap.size + 3 ≤ _ from hs3); have q2 := (RetZ.qb hu2 hd2 HL2.out).mono (show w.heap.size + 3 ≤ _ from Nat.le_trans hs3 vs1); obtain ⟨W5, hW5, bl, hB5, hs5⟩ := start1 v2 25 #[.bool (decide (p < 0)), .slice C1 d1.length cc1, .bool (decide (q < 0)), .slice C2 d2.length cc2]; have HI := hide (Ints.two bl (q1.below hB5) (q2.below hB5)); have ha := ha.below hB5 ha.lt; have hrs := hrs.below hB5 hrs.lt; have HB5 := hide ((HV2.out.trans (hB5.mono HV2.out.size)).drew); have HID := hide (HI.out.below ((Below.refl _ W5).drew)); have HM := hide (jjj HID.out (by omega) (by omega) (by omega)); clear a0 a1 a2 a3 a4 b0 b1 q1 q2
    go_upto_region 5 with (fail)
    rw [← hW5]; clear hW5; obtain ⟨a0, a1, a2, a3, a4, -⟩ := ha.five
    go_region_held3 (fun w' => w'.cell? ⟨w.heap.size, 4, none⟩ = some (.int .i64 Q0)) (go_keep)
      (first
        | (go_at_call 49; (with_reducible refine HM.out.mono ?_); rintro e w6 ⟨hb6, i, hi, rfl, hmin⟩
           have HI6 := hide (HID.out.below hb6); have ha := ha.drew.below hb6 ha.lt; have hrs := hrs.drew.below hb6 hrs.lt; have HB6 := hide (HB5.out.trans (hb6.mono HB5.out.size)); have HMIN := hide (jm0 hi hmin); have HX := hide (jgg HI6.out (by omega) (by omega) (by omega)); clear hmin; obtain ⟨a0, a1, a2, a3, a4, -⟩ := ha.five)
        | (go_at_call 50; (with_reducible refine HX.out.mono ?_); rintro e w7 ⟨hb7, jj, hj, rfl, hmax⟩
           have HI7 := hide (HI6.out.below hb7); have ha := ha.below hb7 ha.lt; have hrs := hrs.below hb7 hrs.lt; have HB7 := hide (HB6.out.trans (hb7.mono HB6.out.size)); have HMAX := hide (jm1 hj hmax); clear hmax; have q6 := HI7.out.q i hi; have q7 := HI7.out.q jj hj; rw [HMIN.out, HMN.out] at q6; rw [HMAX.out, HMX.out] at q7
           generalize pick (decide (p < 0)) (decide (q < 0)) (decide (q < 0)) (decide (q < 0)) i = N1 at *
           generalize pick (decide (p < 0)) (decide (q < 0)) (decide (q < 0)) (decide (q < 0)) jj = N2 at *
           generalize pick C1 C2 C2 C2 i = D1 at *
           generalize pick C1 C2 C2 C2 jj = D2 at *
           generalize pick d1.length d2.length d2.length d2.length i = L1 at *
           generalize pick d1.length d2.length d2.length d2.length jj = L2 at *
           generalize pick cc1 cc2 cc2 cc2 i = K1 at *
           generalize pick cc1 cc2 cc2 cc2 jj = K2 at *
           have hn1 : ¬ w.heap.size + 2 = w.heap.size := by omega
           have hn2 : ¬ w.heap.size = w.heap.size + 2 := by omega
           obtain ⟨a0, a1, a2, a3, a4, -⟩ := ha.five; obtain ⟨r0, r1, r2, r3, r4, r5, r6, r7, r8, r9⟩ := hrs.five))
    go_wp2_with fail
    obtain ⟨W2, hW2, bl, kq, kb, -⟩ := jkl hrs (.bool N1) (.slice D1 L1 K1) (.bool N2) (.slice D2 L2 K2) (.int .i64 Q0); rw [← hW2]; refine bodyPost_ret (jc2 rfl _ _ _ _ _ _ _ _ _ rfl bl) rfl ⟨kb _ _ HB7.out (by omega), RetE.yes ⟨_, _, _, _, _, _, _, _, rfl, (kq _ _ _ _ _ _ _ (by omega) q6).mono (by omega), (kq _ _ _ _ _ _ _ (by omega) q7).mono (by omega)⟩⟩
end
end
end Go.Proofs.YtgbpnpemigddeaaGreat
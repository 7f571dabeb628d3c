/- ball.Times. -/
import Derived.Test.YtnfbngiabdlclaaGreatBa8
set_option linter.unusedVariables false
set_option linter.unusedSimpArgs false
namespace Go.Proofs.YtnfbngiabdlclaaGreat
open Go.RowKit
open L (val dig nth)

theorem below_allocs (w : World) (o o' : Obj) : Below w.heap.size w ((w.alloc o).alloc o') := ((Below.refl _ _).alloc (Nat.le_refl _) _).alloc (by simp) _
/-- A slice value's limbs stay where another block is written. -/
theorem Nums.set_ne {w : World} {B len cap : Nat} {A : Option Addr} {l : List Nat} (h : Nums w B (.slice A len cap) l) {p : Addr} (hp : 0 < l.length → ∀ b off, A = some ⟨b, off, none⟩ → b ≠ p.block) (u : Value) : Nums (w.setCell p u) B (.slice A len cap) l := by
  obtain ⟨A', cap', h1, h2, h3, h4, h5⟩ := h
  refine ⟨A', cap', h1, ⟨h2.1, fun hB a ha i hi => ?_⟩, h3, h4, fun h0 => ?_⟩
  · obtain ⟨b, off, a1, a2, a3, a4⟩ := h5 (by omega)
    have := h2.2 hB a ha i hi
    cases h1
    rw [a1] at ha
    cases ha
    exact (frozen_block (Below.heap_setCell w p u b (hp (by omega) b off a1)) _).trans this
  obtain ⟨b, off, a1, a2, a3, a4⟩ := h5 h0
  cases h1
  refine ⟨b, off, a1, a2, by simpa [World.setCell] using a3, fun i hi => ?_⟩
  rw [World.cell?_of_block (w := w) (Below.heap_setCell w p u b (hp h0 b off a1))]
  exact a4 i hi
theorem Nums.span {w : World} {B len cap : Nat} {A : Option Addr} {l : List Nat} (h : Nums w B (.slice A len cap) l) : 0 < l.length → ∀ b off, A = some ⟨b, off, none⟩ → B ≤ b ∧ b < w.heap.size := by
  obtain ⟨A', cap', h1, h2, h3, h4, h5⟩ := h
  intro h0 b off hA
  obtain ⟨b', off', a1, a2, a3, a4⟩ := h5 h0
  cases h1
  rw [a1] at hA
  cases hA
  exact ⟨a2, a3⟩
/-- An integer whose limbs lie in neither of two blocks. -/
def QX (w : World) (B k : Nat) (n : Bool) (A : Option Addr) (len cap : Nat) (z : Int) (g g' : Nat) : Prop := ∃ d, Nums w B (.slice A len cap) d ∧ d.length ≤ k ∧ Canon d z.natAbs ∧ n = decide (z < 0) ∧ (0 < d.length → ∀ b off, A = some ⟨b, off, none⟩ → b ≠ g ∧ b ≠ g')
theorem QX.qb {w : World} {B k : Nat} {n : Bool} {A : Option Addr} {len cap : Nat} {z : Int} {g g' : Nat} (h : QX w B k n A len cap z g g') : QB w B k n A len cap z := by
  obtain ⟨d, h1, h2, h3, h4, -⟩ := h
  exact ⟨d, h1, h2, h3, h4⟩
theorem QX.below {w w' : World} {B k : Nat} {n : Bool} {A : Option Addr} {len cap : Nat} {z : Int} {g g' : Nat} (h : QX w B k n A len cap z g g') (hb : Below w.heap.size w w') : QX w' B k n A len cap z g g' := by
  obtain ⟨d, h1, h2, h3, h4, h5⟩ := h
  exact ⟨d, h1.below hb, h2, h3, h4, h5⟩
theorem QX.set2 {w : World} {B k : Nat} {n : Bool} {A : Option Addr} {len cap : Nat} {z : Int} {g g' : Nat} (h : QX w B k n A len cap z g g') {r : Nat} (hr : r = g ∨ r = g') (x y : Value) : QX ((w.setCell ⟨r, 0, none⟩ x).setCell ⟨r, 1, none⟩ y) B k n A len cap z g g' := by
  obtain ⟨d, h1, h2, h3, h4, h5⟩ := h
  have hn : ∀ i, 0 < d.length → ∀ b off, A = some ⟨b, off, none⟩ → b ≠ (⟨r, i, none⟩ : Addr).block := fun i h0 b off ha => by
    have := h5 h0 b off ha
    rcases hr with rfl | rfl
    · exact this.1
    · exact this.2
  exact ⟨d, (h1.set_ne (p := ⟨r, 0, none⟩) (hn 0) x).set_ne (p := ⟨r, 1, none⟩) (hn 1) y, h2, h3, h4, h5⟩
theorem QX.alloc {w : World} {B k : Nat} {n : Bool} {A : Option Addr} {len cap : Nat} {z : Int} {g g' : Nat} (h : QX w B k n A len cap z g g') (o : Obj) : QX (w.alloc o) B k n A len cap z g g' := h.below ((Below.refl _ _).alloc (Nat.le_refl _) _)
theorem RetZ.qx {w : World} {B k : Nat} {A : Option Addr} {c : Nat} {z : Int} {d : List Nat} (hu : Nums w B (.slice A d.length c) d) (hd : Canon d z.natAbs) (hz : z.natAbs < W ^ k) {g g' : Nat} {lo hi : Nat} (hs : 0 < d.length → ∀ b off, A = some ⟨b, off, none⟩ → lo ≤ b ∧ b < hi) (hg : g < lo ∨ hi ≤ g) (hg' : g' < lo ∨ hi ≤ g') {B' : Nat} (hB : B' ≤ B) : QX w B' k (decide (z < 0)) A d.length c z g g' :=
  ⟨d, hu.mono hB, by rw [hd.len]; exact hz, hd, rfl, fun h0 b off ha => by have := hs h0 b off ha; omega⟩
theorem blk_new {w : World} {t : TypeId} {cs : Array Value} {g : Nat} (hg : g = w.heap.size) : Blk (w.alloc (.cells cs t)) g t cs := hg ▸ Blk.new w t cs
theorem below_al {w V : World} {n : Nat} (h : Below n w V) (hn : n ≤ w.heap.size) (o : Obj) : Below n w (V.alloc o) := h.alloc (Nat.le_trans hn h.size) o
/-- What stands while the two boxes of the ends are written. -/
structure Bas (w V : World) (k : Nat) (tb tk : TypeId) (cb ck cr : Array Value) (p q : Int) (C1 : Option Addr) (l1 c1 : Nat) (C2 : Option Addr) (l2 c2 : Nat) (g6 g7 : Nat) : Prop where
  b : Blk V w.heap.size tb cb
  kk : Blk V (w.heap.size + 1) tk ck
  r : Blk V (w.heap.size + 2) tb cr
  low : Below w.heap.size w V
  q1 : QX V (w.heap.size + 3) k (decide (p < 0)) C1 l1 c1 p g6 g7
  q2 : QX V (w.heap.size + 3) k (decide (q < 0)) C2 l2 c2 q g6 g7
  ne : g6 ≠ g7
  h6 : w.heap.size + 3 ≤ g6
  h7 : w.heap.size + 3 ≤ g7
section
variable {w V : World} {k : Nat} {tb tk : TypeId} {cb ck cr : Array Value} {p q : Int} {C1 : Option Addr} {l1 c1 : Nat} {C2 : Option Addr} {l2 c2 : Nat} {g6 g7 : Nat}
theorem Bas.set (h : Bas w V k tb tk cb ck cr p q C1 l1 c1 C2 l2 c2 g6 g7) {r : Nat} (hr : r = g6 ∨ r = g7) (x y : Value) : Bas w ((V.setCell ⟨r, 0, none⟩ x).setCell ⟨r, 1, none⟩ y) k tb tk cb ck cr p q C1 l1 c1 C2 l2 c2 g6 g7 := by
  have h6 := h.h6
  have h7 := h.h7
  exact ⟨blk_far2 h.b (by omega) _ _, blk_far2 h.kk (by omega) _ _, blk_far2 h.r (by omega) _ _, below2 h.low (by omega) _ _, h.q1.set2 hr _ _, h.q2.set2 hr _ _, h.ne, h6, h7⟩
theorem Bas.alloc (h : Bas w V k tb tk cb ck cr p q C1 l1 c1 C2 l2 c2 g6 g7) (o : Obj) : Bas w (V.alloc o) k tb tk cb ck cr p q C1 l1 c1 C2 l2 c2 g6 g7 :=
  ⟨h.b.alloc _, h.kk.alloc _, h.r.alloc _, h.low.alloc h.low.size _, h.q1.alloc _, h.q2.alloc _, h.ne, h.h6, h.h7⟩
theorem Bas.below {V' : World} (h : Bas w V k tb tk cb ck cr p q C1 l1 c1 C2 l2 c2 g6 g7) (hb : Below V.heap.size V V') : Bas w V' k tb tk cb ck cr p q C1 l1 c1 C2 l2 c2 g6 g7 :=
  ⟨h.b.below hb h.b.lt, h.kk.below hb h.kk.lt, h.r.below hb h.r.lt, h.low.trans (hb.mono h.low.size), h.q1.below hb, h.q2.below hb, h.ne, h.h6, h.h7⟩
def Bot (w V : World) (k : Nat) (tb tk : TypeId) (cb ck cr : Array Value) (p q : Int) (C1 : Option Addr) (l1 c1 : Nat) (C2 : Option Addr) (l2 c2 : Nat) (g6 g7 : Nat) : Prop :=
  Bas w V k tb tk cb ck cr p q C1 l1 c1 C2 l2 c2 g6 g7 ∧ Blk V g6 tk #[.bool (decide (p < 0)), .slice C1 l1 c1] ∧ Blk V g7 tk #[.bool (decide (q < 0)), .slice C2 l2 c2]
theorem f_four (h : Bas w V k tb tk cb ck cr p q C1 l1 c1 C2 l2 c2 g6 g7) {a b c d : Value} (h6 : Blk V g6 tk #[a, b]) (h7 : Blk V g7 tk #[c, d]) :
    Bot w ((((V.setCell ⟨g6, 0, none⟩ (.bool (decide (p < 0)))).setCell ⟨g6, 1, none⟩ (.slice C1 l1 c1)).setCell ⟨g7, 0, none⟩ (.bool (decide (q < 0)))).setCell ⟨g7, 1, none⟩ (.slice C2 l2 c2)) k tb tk cb ck cr p q C1 l1 c1 C2 l2 c2 g6 g7 :=
  ⟨(h.set (Or.inl rfl) _ _).set (Or.inr rfl) _ _, blk_far2 (blk_two h6) h.ne _ _, blk_two (blk_far2 h7 (Ne.symm h.ne) _ _)⟩
theorem f_sa (h : Bas w V k tb tk cb ck cr p q C1 l1 c1 C2 l2 c2 g6 g7) {a b : Value} (h6 : Blk V g6 tk #[a, b]) (h7 : g7 = V.heap.size) :
    Bot w (((V.setCell ⟨g6, 0, none⟩ (.bool (decide (p < 0)))).setCell ⟨g6, 1, none⟩ (.slice C1 l1 c1)).alloc (.cells #[.bool (decide (q < 0)), .slice C2 l2 c2] tk)) k tb tk cb ck cr p q C1 l1 c1 C2 l2 c2 g6 g7 :=
  ⟨(h.set (Or.inl rfl) _ _).alloc _, (blk_two h6).alloc _, blk_new (by rw [h7]; simp)⟩
theorem f_sa' (h : Bas w V k tb tk cb ck cr p q C1 l1 c1 C2 l2 c2 g6 g7) {a b : Value} (h7 : Blk V g7 tk #[a, b]) (h6 : g6 = V.heap.size) :
    Bot w (((V.setCell ⟨g7, 0, none⟩ (.bool (decide (q < 0)))).setCell ⟨g7, 1, none⟩ (.slice C2 l2 c2)).alloc (.cells #[.bool (decide (p < 0)), .slice C1 l1 c1] tk)) k tb tk cb ck cr p q C1 l1 c1 C2 l2 c2 g6 g7 :=
  ⟨(h.set (Or.inr rfl) _ _).alloc _, blk_new (by rw [h6]; simp), (blk_two h7).alloc _⟩
theorem f_as (h : Bas w V k tb tk cb ck cr p q C1 l1 c1 C2 l2 c2 g6 g7) {a b : Value} (h7 : Blk V g7 tk #[a, b]) (h6 : g6 = V.heap.size) :
    Bot w (((V.alloc (.cells #[.bool (decide (p < 0)), .slice C1 l1 c1] tk)).setCell ⟨g7, 0, none⟩ (.bool (decide (q < 0)))).setCell ⟨g7, 1, none⟩ (.slice C2 l2 c2)) k tb tk cb ck cr p q C1 l1 c1 C2 l2 c2 g6 g7 :=
  ⟨(h.alloc _).set (Or.inr rfl) _ _, blk_far2 (blk_new h6) h.ne _ _, blk_two (h7.alloc _)⟩
theorem f_aa (h : Bas w V k tb tk cb ck cr p q C1 l1 c1 C2 l2 c2 g6 g7) (h6 : g6 = V.heap.size) (h7 : g7 = V.heap.size + 1) :
    Bot w ((V.alloc (.cells #[.bool (decide (p < 0)), .slice C1 l1 c1] tk)).alloc (.cells #[.bool (decide (q < 0)), .slice C2 l2 c2] tk)) k tb tk cb ck cr p q C1 l1 c1 C2 l2 c2 g6 g7 :=
  ⟨(h.alloc _).alloc _, (blk_new h6).alloc _, blk_new (by rw [h7]; simp)⟩
theorem f_aa' (h : Bas w V k tb tk cb ck cr p q C1 l1 c1 C2 l2 c2 g6 g7) (h7 : g7 = V.heap.size) (h6 : g6 = V.heap.size + 1) :
    Bot w ((V.alloc (.cells #[.bool (decide (q < 0)), .slice C2 l2 c2] tk)).alloc (.cells #[.bool (decide (p < 0)), .slice C1 l1 c1] tk)) k tb tk cb ck cr p q C1 l1 c1 C2 l2 c2 g6 g7 :=
  ⟨(h.alloc _).alloc _, blk_new (by rw [h6]; simp), (blk_new h7).alloc _⟩
end
theorem sign_nn {z : Int} (h : ¬ z < 0) : ¬ z.sign < 0 := by
  rcases (show z = 0 ∨ 0 < z by omega) with h | h
  · rw [h]; decide
  · rw [Int.sign_eq_one_of_pos h]; decide
theorem size_al (w : World) (o : Obj) : (w.alloc o).heap.size = w.heap.size + 1 := by simp
theorem size_al2 (w : World) (o o' : Obj) : ((w.alloc o).alloc o').heap.size = w.heap.size + 2 := by simp
set_option maxHeartbeats 8000000 in
set_option maxRecDepth 100000 in
theorem times_calls {w : World} {k : Nat} {n0 n1 m : Bool} {A0 A1 B : Option Addr} {l0 l1 j c0 c1 d : Nat} {x y z : Int} (Q0 : Int) (hx : Q w k n0 A0 l0 c0 x) (hy : Q w k n1 A1 l1 c1 y) (hz : Q w k m B j d z) (hk : k ≤ 400) :
    Calls Tryz.prog 30 #[.agg #[.bool n0, .slice A0 l0 c0, .bool n1, .slice A1 l1 c1, .int .i64 Q0], .agg #[.bool m, .slice B j d]] w fun e w' => Below w.heap.size w w' ∧ RetE w.heap.size (k + k) (rightB x y Q0) (min (x * z) (y * z)) (max (x * z) (y * z)) Q0 1 e w' := by
  obtain ⟨W0, hW, ha, hb, hrs, hB0, hs⟩ := start3 w 27 25 27 #[.bool n0, .slice A0 l0 c0, .bool n1, .slice A1 l1 c1, .int .i64 Q0] #[.bool m, .slice B j d] #[.bool false, .slice none 0 0, .bool false, .slice none 0 0, .int .i64 0]
  have HB0 := hide hB0
  have hs2 : w.heap.size + 3 ≤ W0.heap.size := by omega
  clear hs hB0
  obtain ⟨a0, a1, a2, a3, a4, -⟩ := ha.five
  obtain ⟨b0, b1, -, -⟩ := hb.two
  have HXY : Hid (rightB x y Q0 = true → x ≤ y) := hide (fun h => by unfold rightB at h; rw [Bool.and_eq_true] at h; exact of_decide_eq_true h.2)
  obtain ⟨p, HP⟩ : ∃ z', Hid (x * z = z') := ⟨_, hide rfl⟩
  obtain ⟨q, HQ⟩ : ∃ z', Hid (y * z = z') := ⟨_, hide rfl⟩
  have HL1 : Hid (p.natAbs < W ^ (k + k)) := hide (by rw [← HP.out]; exact mul_lt hx.lt hz.lt)
  have HL2 : Hid (q.natAbs < W ^ (k + k)) := hide (by rw [← HQ.out]; exact mul_lt hy.lt hz.lt)
  have HPQ : Hid (x ≤ y → (z < 0 → q ≤ p) ∧ (¬ z < 0 → p ≤ q)) := hide (fun h => ⟨fun hz => by rw [← HP.out, ← HQ.out]; exact Int.mul_le_mul_of_nonpos_right h (by omega), fun hz => by rw [← HP.out, ← HQ.out]; exact Int.mul_le_mul_of_nonneg_right h (by omega)⟩)
  rw [HP.out, HQ.out]
  have HR := hide (right_calls Q0 (hx.at_ HB0) (hy.at_ HB0) (by omega) (by omega))
  obtain ⟨rb, HRB⟩ : ∃ b, Hid (rightB x y Q0 = b) := ⟨_, hide rfl⟩
  rw [HRB.out] at HR HXY ⊢
  obtain ⟨mn, HMN⟩ : ∃ z', Hid (min p q = z') := ⟨_, hide rfl⟩
  obtain ⟨mx, HMX⟩ : ∃ z', Hid (max p q = z') := ⟨_, hide rfl⟩
  rw [HMN.out, HMX.out]
  cases rb with
  | false =>
    clear HXY
    go_enter Tryz.func30, Tryz.ntmps30
    go_upto_region 1 with (fail)
    rw [← hW]
    clear hW
    go_wp2_with fail
    refine HR.out.mono ?_
    rintro e w1 ⟨hb1, rfl⟩
    have hrs := hrs.below hb1 hrs.lt
    have HB1 := hide (HB0.out.trans (hb1.mono HB0.out.size))
    obtain ⟨r0, r1, r2, r3, r4, r5, r6, r7, r8, r9⟩ := hrs.five
    go_wp2_with fail
    obtain ⟨W2, hW2, bl, -, kb, -⟩ := set5_all hrs (.bool false) (.slice none 0 0) (.bool false) (.slice none 0 0) (.int .i64 0)
    rw [← hW2]
    refine bodyPost_ret (results_ball_tmp rfl _ _ _ _ _ _ _ _ _ rfl bl) rfl ⟨kb _ _ HB1.out (by omega), RetE.no⟩
  | true =>
    have hxy := HPQ.out (HXY.out rfl)
    have HXX := hide hxy
    clear HXY HPQ hxy
    go_enter Tryz.func30, Tryz.ntmps30
    go_upto_region 1 with (fail)
    rw [← hW]
    clear hW
    go_wp2_with fail
    refine HR.out.mono ?_
    rintro e w1 ⟨hb1, rfl⟩
    have ha := ha.below hb1 ha.lt
    have hb := hb.below hb1 hb.lt
    have hrs := hrs.below hb1 hrs.lt
    have HB1 := hide (HB0.out.trans (hb1.mono HB0.out.size))
    have hs3 : w.heap.size + 3 ≤ w1.heap.size := Nat.le_trans hs2 hb1.size
    clear a0 a1 a2 a3 a4 b0 b1
    obtain ⟨a0, a1, a2, a3, a4, -⟩ := ha.five
    obtain ⟨b0, b1, -, -⟩ := hb.two
    go_upto_region 3 with (fail)
    go_cut [6, 7] (fun s6 s7 wx => ∃ g6 g7 D1 L1 K1 D2 L2 K2, s6 = .pointer (some ⟨g6, 0, none⟩) ∧ s7 = .pointer (some ⟨g7, 0, none⟩) ∧ Bot w wx (k + k) 27 25 #[.bool n0, .slice A0 l0 c0, .bool n1, .slice A1 l1 c1, .int .i64 Q0] #[.bool m, .slice B j d] #[.bool false, .slice none 0 0, .bool false, .slice none 0 0, .int .i64 0] p q D1 L1 K1 D2 L2 K2 g6 g7)
    case first =>
      have hw1 : Below w.heap.size w w1 := HB1.out
      have hE0 : Below w1.heap.size w1 w1.drew := (Below.refl w1.heap.size w1).drew
      have HE0 := hide (HB1.out.trans (hE0.mono HB1.out.size))
      have HMa0 := hide (c_zmul (hx.at_ HE0) (hz.at_ HE0) (by omega) (by omega))
      rw [HP.out] at HMa0
      have hE1 : Below w1.heap.size w1 (w1.alloc (.cells #[.bool false, .slice none 0 0] 25)).drew := ((Below.refl w1.heap.size w1).alloc (Nat.le_refl _) (.cells #[.bool false, .slice none 0 0] 25)).drew
      have HE1 := hide (HB1.out.trans (hE1.mono HB1.out.size))
      have HMa1 := hide (c_zmul (hx.at_ HE1) (hz.at_ HE1) (by omega) (by omega))
      rw [HP.out] at HMa1
      have hE2 : Below w1.heap.size w1 ((w1.alloc (.cells #[.bool false, .slice none 0 0] 25)).alloc (.cells #[.bool false, .slice none 0 0] 25)).drew := (below_allocs w1 (.cells #[.bool false, .slice none 0 0] 25) (.cells #[.bool false, .slice none 0 0] 25)).drew
      have HE2 := hide (HB1.out.trans (hE2.mono HB1.out.size))
      have HMa2 := hide (c_zmul (hx.at_ HE2) (hz.at_ HE2) (by omega) (by omega))
      rw [HP.out] at HMa2
      have za1_1 : Blk (w1.alloc (.cells #[.bool false, .slice none 0 0] 25)).drew w1.heap.size 25 #[.bool false, .slice none 0 0] := Blk.new w1 _ _
      have za1_2 : Blk ((w1.alloc (.cells #[.bool false, .slice none 0 0] 25)).alloc (.cells #[.bool false, .slice none 0 0] 25)).drew w1.heap.size 25 #[.bool false, .slice none 0 0] := (Blk.new w1 _ _).alloc _
      have za2_2 : Blk ((w1.alloc (.cells #[.bool false, .slice none 0 0] 25)).alloc (.cells #[.bool false, .slice none 0 0] 25)).drew (w1.heap.size + 1) 25 #[.bool false, .slice none 0 0] := by have h := Blk.new (w1.alloc (.cells #[.bool false, .slice none 0 0] 25)) 25 #[.bool false, .slice none 0 0]; rw [size_al] at h; exact h
      have tok0 : True := trivial
      go_region_held3 (fun w' => w'.cell? ⟨w.heap.size, 0, none⟩ = some (.bool n0) ∧ w'.cell? ⟨w.heap.size, 1, none⟩ = some (.slice A0 l0 c0) ∧ w'.cell? ⟨w.heap.size, 2, none⟩ = some (.bool n1) ∧ w'.cell? ⟨w.heap.size, 3, none⟩ = some (.slice A1 l1 c1) ∧ w'.cell? ⟨w.heap.size + 1, 0, none⟩ = some (.bool m) ∧ w'.cell? ⟨w.heap.size + 1, 1, none⟩ = some (.slice B j d)) (go_keep)
        (first
          | (go_at_call 67; have _t := tok0; (with_reducible refine HMa0.out.mono ?_); rintro e v1 ⟨vb1, u1, d1, rfl, hu1, hd1⟩
             obtain ⟨C1, cc1, rfl⟩ := hu1.form
             have hz1 : w1.drew.heap.size = w1.heap.size + 0 := by simp
             have sp1 := hide hu1.span
             rw [hz1] at sp1
             have hu1 := hu1.mono (show w.heap.size + 3 ≤ _ by rw [hz1]; omega)
             clear hz1
             have ha := (ha.below hE0 ha.lt).below vb1 (Nat.lt_of_lt_of_le ha.lt hE0.size)
             have hb := (hb.below hE0 hb.lt).below vb1 (Nat.lt_of_lt_of_le hb.lt hE0.size)
             have hrs := (hrs.below hE0 hrs.lt).below vb1 (Nat.lt_of_lt_of_le hrs.lt hE0.size)
             have HV1 := hide (HE0.out.trans (vb1.mono HE0.out.size))
             have vs1 : w1.heap.size ≤ v1.heap.size := Nat.le_trans hE0.size vb1.size
             have hF0 : Below v1.heap.size v1 v1 := (Below.refl v1.heap.size v1)
             have HF0 := hide (HV1.out.trans (hF0.mono HV1.out.size))
             have HMb0 := hide (c_zmul (hy.at_ HF0) (hz.at_ HF0) (by omega) (by omega))
             rw [HQ.out] at HMb0
             have hF1 : Below v1.heap.size v1 (v1.alloc (.cells #[.bool false, .slice none 0 0] 25)) := ((Below.refl v1.heap.size v1).alloc (Nat.le_refl _) (.cells #[.bool false, .slice none 0 0] 25))
             have HF1 := hide (HV1.out.trans (hF1.mono HV1.out.size))
             have HMb1 := hide (c_zmul (hy.at_ HF1) (hz.at_ HF1) (by omega) (by omega))
             rw [HQ.out] at HMb1
             have hF2 : Below v1.heap.size v1 ((v1.alloc (.cells #[.bool false, .slice none 0 0] 25)).alloc (.cells #[.bool false, .slice none 0 0] 25)) := (below_allocs v1 (.cells #[.bool false, .slice none 0 0] 25) (.cells #[.bool false, .slice none 0 0] 25))
             have HF2 := hide (HV1.out.trans (hF2.mono HV1.out.size))
             have HMb2 := hide (c_zmul (hy.at_ HF2) (hz.at_ HF2) (by omega) (by omega))
             rw [HQ.out] at HMb2
             have zb1_1 : Blk (v1.alloc (.cells #[.bool false, .slice none 0 0] 25)) v1.heap.size 25 #[.bool false, .slice none 0 0] := Blk.new v1 _ _
             have zb1_2 : Blk ((v1.alloc (.cells #[.bool false, .slice none 0 0] 25)).alloc (.cells #[.bool false, .slice none 0 0] 25)) v1.heap.size 25 #[.bool false, .slice none 0 0] := (Blk.new v1 _ _).alloc _
             have zb2_2 : Blk ((v1.alloc (.cells #[.bool false, .slice none 0 0] 25)).alloc (.cells #[.bool false, .slice none 0 0] 25)) (v1.heap.size + 1) 25 #[.bool false, .slice none 0 0] := (by have h := Blk.new (v1.alloc (.cells #[.bool false, .slice none 0 0] 25)) 25 #[.bool false, .slice none 0 0]; rw [size_al] at h; exact h)
             obtain ⟨a0, a1, a2, a3, a4, -⟩ := ha.five
             obtain ⟨b0, b1, -, -⟩ := hb.two
             clear _t tok0
             have tok1 : True := trivial)
          | (go_at_call 67; have _t := tok0; (with_reducible refine HMa1.out.mono ?_); rintro e v1 ⟨vb1, u1, d1, rfl, hu1, hd1⟩
             obtain ⟨C1, cc1, rfl⟩ := hu1.form
             have hz1 : (w1.alloc (.cells #[.bool false, .slice none 0 0] 25)).drew.heap.size = w1.heap.size + 1 := by simp
             have sp1 := hide hu1.span
             rw [hz1] at sp1
             have hu1 := hu1.mono (show w.heap.size + 3 ≤ _ by rw [hz1]; omega)
             clear hz1
             have ha := (ha.below hE1 ha.lt).below vb1 (Nat.lt_of_lt_of_le ha.lt hE1.size)
             have hb := (hb.below hE1 hb.lt).below vb1 (Nat.lt_of_lt_of_le hb.lt hE1.size)
             have hrs := (hrs.below hE1 hrs.lt).below vb1 (Nat.lt_of_lt_of_le hrs.lt hE1.size)
             have za1 := za1_1.below vb1 za1_1.lt
             have HV1 := hide (HE1.out.trans (vb1.mono HE1.out.size))
             have vs1 : w1.heap.size ≤ v1.heap.size := Nat.le_trans hE1.size vb1.size
             have vz1 : w1.heap.size < v1.heap.size := za1.lt
             have hF0 : Below v1.heap.size v1 v1 := (Below.refl v1.heap.size v1)
             have HF0 := hide (HV1.out.trans (hF0.mono HV1.out.size))
             have HMb0 := hide (c_zmul (hy.at_ HF0) (hz.at_ HF0) (by omega) (by omega))
             rw [HQ.out] at HMb0
             have hF1 : Below v1.heap.size v1 (v1.alloc (.cells #[.bool false, .slice none 0 0] 25)) := ((Below.refl v1.heap.size v1).alloc (Nat.le_refl _) (.cells #[.bool false, .slice none 0 0] 25))
             have HF1 := hide (HV1.out.trans (hF1.mono HV1.out.size))
             have HMb1 := hide (c_zmul (hy.at_ HF1) (hz.at_ HF1) (by omega) (by omega))
             rw [HQ.out] at HMb1
             have hF2 : Below v1.heap.size v1 ((v1.alloc (.cells #[.bool false, .slice none 0 0] 25)).alloc (.cells #[.bool false, .slice none 0 0] 25)) := (below_allocs v1 (.cells #[.bool false, .slice none 0 0] 25) (.cells #[.bool false, .slice none 0 0] 25))
             have HF2 := hide (HV1.out.trans (hF2.mono HV1.out.size))
             have HMb2 := hide (c_zmul (hy.at_ HF2) (hz.at_ HF2) (by omega) (by omega))
             rw [HQ.out] at HMb2
             have zb1_1 : Blk (v1.alloc (.cells #[.bool false, .slice none 0 0] 25)) v1.heap.size 25 #[.bool false, .slice none 0 0] := Blk.new v1 _ _
             have zb1_2 : Blk ((v1.alloc (.cells #[.bool false, .slice none 0 0] 25)).alloc (.cells #[.bool false, .slice none 0 0] 25)) v1.heap.size 25 #[.bool false, .slice none 0 0] := (Blk.new v1 _ _).alloc _
             have zb2_2 : Blk ((v1.alloc (.cells #[.bool false, .slice none 0 0] 25)).alloc (.cells #[.bool false, .slice none 0 0] 25)) (v1.heap.size + 1) 25 #[.bool false, .slice none 0 0] := (by have h := Blk.new (v1.alloc (.cells #[.bool false, .slice none 0 0] 25)) 25 #[.bool false, .slice none 0 0]; rw [size_al] at h; exact h)
             obtain ⟨a0, a1, a2, a3, a4, -⟩ := ha.five
             obtain ⟨b0, b1, -, -⟩ := hb.two
             clear _t tok0
             have tok1 : True := trivial)
          | (go_at_call 67; have _t := tok0; (with_reducible refine HMa2.out.mono ?_); rintro e v1 ⟨vb1, u1, d1, rfl, hu1, hd1⟩
             obtain ⟨C1, cc1, rfl⟩ := hu1.form
             have hz1 : ((w1.alloc (.cells #[.bool false, .slice none 0 0] 25)).alloc (.cells #[.bool false, .slice none 0 0] 25)).drew.heap.size = w1.heap.size + 2 := by simp
             have sp1 := hide hu1.span
             rw [hz1] at sp1
             have hu1 := hu1.mono (show w.heap.size + 3 ≤ _ by rw [hz1]; omega)
             clear hz1
             have ha := (ha.below hE2 ha.lt).below vb1 (Nat.lt_of_lt_of_le ha.lt hE2.size)
             have hb := (hb.below hE2 hb.lt).below vb1 (Nat.lt_of_lt_of_le hb.lt hE2.size)
             have hrs := (hrs.below hE2 hrs.lt).below vb1 (Nat.lt_of_lt_of_le hrs.lt hE2.size)
             have za1 := za1_2.below vb1 za1_2.lt
             have za2 := za2_2.below vb1 za2_2.lt
             have HV1 := hide (HE2.out.trans (vb1.mono HE2.out.size))
             have vs1 : w1.heap.size ≤ v1.heap.size := Nat.le_trans hE2.size vb1.size
             have vz1 : w1.heap.size < v1.heap.size := za1.lt
             have vz2 : w1.heap.size + 1 < v1.heap.size := za2.lt
             have hF0 : Below v1.heap.size v1 v1 := (Below.refl v1.heap.size v1)
             have HF0 := hide (HV1.out.trans (hF0.mono HV1.out.size))
             have HMb0 := hide (c_zmul (hy.at_ HF0) (hz.at_ HF0) (by omega) (by omega))
             rw [HQ.out] at HMb0
             have hF1 : Below v1.heap.size v1 (v1.alloc (.cells #[.bool false, .slice none 0 0] 25)) := ((Below.refl v1.heap.size v1).alloc (Nat.le_refl _) (.cells #[.bool false, .slice none 0 0] 25))
             have HF1 := hide (HV1.out.trans (hF1.mono HV1.out.size))
             have HMb1 := hide (c_zmul (hy.at_ HF1) (hz.at_ HF1) (by omega) (by omega))
             rw [HQ.out] at HMb1
             have hF2 : Below v1.heap.size v1 ((v1.alloc (.cells #[.bool false, .slice none 0 0] 25)).alloc (.cells #[.bool false, .slice none 0 0] 25)) := (below_allocs v1 (.cells #[.bool false, .slice none 0 0] 25) (.cells #[.bool false, .slice none 0 0] 25))
             have HF2 := hide (HV1.out.trans (hF2.mono HV1.out.size))
             have HMb2 := hide (c_zmul (hy.at_ HF2) (hz.at_ HF2) (by omega) (by omega))
             rw [HQ.out] at HMb2
             have zb1_1 : Blk (v1.alloc (.cells #[.bool false, .slice none 0 0] 25)) v1.heap.size 25 #[.bool false, .slice none 0 0] := Blk.new v1 _ _
             have zb1_2 : Blk ((v1.alloc (.cells #[.bool false, .slice none 0 0] 25)).alloc (.cells #[.bool false, .slice none 0 0] 25)) v1.heap.size 25 #[.bool false, .slice none 0 0] := (Blk.new v1 _ _).alloc _
             have zb2_2 : Blk ((v1.alloc (.cells #[.bool false, .slice none 0 0] 25)).alloc (.cells #[.bool false, .slice none 0 0] 25)) (v1.heap.size + 1) 25 #[.bool false, .slice none 0 0] := (by have h := Blk.new (v1.alloc (.cells #[.bool false, .slice none 0 0] 25)) 25 #[.bool false, .slice none 0 0]; rw [size_al] at h; exact h)
             obtain ⟨a0, a1, a2, a3, a4, -⟩ := ha.five
             obtain ⟨b0, b1, -, -⟩ := hb.two
             clear _t tok0
             have tok1 : True := trivial)
          | (go_at_call 67; have _t := tok1; (with_reducible refine HMb0.out.mono ?_); rintro e v2 ⟨vb2, u2, d2, rfl, hu2, hd2⟩
             obtain ⟨C2, cc2, rfl⟩ := hu2.form
             have hz2 : v1.heap.size = v1.heap.size + 0 := by simp
             have sp2 := hide hu2.span
             rw [hz2] at sp2
             have hu2 := hu2.mono (show w.heap.size + 3 ≤ _ by rw [hz2]; omega)
             clear hz2
             have ha := (ha.below hF0 ha.lt).below vb2 (Nat.lt_of_lt_of_le ha.lt hF0.size)
             have hb := (hb.below hF0 hb.lt).below vb2 (Nat.lt_of_lt_of_le hb.lt hF0.size)
             have hrs := (hrs.below hF0 hrs.lt).below vb2 (Nat.lt_of_lt_of_le hrs.lt hF0.size)
             (try have za1 := (za1.below hF0 za1.lt).below vb2 (Nat.lt_of_lt_of_le za1.lt hF0.size))
             (try have za2 := (za2.below hF0 za2.lt).below vb2 (Nat.lt_of_lt_of_le za2.lt hF0.size))
             have hu1 := (hu1.below hF0).below vb2
             have HV2 := hide (HF0.out.trans (vb2.mono HF0.out.size))
             have vs2 : v1.heap.size ≤ v2.heap.size := Nat.le_trans hF0.size vb2.size
             (try obtain ⟨p0, p1, p2, p3⟩ := za1.two)
             (try have p4 := fun o => (za1.alloc o).two.1)
             (try have p5 := fun o => (za1.alloc o).two.2.1)
             (try have p6 := fun o => (za1.alloc o).two.2.2.1)
             (try have p7 := fun o => (za1.alloc o).two.2.2.2)
             (try obtain ⟨r0, r1, r2, r3⟩ := za2.two)
             (try have r4 := fun o => (za2.alloc o).two.1)
             (try have r5 := fun o => (za2.alloc o).two.2.1)
             (try have r6 := fun o => (za2.alloc o).two.2.2.1)
             (try have r7 := fun o => (za2.alloc o).two.2.2.2)
             (try obtain ⟨s0, s1, s2, s3⟩ := zb1.two)
             (try have s4 := fun o => (zb1.alloc o).two.1)
             (try have s5 := fun o => (zb1.alloc o).two.2.1)
             (try have s6 := fun o => (zb1.alloc o).two.2.2.1)
             (try have s7 := fun o => (zb1.alloc o).two.2.2.2)
             (try obtain ⟨t0, t1, t2, t3⟩ := zb2.two)
             (try have t4 := fun o => (zb2.alloc o).two.1)
             (try have t5 := fun o => (zb2.alloc o).two.2.1)
             (try have t6 := fun o => (zb2.alloc o).two.2.2.1)
             (try have t7 := fun o => (zb2.alloc o).two.2.2.2)
             (try have hq01 : ¬ w1.heap.size = w1.heap.size + 1 := by omega)
             (try have hq02 : ¬ w1.heap.size = v1.heap.size := by omega)
             (try have hq03 : ¬ w1.heap.size = v1.heap.size + 1 := by omega)
             (try have hq04 : ¬ w1.heap.size = v2.heap.size := by omega)
             (try have hq05 : ¬ w1.heap.size = v2.heap.size + 1 := by omega)
             (try have hq10 : ¬ w1.heap.size + 1 = w1.heap.size := by omega)
             (try have hq12 : ¬ w1.heap.size + 1 = v1.heap.size := by omega)
             (try have hq13 : ¬ w1.heap.size + 1 = v1.heap.size + 1 := by omega)
             (try have hq14 : ¬ w1.heap.size + 1 = v2.heap.size := by omega)
             (try have hq15 : ¬ w1.heap.size + 1 = v2.heap.size + 1 := by omega)
             (try have hq20 : ¬ v1.heap.size = w1.heap.size := by omega)
             (try have hq21 : ¬ v1.heap.size = w1.heap.size + 1 := by omega)
             (try have hq23 : ¬ v1.heap.size = v1.heap.size + 1 := by omega)
             (try have hq24 : ¬ v1.heap.size = v2.heap.size := by omega)
             (try have hq25 : ¬ v1.heap.size = v2.heap.size + 1 := by omega)
             (try have hq30 : ¬ v1.heap.size + 1 = w1.heap.size := by omega)
             (try have hq31 : ¬ v1.heap.size + 1 = w1.heap.size + 1 := by omega)
             (try have hq32 : ¬ v1.heap.size + 1 = v1.heap.size := by omega)
             (try have hq34 : ¬ v1.heap.size + 1 = v2.heap.size := by omega)
             (try have hq35 : ¬ v1.heap.size + 1 = v2.heap.size + 1 := by omega)
             (try have hq40 : ¬ v2.heap.size = w1.heap.size := by omega)
             (try have hq41 : ¬ v2.heap.size = w1.heap.size + 1 := by omega)
             (try have hq42 : ¬ v2.heap.size = v1.heap.size := by omega)
             (try have hq43 : ¬ v2.heap.size = v1.heap.size + 1 := by omega)
             (try have hq45 : ¬ v2.heap.size = v2.heap.size + 1 := by omega)
             (try have hq50 : ¬ v2.heap.size + 1 = w1.heap.size := by omega)
             (try have hq51 : ¬ v2.heap.size + 1 = w1.heap.size + 1 := by omega)
             (try have hq52 : ¬ v2.heap.size + 1 = v1.heap.size := by omega)
             (try have hq53 : ¬ v2.heap.size + 1 = v1.heap.size + 1 := by omega)
             (try have hq54 : ¬ v2.heap.size + 1 = v2.heap.size := by omega)
             have hn00 : ¬ w1.heap.size = w.heap.size := by omega
             have hm00 : ¬ w.heap.size = w1.heap.size := by omega
             have hn01 : ¬ w1.heap.size = w.heap.size + 1 := by omega
             have hm01 : ¬ w.heap.size + 1 = w1.heap.size := by omega
             have ho0 : ¬ w1.heap.size = w.heap.size + 2 := by omega
             have hn10 : ¬ w1.heap.size + 1 = w.heap.size := by omega
             have hm10 : ¬ w.heap.size = w1.heap.size + 1 := by omega
             have hn11 : ¬ w1.heap.size + 1 = w.heap.size + 1 := by omega
             have hm11 : ¬ w.heap.size + 1 = w1.heap.size + 1 := by omega
             have ho1 : ¬ w1.heap.size + 1 = w.heap.size + 2 := by omega
             have hn20 : ¬ v1.heap.size = w.heap.size := by omega
             have hm20 : ¬ w.heap.size = v1.heap.size := by omega
             have hn21 : ¬ v1.heap.size = w.heap.size + 1 := by omega
             have hm21 : ¬ w.heap.size + 1 = v1.heap.size := by omega
             have ho2 : ¬ v1.heap.size = w.heap.size + 2 := by omega
             have hn30 : ¬ v1.heap.size + 1 = w.heap.size := by omega
             have hm30 : ¬ w.heap.size = v1.heap.size + 1 := by omega
             have hn31 : ¬ v1.heap.size + 1 = w.heap.size + 1 := by omega
             have hm31 : ¬ w.heap.size + 1 = v1.heap.size + 1 := by omega
             have ho3 : ¬ v1.heap.size + 1 = w.heap.size + 2 := by omega
             have hn40 : ¬ v2.heap.size = w.heap.size := by omega
             have hm40 : ¬ w.heap.size = v2.heap.size := by omega
             have hn41 : ¬ v2.heap.size = w.heap.size + 1 := by omega
             have hm41 : ¬ w.heap.size + 1 = v2.heap.size := by omega
             have ho4 : ¬ v2.heap.size = w.heap.size + 2 := by omega
             have hn50 : ¬ v2.heap.size + 1 = w.heap.size := by omega
             have hm50 : ¬ w.heap.size = v2.heap.size + 1 := by omega
             have hn51 : ¬ v2.heap.size + 1 = w.heap.size + 1 := by omega
             have hm51 : ¬ w.heap.size + 1 = v2.heap.size + 1 := by omega
             have ho5 : ¬ v2.heap.size + 1 = w.heap.size + 2 := by omega
             have hq1 : ¬ w1.heap.size = w.heap.size + 1 + 1 := by omega
             obtain ⟨a0, a1, a2, a3, a4, -⟩ := ha.five
             obtain ⟨b0, b1, -, -⟩ := hb.two
             clear _t tok1
             have tok2 : True := trivial)
          | (go_at_call 67; have _t := tok1; (with_reducible refine HMb1.out.mono ?_); rintro e v2 ⟨vb2, u2, d2, rfl, hu2, hd2⟩
             obtain ⟨C2, cc2, rfl⟩ := hu2.form
             have hz2 : (v1.alloc (.cells #[.bool false, .slice none 0 0] 25)).heap.size = v1.heap.size + 1 := by simp
             have sp2 := hide hu2.span
             rw [hz2] at sp2
             have hu2 := hu2.mono (show w.heap.size + 3 ≤ _ by rw [hz2]; omega)
             clear hz2
             have ha := (ha.below hF1 ha.lt).below vb2 (Nat.lt_of_lt_of_le ha.lt hF1.size)
             have hb := (hb.below hF1 hb.lt).below vb2 (Nat.lt_of_lt_of_le hb.lt hF1.size)
             have hrs := (hrs.below hF1 hrs.lt).below vb2 (Nat.lt_of_lt_of_le hrs.lt hF1.size)
             (try have za1 := (za1.below hF1 za1.lt).below vb2 (Nat.lt_of_lt_of_le za1.lt hF1.size))
             (try have za2 := (za2.below hF1 za2.lt).below vb2 (Nat.lt_of_lt_of_le za2.lt hF1.size))
             have zb1 := zb1_1.below vb2 zb1_1.lt
             have hu1 := (hu1.below hF1).below vb2
             have HV2 := hide (HF1.out.trans (vb2.mono HF1.out.size))
             have vs2 : v1.heap.size ≤ v2.heap.size := Nat.le_trans hF1.size vb2.size
             have vy1 : v1.heap.size < v2.heap.size := zb1.lt
             (try obtain ⟨p0, p1, p2, p3⟩ := za1.two)
             (try have p4 := fun o => (za1.alloc o).two.1)
             (try have p5 := fun o => (za1.alloc o).two.2.1)
             (try have p6 := fun o => (za1.alloc o).two.2.2.1)
             (try have p7 := fun o => (za1.alloc o).two.2.2.2)
             (try obtain ⟨r0, r1, r2, r3⟩ := za2.two)
             (try have r4 := fun o => (za2.alloc o).two.1)
             (try have r5 := fun o => (za2.alloc o).two.2.1)
             (try have r6 := fun o => (za2.alloc o).two.2.2.1)
             (try have r7 := fun o => (za2.alloc o).two.2.2.2)
             (try obtain ⟨s0, s1, s2, s3⟩ := zb1.two)
             (try have s4 := fun o => (zb1.alloc o).two.1)
             (try have s5 := fun o => (zb1.alloc o).two.2.1)
             (try have s6 := fun o => (zb1.alloc o).two.2.2.1)
             (try have s7 := fun o => (zb1.alloc o).two.2.2.2)
             (try obtain ⟨t0, t1, t2, t3⟩ := zb2.two)
             (try have t4 := fun o => (zb2.alloc o).two.1)
             (try have t5 := fun o => (zb2.alloc o).two.2.1)
             (try have t6 := fun o => (zb2.alloc o).two.2.2.1)
             (try have t7 := fun o => (zb2.alloc o).two.2.2.2)
             (try have hq01 : ¬ w1.heap.size = w1.heap.size + 1 := by omega)
             (try have hq02 : ¬ w1.heap.size = v1.heap.size := by omega)
             (try have hq03 : ¬ w1.heap.size = v1.heap.size + 1 := by omega)
             (try have hq04 : ¬ w1.heap.size = v2.heap.size := by omega)
             (try have hq05 : ¬ w1.heap.size = v2.heap.size + 1 := by omega)
             (try have hq10 : ¬ w1.heap.size + 1 = w1.heap.size := by omega)
             (try have hq12 : ¬ w1.heap.size + 1 = v1.heap.size := by omega)
             (try have hq13 : ¬ w1.heap.size + 1 = v1.heap.size + 1 := by omega)
             (try have hq14 : ¬ w1.heap.size + 1 = v2.heap.size := by omega)
             (try have hq15 : ¬ w1.heap.size + 1 = v2.heap.size + 1 := by omega)
             (try have hq20 : ¬ v1.heap.size = w1.heap.size := by omega)
             (try have hq21 : ¬ v1.heap.size = w1.heap.size + 1 := by omega)
             (try have hq23 : ¬ v1.heap.size = v1.heap.size + 1 := by omega)
             (try have hq24 : ¬ v1.heap.size = v2.heap.size := by omega)
             (try have hq25 : ¬ v1.heap.size = v2.heap.size + 1 := by omega)
             (try have hq30 : ¬ v1.heap.size + 1 = w1.heap.size := by omega)
             (try have hq31 : ¬ v1.heap.size + 1 = w1.heap.size + 1 := by omega)
             (try have hq32 : ¬ v1.heap.size + 1 = v1.heap.size := by omega)
             (try have hq34 : ¬ v1.heap.size + 1 = v2.heap.size := by omega)
             (try have hq35 : ¬ v1.heap.size + 1 = v2.heap.size + 1 := by omega)
             (try have hq40 : ¬ v2.heap.size = w1.heap.size := by omega)
             (try have hq41 : ¬ v2.heap.size = w1.heap.size + 1 := by omega)
             (try have hq42 : ¬ v2.heap.size = v1.heap.size := by omega)
             (try have hq43 : ¬ v2.heap.size = v1.heap.size + 1 := by omega)
             (try have hq45 : ¬ v2.heap.size = v2.heap.size + 1 := by omega)
             (try have hq50 : ¬ v2.heap.size + 1 = w1.heap.size := by omega)
             (try have hq51 : ¬ v2.heap.size + 1 = w1.heap.size + 1 := by omega)
             (try have hq52 : ¬ v2.heap.size + 1 = v1.heap.size := by omega)
             (try have hq53 : ¬ v2.heap.size + 1 = v1.heap.size + 1 := by omega)
             (try have hq54 : ¬ v2.heap.size + 1 = v2.heap.size := by omega)
             have hn00 : ¬ w1.heap.size = w.heap.size := by omega
             have hm00 : ¬ w.heap.size = w1.heap.size := by omega
             have hn01 : ¬ w1.heap.size = w.heap.size + 1 := by omega
             have hm01 : ¬ w.heap.size + 1 = w1.heap.size := by omega
             have ho0 : ¬ w1.heap.size = w.heap.size + 2 := by omega
             have hn10 : ¬ w1.heap.size + 1 = w.heap.size := by omega
             have hm10 : ¬ w.heap.size = w1.heap.size + 1 := by omega
             have hn11 : ¬ w1.heap.size + 1 = w.heap.size + 1 := by omega
             have hm11 : ¬ w.heap.size + 1 = w1.heap.size + 1 := by omega
             have ho1 : ¬ w1.heap.size + 1 = w.heap.size + 2 := by omega
             have hn20 : ¬ v1.heap.size = w.heap.size := by omega
             have hm20 : ¬ w.heap.size = v1.heap.size := by omega
             have hn21 : ¬ v1.heap.size = w.heap.size + 1 := by omega
             have hm21 : ¬ w.heap.size + 1 = v1.heap.size := by omega
             have ho2 : ¬ v1.heap.size = w.heap.size + 2 := by omega
             have hn30 : ¬ v1.heap.size + 1 = w.heap.size := by omega
             have hm30 : ¬ w.heap.size = v1.heap.size + 1 := by omega
             have hn31 : ¬ v1.heap.size + 1 = w.heap.size + 1 := by omega
             have hm31 : ¬ w.heap.size + 1 = v1.heap.size + 1 := by omega
             have ho3 : ¬ v1.heap.size + 1 = w.heap.size + 2 := by omega
             have hn40 : ¬ v2.heap.size = w.heap.size := by omega
             have hm40 : ¬ w.heap.size = v2.heap.size := by omega
             have hn41 : ¬ v2.heap.size = w.heap.size + 1 := by omega
             have hm41 : ¬ w.heap.size + 1 = v2.heap.size := by omega
             have ho4 : ¬ v2.heap.size = w.heap.size + 2 := by omega
             have hn50 : ¬ v2.heap.size + 1 = w.heap.size := by omega
             have hm50 : ¬ w.heap.size = v2.heap.size + 1 := by omega
             have hn51 : ¬ v2.heap.size + 1 = w.heap.size + 1 := by omega
             have hm51 : ¬ w.heap.size + 1 = v2.heap.size + 1 := by omega
             have ho5 : ¬ v2.heap.size + 1 = w.heap.size + 2 := by omega
             have hq1 : ¬ w1.heap.size = w.heap.size + 1 + 1 := by omega
             obtain ⟨a0, a1, a2, a3, a4, -⟩ := ha.five
             obtain ⟨b0, b1, -, -⟩ := hb.two
             clear _t tok1
             have tok2 : True := trivial)
          | (go_at_call 67; have _t := tok1; (with_reducible refine HMb2.out.mono ?_); rintro e v2 ⟨vb2, u2, d2, rfl, hu2, hd2⟩
             obtain ⟨C2, cc2, rfl⟩ := hu2.form
             have hz2 : ((v1.alloc (.cells #[.bool false, .slice none 0 0] 25)).alloc (.cells #[.bool false, .slice none 0 0] 25)).heap.size = v1.heap.size + 2 := by simp
             have sp2 := hide hu2.span
             rw [hz2] at sp2
             have hu2 := hu2.mono (show w.heap.size + 3 ≤ _ by rw [hz2]; omega)
             clear hz2
             have ha := (ha.below hF2 ha.lt).below vb2 (Nat.lt_of_lt_of_le ha.lt hF2.size)
             have hb := (hb.below hF2 hb.lt).below vb2 (Nat.lt_of_lt_of_le hb.lt hF2.size)
             have hrs := (hrs.below hF2 hrs.lt).below vb2 (Nat.lt_of_lt_of_le hrs.lt hF2.size)
             (try have za1 := (za1.below hF2 za1.lt).below vb2 (Nat.lt_of_lt_of_le za1.lt hF2.size))
             (try have za2 := (za2.below hF2 za2.lt).below vb2 (Nat.lt_of_lt_of_le za2.lt hF2.size))
             have zb1 := zb1_2.below vb2 zb1_2.lt
             have zb2 := zb2_2.below vb2 zb2_2.lt
             have hu1 := (hu1.below hF2).below vb2
             have HV2 := hide (HF2.out.trans (vb2.mono HF2.out.size))
             have vs2 : v1.heap.size ≤ v2.heap.size := Nat.le_trans hF2.size vb2.size
             have vy1 : v1.heap.size < v2.heap.size := zb1.lt
             have vy2 : v1.heap.size + 1 < v2.heap.size := zb2.lt
             (try obtain ⟨p0, p1, p2, p3⟩ := za1.two)
             (try have p4 := fun o => (za1.alloc o).two.1)
             (try have p5 := fun o => (za1.alloc o).two.2.1)
             (try have p6 := fun o => (za1.alloc o).two.2.2.1)
             (try have p7 := fun o => (za1.alloc o).two.2.2.2)
             (try obtain ⟨r0, r1, r2, r3⟩ := za2.two)
             (try have r4 := fun o => (za2.alloc o).two.1)
             (try have r5 := fun o => (za2.alloc o).two.2.1)
             (try have r6 := fun o => (za2.alloc o).two.2.2.1)
             (try have r7 := fun o => (za2.alloc o).two.2.2.2)
             (try obtain ⟨s0, s1, s2, s3⟩ := zb1.two)
             (try have s4 := fun o => (zb1.alloc o).two.1)
             (try have s5 := fun o => (zb1.alloc o).two.2.1)
             (try have s6 := fun o => (zb1.alloc o).two.2.2.1)
             (try have s7 := fun o => (zb1.alloc o).two.2.2.2)
             (try obtain ⟨t0, t1, t2, t3⟩ := zb2.two)
             (try have t4 := fun o => (zb2.alloc o).two.1)
             (try have t5 := fun o => (zb2.alloc o).two.2.1)
             (try have t6 := fun o => (zb2.alloc o).two.2.2.1)
             (try have t7 := fun o => (zb2.alloc o).two.2.2.2)
             (try have hq01 : ¬ w1.heap.size = w1.heap.size + 1 := by omega)
             (try have hq02 : ¬ w1.heap.size = v1.heap.size := by omega)
             (try have hq03 : ¬ w1.heap.size = v1.heap.size + 1 := by omega)
             (try have hq04 : ¬ w1.heap.size = v2.heap.size := by omega)
             (try have hq05 : ¬ w1.heap.size = v2.heap.size + 1 := by omega)
             (try have hq10 : ¬ w1.heap.size + 1 = w1.heap.size := by omega)
             (try have hq12 : ¬ w1.heap.size + 1 = v1.heap.size := by omega)
             (try have hq13 : ¬ w1.heap.size + 1 = v1.heap.size + 1 := by omega)
             (try have hq14 : ¬ w1.heap.size + 1 = v2.heap.size := by omega)
             (try have hq15 : ¬ w1.heap.size + 1 = v2.heap.size + 1 := by omega)
             (try have hq20 : ¬ v1.heap.size = w1.heap.size := by omega)
             (try have hq21 : ¬ v1.heap.size = w1.heap.size + 1 := by omega)
             (try have hq23 : ¬ v1.heap.size = v1.heap.size + 1 := by omega)
             (try have hq24 : ¬ v1.heap.size = v2.heap.size := by omega)
             (try have hq25 : ¬ v1.heap.size = v2.heap.size + 1 := by omega)
             (try have hq30 : ¬ v1.heap.size + 1 = w1.heap.size := by omega)
             (try have hq31 : ¬ v1.heap.size + 1 = w1.heap.size + 1 := by omega)
             (try have hq32 : ¬ v1.heap.size + 1 = v1.heap.size := by omega)
             (try have hq34 : ¬ v1.heap.size + 1 = v2.heap.size := by omega)
             (try have hq35 : ¬ v1.heap.size + 1 = v2.heap.size + 1 := by omega)
             (try have hq40 : ¬ v2.heap.size = w1.heap.size := by omega)
             (try have hq41 : ¬ v2.heap.size = w1.heap.size + 1 := by omega)
             (try have hq42 : ¬ v2.heap.size = v1.heap.size := by omega)
             (try have hq43 : ¬ v2.heap.size = v1.heap.size + 1 := by omega)
             (try have hq45 : ¬ v2.heap.size = v2.heap.size + 1 := by omega)
             (try have hq50 : ¬ v2.heap.size + 1 = w1.heap.size := by omega)
             (try have hq51 : ¬ v2.heap.size + 1 = w1.heap.size + 1 := by omega)
             (try have hq52 : ¬ v2.heap.size + 1 = v1.heap.size := by omega)
             (try have hq53 : ¬ v2.heap.size + 1 = v1.heap.size + 1 := by omega)
             (try have hq54 : ¬ v2.heap.size + 1 = v2.heap.size := by omega)
             have hn00 : ¬ w1.heap.size = w.heap.size := by omega
             have hm00 : ¬ w.heap.size = w1.heap.size := by omega
             have hn01 : ¬ w1.heap.size = w.heap.size + 1 := by omega
             have hm01 : ¬ w.heap.size + 1 = w1.heap.size := by omega
             have ho0 : ¬ w1.heap.size = w.heap.size + 2 := by omega
             have hn10 : ¬ w1.heap.size + 1 = w.heap.size := by omega
             have hm10 : ¬ w.heap.size = w1.heap.size + 1 := by omega
             have hn11 : ¬ w1.heap.size + 1 = w.heap.size + 1 := by omega
             have hm11 : ¬ w.heap.size + 1 = w1.heap.size + 1 := by omega
             have ho1 : ¬ w1.heap.size + 1 = w.heap.size + 2 := by omega
             have hn20 : ¬ v1.heap.size = w.heap.size := by omega
             have hm20 : ¬ w.heap.size = v1.heap.size := by omega
             have hn21 : ¬ v1.heap.size = w.heap.size + 1 := by omega
             have hm21 : ¬ w.heap.size + 1 = v1.heap.size := by omega
             have ho2 : ¬ v1.heap.size = w.heap.size + 2 := by omega
             have hn30 : ¬ v1.heap.size + 1 = w.heap.size := by omega
             have hm30 : ¬ w.heap.size = v1.heap.size + 1 := by omega
             have hn31 : ¬ v1.heap.size + 1 = w.heap.size + 1 := by omega
             have hm31 : ¬ w.heap.size + 1 = v1.heap.size + 1 := by omega
             have ho3 : ¬ v1.heap.size + 1 = w.heap.size + 2 := by omega
             have hn40 : ¬ v2.heap.size = w.heap.size := by omega
             have hm40 : ¬ w.heap.size = v2.heap.size := by omega
             have hn41 : ¬ v2.heap.size = w.heap.size + 1 := by omega
             have hm41 : ¬ w.heap.size + 1 = v2.heap.size := by omega
             have ho4 : ¬ v2.heap.size = w.heap.size + 2 := by omega
             have hn50 : ¬ v2.heap.size + 1 = w.heap.size := by omega
             have hm50 : ¬ w.heap.size = v2.heap.size + 1 := by omega
             have hn51 : ¬ v2.heap.size + 1 = w.heap.size + 1 := by omega
             have hm51 : ¬ w.heap.size + 1 = v2.heap.size + 1 := by omega
             have ho5 : ¬ v2.heap.size + 1 = w.heap.size + 2 := by omega
             have hq1 : ¬ w1.heap.size = w.heap.size + 1 + 1 := by omega
             obtain ⟨a0, a1, a2, a3, a4, -⟩ := ha.five
             obtain ⟨b0, b1, -, -⟩ := hb.two
             clear _t tok1
             have tok2 : True := trivial)
          )
      all_goals go_wp2_with fail
      all_goals go_meet
      all_goals have HV3 := HV2.out
      all_goals (try clear hq01)
      all_goals (try clear hq02)
      all_goals (try clear hq03)
      all_goals (try clear hq04)
      all_goals (try clear hq05)
      all_goals (try clear hq10)
      all_goals (try clear hq12)
      all_goals (try clear hq13)
      all_goals (try clear hq14)
      all_goals (try clear hq15)
      all_goals (try clear hq20)
      all_goals (try clear hq21)
      all_goals (try clear hq23)
      all_goals (try clear hq24)
      all_goals (try clear hq25)
      all_goals (try clear hq30)
      all_goals (try clear hq31)
      all_goals (try clear hq32)
      all_goals (try clear hq34)
      all_goals (try clear hq35)
      all_goals (try clear hq40)
      all_goals (try clear hq41)
      all_goals (try clear hq42)
      all_goals (try clear hq43)
      all_goals (try clear hq45)
      all_goals (try clear hq50)
      all_goals (try clear hq51)
      all_goals (try clear hq52)
      all_goals (try clear hq53)
      all_goals (try clear hq54)
      all_goals (try clear hn00)
      all_goals (try clear hn01)
      all_goals (try clear hn10)
      all_goals (try clear hn11)
      all_goals (try clear hn20)
      all_goals (try clear hn21)
      all_goals (try clear hn30)
      all_goals (try clear hn31)
      all_goals (try clear hn40)
      all_goals (try clear hn41)
      all_goals (try clear hn50)
      all_goals (try clear hn51)
      all_goals (try clear hm00)
      all_goals (try clear hm01)
      all_goals (try clear hm10)
      all_goals (try clear hm11)
      all_goals (try clear hm20)
      all_goals (try clear hm21)
      all_goals (try clear hm30)
      all_goals (try clear hm31)
      all_goals (try clear hm40)
      all_goals (try clear hm41)
      all_goals (try clear hm50)
      all_goals (try clear hm51)
      all_goals (try clear ho0)
      all_goals (try clear ho1)
      all_goals (try clear ho2)
      all_goals (try clear ho3)
      all_goals (try clear ho4)
      all_goals (try clear ho5)
      all_goals (try clear hq1)
      all_goals clear a0 a1 a2 a3 a4 b0 b1
      · have HB : Bas w v2 (k + k) 27 25 #[.bool n0, .slice A0 l0 c0, .bool n1, .slice A1 l1 c1, .int .i64 Q0] #[.bool m, .slice B j d] #[.bool false, .slice none 0 0, .bool false, .slice none 0 0, .int .i64 0] p q C1 d1.length cc1 C2 d2.length cc2 (v2.heap.size) (v2.heap.size + 1) := ⟨ha, hb, hrs, HV2.out, RetZ.qx hu1 hd1 HL1.out sp1.out (by omega) (by omega) (Nat.le_refl _), RetZ.qx hu2 hd2 HL2.out sp2.out (by omega) (by omega) (Nat.le_refl _), by omega, by omega, by omega⟩
        exact ⟨_, _, _, _, _, _, _, _, rfl, rfl, f_aa HB rfl rfl⟩
      · have HB : Bas w v2 (k + k) 27 25 #[.bool n0, .slice A0 l0 c0, .bool n1, .slice A1 l1 c1, .int .i64 Q0] #[.bool m, .slice B j d] #[.bool false, .slice none 0 0, .bool false, .slice none 0 0, .int .i64 0] p q C1 d1.length cc1 C2 d2.length cc2 (v2.heap.size + 1) (v2.heap.size) := ⟨ha, hb, hrs, HV2.out, RetZ.qx hu1 hd1 HL1.out sp1.out (by omega) (by omega) (Nat.le_refl _), RetZ.qx hu2 hd2 HL2.out sp2.out (by omega) (by omega) (Nat.le_refl _), by omega, by omega, by omega⟩
        exact ⟨_, _, _, _, _, _, _, _, rfl, rfl, f_aa' HB rfl rfl⟩
      · have HB : Bas w v2 (k + k) 27 25 #[.bool n0, .slice A0 l0 c0, .bool n1, .slice A1 l1 c1, .int .i64 Q0] #[.bool m, .slice B j d] #[.bool false, .slice none 0 0, .bool false, .slice none 0 0, .int .i64 0] p q C1 d1.length cc1 C2 d2.length cc2 (v1.heap.size) (v2.heap.size) := ⟨ha, hb, hrs, HV2.out, RetZ.qx hu1 hd1 HL1.out sp1.out (by omega) (by omega) (Nat.le_refl _), RetZ.qx hu2 hd2 HL2.out sp2.out (by omega) (by omega) (Nat.le_refl _), by omega, by omega, by omega⟩
        exact ⟨_, _, _, _, _, _, _, _, rfl, rfl, f_sa HB zb1 rfl⟩
      · have HB : Bas w v2 (k + k) 27 25 #[.bool n0, .slice A0 l0 c0, .bool n1, .slice A1 l1 c1, .int .i64 Q0] #[.bool m, .slice B j d] #[.bool false, .slice none 0 0, .bool false, .slice none 0 0, .int .i64 0] p q C1 d1.length cc1 C2 d2.length cc2 (v1.heap.size) (v1.heap.size + 1) := ⟨ha, hb, hrs, HV2.out, RetZ.qx hu1 hd1 HL1.out sp1.out (by omega) (by omega) (Nat.le_refl _), RetZ.qx hu2 hd2 HL2.out sp2.out (by omega) (by omega) (Nat.le_refl _), by omega, by omega, by omega⟩
        exact ⟨_, _, _, _, _, _, _, _, rfl, rfl, f_four HB zb1 zb2⟩
      · have HB : Bas w v2 (k + k) 27 25 #[.bool n0, .slice A0 l0 c0, .bool n1, .slice A1 l1 c1, .int .i64 Q0] #[.bool m, .slice B j d] #[.bool false, .slice none 0 0, .bool false, .slice none 0 0, .int .i64 0] p q C1 d1.length cc1 C2 d2.length cc2 (v2.heap.size) (v1.heap.size) := ⟨ha, hb, hrs, HV2.out, RetZ.qx hu1 hd1 HL1.out sp1.out (by omega) (by omega) (Nat.le_refl _), RetZ.qx hu2 hd2 HL2.out sp2.out (by omega) (by omega) (Nat.le_refl _), by omega, by omega, by omega⟩
        exact ⟨_, _, _, _, _, _, _, _, rfl, rfl, f_sa' HB zb1 rfl⟩
      · have HB : Bas w v2 (k + k) 27 25 #[.bool n0, .slice A0 l0 c0, .bool n1, .slice A1 l1 c1, .int .i64 Q0] #[.bool m, .slice B j d] #[.bool false, .slice none 0 0, .bool false, .slice none 0 0, .int .i64 0] p q C1 d1.length cc1 C2 d2.length cc2 (v1.heap.size + 1) (v1.heap.size) := ⟨ha, hb, hrs, HV2.out, RetZ.qx hu1 hd1 HL1.out sp1.out (by omega) (by omega) (Nat.le_refl _), RetZ.qx hu2 hd2 HL2.out sp2.out (by omega) (by omega) (Nat.le_refl _), by omega, by omega, by omega⟩
        exact ⟨_, _, _, _, _, _, _, _, rfl, rfl, f_four HB zb2 zb1⟩
      · have HB : Bas w v2 (k + k) 27 25 #[.bool n0, .slice A0 l0 c0, .bool n1, .slice A1 l1 c1, .int .i64 Q0] #[.bool m, .slice B j d] #[.bool false, .slice none 0 0, .bool false, .slice none 0 0, .int .i64 0] p q C1 d1.length cc1 C2 d2.length cc2 (w1.heap.size) (v2.heap.size) := ⟨ha, hb, hrs, HV2.out, RetZ.qx hu1 hd1 HL1.out sp1.out (by omega) (by omega) (Nat.le_refl _), RetZ.qx hu2 hd2 HL2.out sp2.out (by omega) (by omega) (Nat.le_refl _), by omega, by omega, by omega⟩
        exact ⟨_, _, _, _, _, _, _, _, rfl, rfl, f_four (HB.alloc _) (za1.alloc _) (blk_new rfl)⟩
      · have HB : Bas w v2 (k + k) 27 25 #[.bool n0, .slice A0 l0 c0, .bool n1, .slice A1 l1 c1, .int .i64 Q0] #[.bool m, .slice B j d] #[.bool false, .slice none 0 0, .bool false, .slice none 0 0, .int .i64 0] p q C1 d1.length cc1 C2 d2.length cc2 (w1.heap.size) (v1.heap.size) := ⟨ha, hb, hrs, HV2.out, RetZ.qx hu1 hd1 HL1.out sp1.out (by omega) (by omega) (Nat.le_refl _), RetZ.qx hu2 hd2 HL2.out sp2.out (by omega) (by omega) (Nat.le_refl _), by omega, by omega, by omega⟩
        exact ⟨_, _, _, _, _, _, _, _, rfl, rfl, f_four HB za1 zb1⟩
      · have HB : Bas w v2 (k + k) 27 25 #[.bool n0, .slice A0 l0 c0, .bool n1, .slice A1 l1 c1, .int .i64 Q0] #[.bool m, .slice B j d] #[.bool false, .slice none 0 0, .bool false, .slice none 0 0, .int .i64 0] p q C1 d1.length cc1 C2 d2.length cc2 (w1.heap.size) (w1.heap.size + 1) := ⟨ha, hb, hrs, HV2.out, RetZ.qx hu1 hd1 HL1.out sp1.out (by omega) (by omega) (Nat.le_refl _), RetZ.qx hu2 hd2 HL2.out sp2.out (by omega) (by omega) (Nat.le_refl _), by omega, by omega, by omega⟩
        exact ⟨_, _, _, _, _, _, _, _, rfl, rfl, f_four HB za1 za2⟩
      · have HB : Bas w v2 (k + k) 27 25 #[.bool n0, .slice A0 l0 c0, .bool n1, .slice A1 l1 c1, .int .i64 Q0] #[.bool m, .slice B j d] #[.bool false, .slice none 0 0, .bool false, .slice none 0 0, .int .i64 0] p q C1 d1.length cc1 C2 d2.length cc2 (v2.heap.size) (w1.heap.size) := ⟨ha, hb, hrs, HV2.out, RetZ.qx hu1 hd1 HL1.out sp1.out (by omega) (by omega) (Nat.le_refl _), RetZ.qx hu2 hd2 HL2.out sp2.out (by omega) (by omega) (Nat.le_refl _), by omega, by omega, by omega⟩
        exact ⟨_, _, _, _, _, _, _, _, rfl, rfl, f_as HB za1 rfl⟩
      · have HB : Bas w v2 (k + k) 27 25 #[.bool n0, .slice A0 l0 c0, .bool n1, .slice A1 l1 c1, .int .i64 Q0] #[.bool m, .slice B j d] #[.bool false, .slice none 0 0, .bool false, .slice none 0 0, .int .i64 0] p q C1 d1.length cc1 C2 d2.length cc2 (v1.heap.size) (w1.heap.size) := ⟨ha, hb, hrs, HV2.out, RetZ.qx hu1 hd1 HL1.out sp1.out (by omega) (by omega) (Nat.le_refl _), RetZ.qx hu2 hd2 HL2.out sp2.out (by omega) (by omega) (Nat.le_refl _), by omega, by omega, by omega⟩
        exact ⟨_, _, _, _, _, _, _, _, rfl, rfl, f_four HB zb1 za1⟩
      · have HB : Bas w v2 (k + k) 27 25 #[.bool n0, .slice A0 l0 c0, .bool n1, .slice A1 l1 c1, .int .i64 Q0] #[.bool m, .slice B j d] #[.bool false, .slice none 0 0, .bool false, .slice none 0 0, .int .i64 0] p q C1 d1.length cc1 C2 d2.length cc2 (w1.heap.size + 1) (w1.heap.size) := ⟨ha, hb, hrs, HV2.out, RetZ.qx hu1 hd1 HL1.out sp1.out (by omega) (by omega) (Nat.le_refl _), RetZ.qx hu2 hd2 HL2.out sp2.out (by omega) (by omega) (Nat.le_refl _), by omega, by omega, by omega⟩
        exact ⟨_, _, _, _, _, _, _, _, rfl, rfl, f_four HB za2 za1⟩
    case rest =>
      obtain ⟨g6, g7, D1, L1, K1, D2, L2, K2, rfl, rfl, HB, hg6, hg7⟩ := hcut
      clear a0 a1 a2 a3 a4 b0 b1
      have hx6 := HB.h6
      have hx7 := HB.h7
      have hx8 := HB.ne
      have HW := hide HB.low
      have hqs := hide HB
      have hbx := HB.b
      have hkx := HB.kk
      have hrx := HB.r
      clear HB
      obtain ⟨b0, b1, -, -⟩ := hkx.two
      have HSG := hide (c_zsign (hz.at_ HW) (by omega))
      by_cases hz0 : z < 0
      · obtain ⟨s, HS⟩ : ∃ s, Hid (z.sign = s) := ⟨_, hide rfl⟩
        have HT : decide (s < 0) = true := by rw [← HS.out]; exact decide_eq_true (by rw [Int.sign_eq_neg_one_of_neg hz0]; decide)
        rw [HS.out] at HSG
        have hpq := HXX.out.1 hz0
        have HM1 : mn = q := by rw [← HMN.out]; omega
        have HM2 : mx = p := by rw [← HMX.out]; omega
        subst HM1 HM2
        clear hpq hz0 HXX HMN HMX
        go_upto_region 4 with (fail)
        go_wp2_with fail
        refine HSG.out.mono ?_
        rintro e w5 ⟨hb5, rfl⟩
        have HB5 := hide (hqs.out.below hb5)
        have hbx := hbx.below hb5 hbx.lt
        have hrx := hrx.below hb5 hrx.lt
        have hg6 := hg6.below hb5 hg6.lt
        have hg7 := hg7.below hb5 hg7.lt
        clear b0 b1
        obtain ⟨p0, p1, p2, p3⟩ := hg6.two
        obtain ⟨q0, q1, q2, q3⟩ := hg7.two
        obtain ⟨r0, r1, r2, r3, r4, r5, r6, r7, r8, r9⟩ := hrx.five
        obtain ⟨a0, a1, a2, a3, a4, -⟩ := hbx.five
        have e1 : ¬ g6 = g7 := by omega
        have e2 : ¬ g7 = g6 := by omega
        have e3 : ¬ g6 = w.heap.size + 2 := by omega
        have e4 : ¬ w.heap.size + 2 = g6 := by omega
        have e5 : ¬ g7 = w.heap.size + 2 := by omega
        have e6 : ¬ w.heap.size + 2 = g7 := by omega
        have e7 : ¬ w.heap.size = g6 := by omega
        have e8 : ¬ w.heap.size = g7 := by omega
        have e9 : ¬ g6 = w.heap.size := by omega
        have e10 : ¬ g7 = w.heap.size := by omega
        go_wp2_with fail
        have hl5 : w.heap.size + 2 ≤ w5.heap.size := by have := HB5.out.r.lt; omega
        have HB6 := (HB5.out.set (Or.inl rfl) (.bool (decide (mn < 0))) (.slice D2 L2 K2)).set (Or.inr rfl) (.bool (decide (mx < 0))) (.slice D1 L1 K1)
        obtain ⟨W2, hW2, bl, kq, kb, -⟩ := set5_all HB6.r (.bool (decide (mn < 0))) (.slice D2 L2 K2) (.bool (decide (mx < 0))) (.slice D1 L1 K1) (.int .i64 Q0)
        rw [← hW2]
        refine bodyPost_ret (results_ball_tmp rfl _ _ _ _ _ _ _ _ _ rfl bl) rfl ⟨kb _ _ HB6.low (by omega), RetE.yes ⟨_, _, _, _, _, _, _, _, rfl, (kq _ _ _ _ _ _ _ (by omega) HB6.q2.qb).mono (by omega), (kq _ _ _ _ _ _ _ (by omega) HB6.q1.qb).mono (by omega)⟩⟩
      · obtain ⟨s, HS⟩ : ∃ s, Hid (z.sign = s) := ⟨_, hide rfl⟩
        have HT : decide (s < 0) = false := by rw [← HS.out]; exact decide_eq_false (by exact sign_nn hz0)
        rw [HS.out] at HSG
        have hpq := HXX.out.2 (by omega)
        have HM1 : mn = p := by rw [← HMN.out]; omega
        have HM2 : mx = q := by rw [← HMX.out]; omega
        subst HM1 HM2
        clear hpq hz0 HXX HMN HMX
        go_upto_region 4 with (fail)
        go_wp2_with fail
        refine HSG.out.mono ?_
        rintro e w5 ⟨hb5, rfl⟩
        have HB5 := hide (hqs.out.below hb5)
        have hbx := hbx.below hb5 hbx.lt
        have hrx := hrx.below hb5 hrx.lt
        have hg6 := hg6.below hb5 hg6.lt
        have hg7 := hg7.below hb5 hg7.lt
        clear b0 b1
        obtain ⟨p0, p1, p2, p3⟩ := hg6.two
        obtain ⟨q0, q1, q2, q3⟩ := hg7.two
        obtain ⟨r0, r1, r2, r3, r4, r5, r6, r7, r8, r9⟩ := hrx.five
        obtain ⟨a0, a1, a2, a3, a4, -⟩ := hbx.five
        have e1 : ¬ g6 = g7 := by omega
        have e2 : ¬ g7 = g6 := by omega
        have e3 : ¬ g6 = w.heap.size + 2 := by omega
        have e4 : ¬ w.heap.size + 2 = g6 := by omega
        have e5 : ¬ g7 = w.heap.size + 2 := by omega
        have e6 : ¬ w.heap.size + 2 = g7 := by omega
        have e7 : ¬ w.heap.size = g6 := by omega
        have e8 : ¬ w.heap.size = g7 := by omega
        have e9 : ¬ g6 = w.heap.size := by omega
        have e10 : ¬ g7 = w.heap.size := by omega
        go_wp2_with fail
        have hl5 : w.heap.size + 2 ≤ w5.heap.size := by have := HB5.out.r.lt; omega
        obtain ⟨W2, hW2, bl, kq, kb, -⟩ := set5_all hrx (.bool (decide (mn < 0))) (.slice D1 L1 K1) (.bool (decide (mx < 0))) (.slice D2 L2 K2) (.int .i64 Q0)
        rw [← hW2]
        refine bodyPost_ret (results_ball_tmp rfl _ _ _ _ _ _ _ _ _ rfl bl) rfl ⟨kb _ _ HB5.out.low (by omega), RetE.yes ⟨_, _, _, _, _, _, _, _, rfl, (kq _ _ _ _ _ _ _ (by omega) HB5.out.q1.qb).mono (by omega), (kq _ _ _ _ _ _ _ (by omega) HB5.out.q2.qb).mono (by omega)⟩⟩
end Go.Proofs.YtnfbngiabdlclaaGreat

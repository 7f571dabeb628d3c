/- ball: results that are balls; pair, Point. ball: Mul, Div. ball: Recast, Shift. The document's dyads: Add Sub. The document's dyads: Sub. The document's dyads: Cmp. The document's balls: Down, Over, Cmp, Right. The document's balls: Point, Recast, Shift. The document's balls: least, greatest, Times. -/
import Derived.Test.YtnkihnggghfioaaGreatBa1
import Derived.Test.YtnkihnggghfioaaGreatRefC
set_option linter.unusedVariables false
set_option linter.unusedSimpArgs false
namespace Go.Proofs.YtnkihnggghfioaaGreat
section
section
open Go.RowKit
open L (val dig nth)
theorem jno {w : World} {r : Nat} {t : TypeId} {a b c d e : Value} (h : Blk w r t #[a, b, c, d, e]) : (loadVar 54 ⟨r, 0, none⟩).run Tryz.prog w = .ok (.agg #[a, b, c, d, e]) w := by
  obtain ⟨c0, c1, c2, c3, c4, -⟩ := h.five; simp [go_sem, c0, c1, c2, c3, c4]
theorem jde {fn : Func} {p q : Tmp} (h : fn.results = #[.cell p 54, .tmp q]) (tmps : Array Value) (w : World) (r : Nat) (t : TypeId) (a b c d e : Value) (hp : tmps.getD p undef = .pointer (some ⟨r, 0, none⟩)) (hb : Blk w r t #[a, b, c, d, e]) :
    (results fn tmps).run Tryz.prog w = .ok (.tuple #[.agg #[a, b, c, d, e], tmps.getD q undef]) w := by
  simp only [results, h]; simp only [Array.getD_eq_getD_getElem?] at hp; simp [Sem.run_bind, Result.andThen, asAddr, hp, jno hb]
theorem jlh {w : World} {r : Nat} {t : TypeId} {a b c d e : Value} (h : Blk w r t #[a, b, c, d, e]) (x y z u v : Value) :
    ∃ W2, W2 = ((((w.setCell ⟨r, 0, none⟩ x).setCell ⟨r, 1, none⟩ y).setCell ⟨r, 2, none⟩ z).setCell ⟨r, 3, none⟩ u).setCell ⟨r, 4, none⟩ v ∧ Blk W2 r t #[x, y, z, u, v] ∧
    (∀ B k n A l c z, r < B → QB w B k n A l c z → QB W2 B k n A l c z) ∧ (∀ B w0, Below B w0 w → B ≤ r → Below B w0 W2) ∧ W2.heap.size = w.heap.size ∧ (∀ g t' cs, g ≠ r → Blk w g t' cs → Blk W2 g t' cs) ∧ (∀ B v l, r < B → Nums w B v l → Nums W2 B v l) := by
  refine ⟨_, rfl, ?_, fun B k n A l c z hr hq => ((((hq.low (p := ⟨r, 0, none⟩) hr x).low (p := ⟨r, 1, none⟩) hr y).low (p := ⟨r, 2, none⟩) hr _).low (p := ⟨r, 3, none⟩) hr u).low (p := ⟨r, 4, none⟩) hr v,
    fun B w0 hb hr => ((((hb.setCell (p := ⟨r, 0, none⟩) hr x).setCell (p := ⟨r, 1, none⟩) hr y).setCell (p := ⟨r, 2, none⟩) hr z).setCell (p := ⟨r, 3, none⟩) hr u).setCell (p := ⟨r, 4, none⟩) hr v, by simp,
    fun g t' cs hne hg => ((((hg.far (p := ⟨r, 0, none⟩) hne x).far (p := ⟨r, 1, none⟩) hne y).far (p := ⟨r, 2, none⟩) hne z).far (p := ⟨r, 3, none⟩) hne u).far (p := ⟨r, 4, none⟩) hne v,
    fun B vv l hr hn => ((((hn.set_low (p := ⟨r, 0, none⟩) hr x).set_low (p := ⟨r, 1, none⟩) hr y).set_low (p := ⟨r, 2, none⟩) hr z).set_low (p := ⟨r, 3, none⟩) hr u).set_low (p := ⟨r, 4, none⟩) hr v⟩
  have := ((((h.set_ 0 x).set_ 1 y).set_ 2 z).set_ 3 u).set_ 4 v
  simpa using this
def RetB (B k : Nat) (x y q err : Int) (e : Ending) (w : World) : Prop := ∃ n A l c n' A' l' c', e = .returned (.tuple #[.agg #[.bool n, .slice A l c, .bool n', .slice A' l' c', .int .i64 q], .int .i64 err]) ∧ QB w B k n A l c x ∧ QB w B k n' A' l' c' y
def RetE (B k : Nat) (ok : Bool) (x y q err : Int) (e : Ending) (w : World) : Prop := RetB B k (if ok then x else 0) (if ok then y else 0) (if ok then q else 0) (if ok then 0 else err) e w
theorem RetE.yes {B k : Nat} {x y q err : Int} {e : Ending} {w : World} (h : RetB B k x y q 0 e w) : RetE B k true x y q err e w := h
theorem RetE.no {B k : Nat} {x y q err : Int} {w : World} : RetE B k false x y q err (.returned (.tuple #[.agg #[.bool false, .slice none 0 0, .bool false, .slice none 0 0, .int .i64 0], .int .i64 err])) w :=
  ⟨_, _, _, _, _, _, _, _, rfl, QB.zero _ _ _, QB.zero _ _ _⟩
def pairB (x y q x' y' q' : Int) : Bool := rightB x y q && rightB x' y' q' && (q == q')
theorem jnp {w : World} {k : Nat} {n : Bool} {A : Option Addr} {len cap : Nat} {z x : Int} (q : Int) (h : Q w k n A len cap z) (hk : k ≤ 1000) (hx0 : -9223372036854775808 ≤ x) (hx1 : x ≤ 9223372036854775807) :
    Calls Tryz.prog 143 #[.agg #[.bool n, .slice A len cap, .int .i64 x], .int .i64 q] w fun e w' => Below w.heap.size w w' ∧ RetZ w.heap.size (vFloor 4000 (av 4000 z x) (nearZ q)) e w' := by
  obtain ⟨d, h1, h2, rfl⟩ := h; have hcb := ja3 (ival n (val W d)) x; have hnb := jbq q; have := jfk w n 0 _ d x q h1 (by omega) hx0 hx1
  rwa [joe 4000 _ _ _ (by omega)] at this
theorem jqt {w : World} {k : Nat} {n : Bool} {A : Option Addr} {len cap : Nat} {z x : Int} (q : Int) (h : Q w k n A len cap z) (hk : k ≤ 1000) (hx0 : -9223372036854775808 ≤ x) (hx1 : x ≤ 9223372036854775807) :
    Calls Tryz.prog 144 #[.agg #[.bool n, .slice A len cap, .int .i64 x], .int .i64 q] w fun e w' => Below w.heap.size w w' ∧ RetZ w.heap.size (vCeil 4000 (av 4000 z x) (nearZ q)) e w' := by
  obtain ⟨d, h1, h2, rfl⟩ := h; have hcb := ja3 (ival n (val W d)) x; have hnb := jbq q; have := jga w n 0 _ d x q h1 (by omega) hx0 hx1
  rwa [jsn 4000 _ _ _ (by omega)] at this
set_option maxHeartbeats 1000000 in
set_option maxRecDepth 100000 in
theorem jj7 {w : World} {k : Nat} {n : Bool} {A : Option Addr} {len cap : Nat} {z x : Int} (q : Int) (h : Q w k n A len cap z) (hk : k ≤ 1000) (hx0 : -9223372036854775808 ≤ x) (hx1 : x ≤ 9223372036854775807) :
    Calls Tryz.prog 137 #[.agg #[.bool n, .slice A len cap, .int .i64 x], .int .i64 q] w fun e w' => Below w.heap.size w w' ∧
      RetE w.heap.size (k + 125) (mayQ q) (vFloor 4000 (av 4000 z x) (nearZ q)) (vCeil 4000 (av 4000 z x) (nearZ q)) q 1 e w' := by
  obtain ⟨W0, hW, hd, hrs, hB0, hs⟩ := start2 w 33 54 #[.bool n, .slice A len cap, .int .i64 x] #[.bool false, .slice none 0 0, .bool false, .slice none 0 0, .int .i64 0]; have HB0 := hide hB0; have hs2 : w.heap.size + 2 ≤ W0.heap.size := by omega
  clear hs hB0; obtain ⟨a0, a1, a2, -⟩ := hd.three; obtain ⟨r0, r1, r2, r3, r4, r5, r6, r7, r8, r9⟩ := hrs.five; have HM := hide (jnn W0 q); obtain ⟨f, HF⟩ : ∃ z', Hid (vFloor 4000 (av 4000 z x) (nearZ q) = z') := ⟨_, hide rfl⟩; obtain ⟨c, HC⟩ : ∃ z', Hid (vCeil 4000 (av 4000 z x) (nearZ q) = z') := ⟨_, hide rfl⟩; rw [HF.out, HC.out]; obtain ⟨mq, HQ⟩ : ∃ b, Hid (mayQ q = b) := ⟨_, hide rfl⟩; rw [HQ.out] at HM ⊢; have hz := h.lt; have HFL := hide (jo3 (x := x) hz (Nat.le_refl 4000) q); have HCL := hide (jre (x := x) hz (Nat.le_refl 4000) q); rw [HF.out] at HFL; rw [HC.out] at HCL; clear hz
  cases mq with
  | false =>
    go_enter Tryz.func137, Tryz.ntmps137
    go_upto_region 1 with (fail)
    rw [← hW]; clear hW
    go_wp2_with fail
    refine HM.out.mono ?_; rintro e w1 ⟨rfl, rfl⟩
    go_wp2_with fail
    obtain ⟨W2, hW2, bl, -, kb, -⟩ := jlh hrs (.bool false) (.slice none 0 0) (.bool false) (.slice none 0 0) (.int .i64 0); rw [← hW2]; refine bodyPost_ret (jde rfl _ _ _ _ _ _ _ _ _ rfl bl) rfl ⟨kb _ _ HB0.out (by omega), RetE.no⟩
  | true =>
    have hBd := HB0.out.drew; have HBd := hide hBd; have HC1 := hide (jnp q (h.at_ HBd) hk hx0 hx1); rw [HF.out] at HC1
    go_enter Tryz.func137, Tryz.ntmps137
    go_upto_region 1 with (fail)
    rw [← hW]; clear hW
    go_wp2_with fail
    refine HM.out.mono ?_; rintro e w1 ⟨rfl, rfl⟩
    go_upto_region 3 with (fail)
    go_region_held3 (fun w' => w'.cell? ⟨w.heap.size, 0, none⟩ = some (.bool n) ∧ w'.cell? ⟨w.heap.size, 1, none⟩ = some (.slice A len cap) ∧ w'.cell? ⟨w.heap.size, 2, none⟩ = some (.int .i64 x)) (go_keep)
      (first
        | (go_at_call 143; (with_reducible refine HC1.out.mono ?_); rintro e v1 ⟨hb1, u1, d1, rfl, hu1, hd1⟩
           obtain ⟨C1, cc1, rfl⟩ := hu1.form; have hd := hd.drew.below hb1 hd.lt; have hrs := hrs.drew.below hb1 hrs.lt; have HV1 := hide (HBd.out.trans (hb1.mono HBd.out.size)); have hs3 : W0.heap.size ≤ v1.heap.size := hb1.size; obtain ⟨a0, a1, a2, -⟩ := hd.three; have HC2 := hide (jqt q (h.at_ HV1) hk hx0 hx1); rw [HC.out] at HC2)
        | (go_at_call 144; (with_reducible refine HC2.out.mono ?_); rintro e v2 ⟨hb2, u2, d2, rfl, hu2, hd2⟩
           obtain ⟨C2, cc2, rfl⟩ := hu2.form; have hd := hd.below hb2 hd.lt; have hrs := hrs.below hb2 hrs.lt; have hu1 := hu1.below hb2; have HV2 := hide (HV1.out.trans (hb2.mono HV1.out.size)); obtain ⟨a0, a1, a2, -⟩ := hd.three; obtain ⟨r0, r1, r2, r3, r4, r5, r6, r7, r8, r9⟩ := hrs.five; have hne : ¬ w.heap.size + 1 = w.heap.size := by omega
           have hne2 : ¬ w.heap.size = w.heap.size + 1 := by omega))
    go_wp2_with fail
    have q1 := (RetZ.qb hu1 hd1 HFL.out).mono (show w.heap.size + 2 ≤ _ from hs2); have q2 := (RetZ.qb hu2 hd2 HCL.out).mono (show w.heap.size + 2 ≤ _ by omega); obtain ⟨W2, hW2, bl, kq, kb, -⟩ := jlh hrs (.bool (decide (f < 0))) (.slice C1 d1.length cc1) (.bool (decide (c < 0))) (.slice C2 d2.length cc2) (.int .i64 q); rw [← hW2]; refine bodyPost_ret (jde rfl _ _ _ _ _ _ _ _ _ rfl bl) rfl ⟨kb _ _ HV2.out (by omega), RetE.yes ⟨_, _, _, _, _, _, _, _, rfl, (kq _ _ _ _ _ _ _ (by omega) q1).mono (by omega), (kq _ _ _ _ _ _ _ (by omega) q2).mono (by omega)⟩⟩
end
end
section
section
open Go.RowKit
open L (val dig nth)
theorem hmf (fn : Fn) (first cap : Array Value) (w : World) : (Instr.makeFunc fn first cap).run Tryz.prog w = .ok (.func fn first cap) w := rfl
end
end
section
section
open Go.RowKit
open L (val dig nth)
end
end
section
section
section
open Go.RowKit
open L (val dig nth)
end
end
section
section
open Go.RowKit
open L (val dig nth)
end
end
section
section
open Go.RowKit
open L (val dig nth)
end
end
end
section
section
open Go.RowKit
open L (val dig nth)
section
variable {w : World} {k k' : Nat} {n m : Bool} {A A' : Option Addr} {len cap len' cap' : Nat} {z y : Int}
end
end
end
section
section
open Go.RowKit
open L (val dig nth)
end
end
section
section
open Go.RowKit
open L (val dig nth)
theorem Ints.two {w : World} {k B g : Nat} {t : TypeId} {n0 n1 : Bool} {A0 A1 : Option Addr} {l0 l1 c0 c1 : Nat} {z0 z1 : Int}
    (h : Blk w g t #[.bool n0, .slice A0 l0 c0, .bool n1, .slice A1 l1 c1]) (h0 : QB w B k n0 A0 l0 c0 z0) (h1 : QB w B k n1 A1 l1 c1 z1) :
    Ints w k B g 2 (pick n0 n1 n1 n1) (pick A0 A1 A1 A1) (pick l0 l1 l1 l1) (pick c0 c1 c1 c1) (pick z0 z1 z1 z1) := by
  refine ⟨h.lt, fun i hi => ?_, fun i hi => ?_, fun i hi => ?_⟩
  all_goals obtain rfl | rfl : i = 0 ∨ i = 1 := by omega
  · exact h.cell 0
  · exact h.cell 2
  · exact h.cell 1
  · exact h.cell 3
  · exact h0
  · exact h1
end
end
end Go.Proofs.YtnkihnggghfioaaGreat
/- cert: reader.dyad. -/
import Derived.Test.YtnkihnggghfioaaGreatCe4
import Derived.Test.YtnkihnggghfioaaGreatDyadA
set_option linter.unusedVariables false
set_option linter.unusedSimpArgs false
namespace Go.Proofs.YtnkihnggghfioaaGreat
open Go.RowKit Go.Shelf
open L (val dig nth)
def dOk (neg : Bool) (ms : List Nat) (e : Int) : Bool :=
  decide (nE (ival neg (val W ms)) e = e ∧ decide (nM (ival neg (val W ms)) e < 0) = neg ∧ dig W (nM (ival neg (val W ms)) e).natAbs = ms)
def pDyad (l : List UInt8) : Option ((Bool × List Nat × Int) × List UInt8) :=
  (pInt 65535 l).bind fun m => (pNum 4 m.2).bind fun e => if dOk m.1.1 m.1.2 ((e.1 : Int) - 65536) then some ((m.1.1, m.1.2, (e.1 : Int) - 65536), e.2) else none
theorem jit : ∀ (k : Nat) (l : List UInt8) (ms : List Nat) (t : List UInt8), pMags k l = some (ms, t) → ms.length * 8 + t.length = l.length ∧ ∀ x ∈ ms, x < 18446744073709551616
  | 0, l, ms, t, h => by
    injection h with h
    injection h with h1 h2
    subst h1 h2; exact ⟨by simp, fun x hx => by cases hx⟩
  | k + 1, l, ms, t, h => by
    rw [pMags] at h
    cases e : pMags k l with
    | none => rw [e] at h; cases h
    | some p =>
      obtain ⟨p1, p2⟩ := p; rw [e] at h; obtain ⟨h1, h2⟩ := jit k l p1 p2 e
      change (pNum 8 p2).map _ = _ at h
      cases e2 : pNum 8 p2 with
      | none => rw [e2] at h; cases h
      | some q =>
        obtain ⟨q1, q2⟩ := q; rw [e2] at h; obtain ⟨-, h3, h4⟩ := jc0 (by decide) e2; injection h with h
        injection h with h5 h6
        subst h5 h6; refine ⟨?_, fun x hx => ?_⟩
        · rw [List.length_append]
          show (p1.length + 1) * 8 + q2.length = _
          omega
        · rcases List.mem_append.1 hx with hx | hx
          · exact h2 x hx
          · simp at hx
            rw [hx]; exact h3
theorem jh1 {most : Nat} {l : List UInt8} {x : Bool × List Nat} {t : List UInt8} (h : pInt most l = some (x, t)) : x.2.length * 8 ≤ l.length ∧ (∀ y ∈ x.2, y < 18446744073709551616) ∧ t.length ≤ l.length := by
  unfold pInt at h
  cases e1 : pBelow 1 1 l with
  | none => rw [e1] at h; cases h
  | some s =>
    rw [e1] at h
    change (pBelow 2 most s.2).bind _ = _ at h
    cases e2 : pBelow 2 most s.2 with
    | none => rw [e2] at h; cases h
    | some n =>
      rw [e2] at h
      change (pMags n.1 n.2).bind _ = _ at h
      cases e3 : pMags n.1 n.2 with
      | none => rw [e3] at h; cases h
      | some m =>
        rw [e3] at h
        change (if _ then none else _) = _ at h
        obtain ⟨h1, h2⟩ := jit n.1 n.2 m.1 m.2 e3; have h3 := jbe (x := s.1) (t := s.2) e1; have h4 := jbe (x := n.1) (t := n.2) e2
        split at h
        · cases h
        · injection h with h
          injection h with h5 h6
          subst h5 h6; exact ⟨by show m.1.length * 8 ≤ _; omega, h2, by omega⟩
def CDyV (w : World) (x : Bool × List Nat × Int) (v : Value) (w' : World) : Prop := ∃ mv, v = .agg #[.bool x.1, mv, .int .i64 x.2.2] ∧ w'.ownsRow w.heap.size 25 1 mv x.2.1.length (ucel x.2.1)
theorem jnu {w : World} {base n : Nat} {mv : Value} {ms : List Nat} (h : w.ownsRow base 25 1 mv n (ucel ms)) (hx : ∀ x ∈ ms, x < 18446744073709551616) : Nums w 0 mv ms := by
  have hl : ms.length = n := by have := h.1; rw [jc2] at this; omega
  have hc := fun g => h.cells (g := g)
  rcases h.2 with ⟨rfl, h0⟩ | ⟨g, cap, cur, rfl, hb, hg, hnc, hcm, hcs, ht⟩
  · have hn : ms = [] := List.eq_nil_of_length_eq_zero (by omega)
    subst hn; exact ⟨none, 0, rfl, ⟨Nat.le_refl _, fun h => absurd h (Nat.lt_irrefl 0)⟩, by decide, hx, fun h => absurd h (Nat.lt_irrefl 0)⟩
  · refine ⟨some ⟨g, 0, none⟩, cap, by rw [hl], ⟨by omega, fun h => absurd h (by decide)⟩, by simp only [maxLen] at hcm; omega, hx, fun h0 => ⟨g, 0, rfl, Nat.zero_le _, (Array.getElem?_eq_some_iff.1 hg).1, fun i hi => ?_⟩⟩
    obtain ⟨x, hx⟩ : ∃ x, ms[i]? = some x := ⟨_, List.getElem?_eq_getElem hi⟩; have := hc g rfl i _ (jh0 hx); rw [Addr.add_lit] at this; rw [this]
    congr 2
    unfold L.nth; simp [List.getD, hx]
theorem jnv {w : World} {B : Nat} {v : Value} {l : List Nat} (h : Nums w B v l) : SlR w v (ucel l) := by
  obtain ⟨A, cap, rfl, -, -, -, h3⟩ := h; refine ⟨A, cap, by rw [jc2], fun h0 => ?_⟩; rw [jc2] at h0; obtain ⟨b, o, rfl, -, h4, h5⟩ := h3 h0; refine ⟨b, o, rfl, h4, fun j u hj => ?_⟩; obtain ⟨hlt, he⟩ := List.getElem?_eq_some_iff.1 hj; rw [jc2] at hlt; rw [h5 j hlt, ← hj, jh0 (List.getElem?_eq_getElem hlt)]; unfold L.nth; simp [List.getD, hlt]
theorem ju9 {z x : Int} {T : Nat} (hz : z.natAbs < T) : (nM z x).natAbs < T := by
  refine Nat.lt_of_le_of_lt (Int.natAbs_ediv_le_natAbs _ _) (Nat.lt_of_le_of_lt ?_ hz); unfold cM
  split <;> simp
theorem jth {w : World} {base base' : Nat} {e : TypeId} {size n : Nat} {v : Value} {xs : List Value} (h : w.ownsRow base e size v n xs) (hb : base' ≤ base) : w.ownsRow base' e size v n xs := by
  refine ⟨h.1, ?_⟩
  rcases h.2 with hn | ⟨g, cap, cur, rfl, hg, rest⟩
  · exact .inl hn
  · exact .inr ⟨g, cap, cur, rfl, Nat.le_trans hb hg, rest⟩
set_option maxRecDepth 100000 in
set_option maxHeartbeats 8000000 in
theorem jg8 (w : World) (R B : Nat) (l : List UInt8) (h : RdS w R B l) (hB : B ≤ w.heap.size) (hll : l.length ≤ 100000) :
    Calls Tryz.prog 16 #[.pointer (some ⟨R, 0, none⟩)] w (Rdg w R B (pDyad l) (CDyV w)) := by
  have hR0 := h.lt; have hal := jac w (.cells #[.bool false, .slice none 0 0, .int .i64 0] 33); have hb0 := heap_alloc_new w (.cells #[.bool false, .slice none 0 0, .int .i64 0] 33); have hs0 : (w.alloc (.cells #[.bool false, .slice none 0 0, .int .i64 0] 33)).heap.size = w.heap.size + 1 := World.size_alloc ..; have h1 := jc1 _ R B l (h.over hal hB) (by omega) 65535 (by decide) (by omega)
  go_enter Tryz.func16, Tryz.ntmps16
  go_wp2_with fail
  refine h1.mono ?_; clear h1; rintro e w1 ⟨hC1, ⟨x1, l1, v1, hp1, rfl, ⟨mv, rfl, hrow1⟩, hR1⟩ | ⟨hp1, rfl⟩⟩
  rotate_left
  · go_wp2_with fail
    exact ⟨rfl, (Chg.of_below hal).trans hC1, .inr ⟨by unfold pDyad; rw [hp1]; rfl, rfl⟩⟩
  obtain ⟨neg, ms⟩ := x1; obtain ⟨hu1, hu2, hu3⟩ := jh1 hp1; have hC1' : Chg (fun k => k = R) w w1 := (Chg.of_below hal).trans hC1; have hb1 : w1.heap[w.heap.size]? = some (.cells #[.bool false, .slice none 0 0, .int .i64 0] 33) := (hC1.block _ (by omega) (by omega)).trans hb0; have hs1 := hC1.size; have hmw0 : ∀ q, mv.ownBlock = some q → q ≠ w.heap.size := fun q hq => by have := (hrow1.lt q hq).1; omega
  obtain ⟨mA, mc, rfl⟩ := jbn hrow1; have hal2 := jac w1 (.cells #[.bool neg, .slice mA ms.length mc, .int .i64 0] 33); have hb2 := heap_alloc_new w1 (.cells #[.bool neg, .slice mA ms.length mc, .int .i64 0] 33); have hs2 : (w1.alloc (.cells #[.bool neg, .slice mA ms.length mc, .int .i64 0] 33)).heap.size = w1.heap.size + 1 := World.size_alloc ..; have h2 := jcl _ R B l1 (hR1.over hal2 (by omega)) 4 (by decide) (by omega); clear hb0
  go_wp2_with fail
  refine h2.mono ?_; clear h2; rintro e w2 ⟨hC2, ⟨n, l2, v2, hp2, rfl, rfl, hR2⟩ | ⟨hp2, rfl⟩⟩
  rotate_left
  · go_wp2_with fail
    exact ⟨rfl, hC1'.trans ((Chg.of_below hal2).trans hC2), .inr ⟨by unfold pDyad; rw [hp1]; show (pNum 4 l1).bind _ = _; rw [hp2]; rfl, rfl⟩⟩
  obtain ⟨-, hn4, hl2⟩ := jc0 (by decide) hp2; obtain ⟨Ab, hAb⟩ : ∃ Ab, w1.heap.size = Ab := ⟨_, rfl⟩; have hwA : w.heap.size < Ab := by omega
  have hAR : Ab ≠ R := by omega
  have hs2' := hC2.size; have hC2' : Chg (fun k => k = R) w w2 := hC1'.trans ((Chg.of_below hal2).trans hC2); have hbA : w2.heap[Ab]? = some (.cells #[.bool neg, .slice mA ms.length mc, .int .i64 0] 33) := (hC2.block _ (by omega) (by omega)).trans (by rw [← hAb]; exact hb2); have hb3 : w2.heap[w.heap.size]? = some (.cells #[.bool false, .slice none 0 0, .int .i64 0] 33) := (hC2.block _ (by omega) (by omega)).trans ((hal2.block _ (by omega)).trans hb1); replace hrow1 := jth hrow1 (base' := w.heap.size) (by omega); have hlt1 := hrow1.lt
  have hrow2 : w2.ownsRow w.heap.size 25 1 (.slice mA ms.length mc) ms.length (ucel ms) := jaf hrow1 fun q hq => by
    have := (hlt1 q hq); exact (hC2.block q (by omega) (by omega)).trans (hal2.block q (by omega))
  replace hn4 : n < 4294967296 := Nat.lt_of_lt_of_le (jc0 (by decide) hp2).1 (by decide); have hAl : Ab < w2.heap.size := by omega
  have hWl : w.heap.size < w2.heap.size := by omega
  have hmq : ∀ q, (Value.slice mA ms.length mc).ownBlock = some q → q ≠ Ab := fun q hq => by have := (hlt1 q hq).2; omega
  have hcv : IntKind.i64.wrap (n : Int) = (n : Int) := IntWalk.i64_in _ (by omega); obtain ⟨E, hE⟩ : ∃ E : Int, (n : Int) - 65536 = E := ⟨_, rfl⟩; have hcs : IntKind.i64.wrap ((n : Int) - 65536) = E := by rw [IntWalk.i64_in _ (by omega), hE]
  have z2 : w2.frozen? ⟨Ab, 2, none⟩ = false := jab hbA; have y2 : w2.cell? ⟨Ab, 2, none⟩ = some (.int .i64 0) := jaa hbA rfl; clear hb1 hb2 hal hal2 hC1 hC2 hR1 hs0; rw [hAb] at *; have hA3 : (w2.setCell ⟨Ab, 2, none⟩ (.int .i64 E)).heap[Ab]? = some (.cells #[.bool neg, .slice mA ms.length mc, .int .i64 E] 33) := jae (o := 2) hbA; have a0 : (w2.setCell ⟨Ab, 2, none⟩ (.int .i64 E)).cell? ⟨Ab, 0, none⟩ = some (.bool neg) := jaa hA3 rfl; have a1 : (w2.setCell ⟨Ab, 2, none⟩ (.int .i64 E)).cell? ⟨Ab, 1, none⟩ = some (.slice mA ms.length mc) := jaa hA3 rfl; have a2 : (w2.setCell ⟨Ab, 2, none⟩ (.int .i64 E)).cell? ⟨Ab, 2, none⟩ = some (.int .i64 E) := jaa hA3 rfl; have hon3 := only_set (w := w2) (b := Ab) (o := 2) (v := .int .i64 E); have hC3 : Chg (fun k => k = R) w (w2.setCell ⟨Ab, 2, none⟩ (.int .i64 E)) := hC2'.step (hon3.chg (F := fun q => q = Ab) rfl) fun q hq => .inr (by omega)
  have hR3 : RdS (w2.setCell ⟨Ab, 2, none⟩ (.int .i64 E)) R B l2 := hR2.of (Nat.le_of_eq hon3.size.symm) (hon3.block R (by omega)) fun q hq _ => hon3.block q (by omega)
  have hr3 : (w2.setCell ⟨Ab, 2, none⟩ (.int .i64 E)).heap[w.heap.size]? = some (.cells #[.bool false, .slice none 0 0, .int .i64 0] 33) := (hon3.block _ (by omega)).trans hb3; have hrow3 : (w2.setCell ⟨Ab, 2, none⟩ (.int .i64 E)).ownsRow w.heap.size 25 1 (.slice mA ms.length mc) ms.length (ucel ms) := jaf hrow2 fun q hq => hon3.block q (hmq q hq)
  obtain ⟨w3, hw3⟩ : ∃ w3, w2.setCell ⟨Ab, 2, none⟩ (.int .i64 E) = w3 := ⟨_, rfl⟩
  have HQ : Hid (pDyad l = if dOk neg ms E then some ((neg, ms, E), l2) else none) := by
    show pDyad l = _
    unfold pDyad; rw [hp1]
    show (pNum 4 l1).bind _ = _
    rw [hp2, ← hE]
    rfl
  have hbn := jcg w3 neg 0 (.slice mA ms.length mc) ms E (jnu (hw3 ▸ hrow3) hu2) (by omega) (by omega) (by omega); obtain ⟨zM, HM⟩ : ∃ z, Hid (nM (ival neg (val W ms)) E = z) := ⟨_, hide rfl⟩; obtain ⟨zE, HE⟩ : ∃ z, Hid (nE (ival neg (val W ms)) E = z) := ⟨_, hide rfl⟩
  have HD : Hid (dOk neg ms E = decide (zE = E ∧ decide (zM < 0) = neg ∧ dig W zM.natAbs = ms)) := by
    show dOk neg ms E = _
    unfold dOk; rw [HM.out, HE.out]
  rw [HM.out, HE.out] at hbn; have hs3 := hon3.size; have HW3 := hideK hw3; clear hw3
  go_wp2_with fail
  have hw3 := HW3.out; clear HW3; rw [hw3] at hC3 hR3 hr3 hrow3 hA3 hs3 ⊢; clear a0 a1 a2; clear hon3 hw3 hC2' hR2 hbA hb3 hrow2 hrow1 hlt1 z2 y2 hE hcs hcv hp1 hp2; refine hbn.mono ?_; clear hbn; rintro e w4 ⟨hb4, u, d, rfl, hd, hcan⟩; have HCAN : Hid (d = dig W zM.natAbs) := hcan; clear hcan; obtain ⟨uA, uc, rfl⟩ : ∃ A c, u = .slice A d.length c := hd.form; have hsz4 := hb4.size; have hC4 : Chg (fun k => k = R) w w4 := hC3.trans (Chg.of_below hb4); have hA4 : w4.heap[Ab]? = some (.cells #[.bool neg, .slice mA ms.length mc, .int .i64 E] 33) := (hb4.block Ab (by omega)).trans hA3; have hr4 : w4.heap[w.heap.size]? = some (.cells #[.bool false, .slice none 0 0, .int .i64 0] 33) := (hb4.block _ (by omega)).trans hr3; have hR4 : RdS w4 R B l2 := hR3.over hb4 (by omega); have hlt3 := hrow3.lt; have hrow4 : w4.ownsRow w.heap.size 25 1 (.slice mA ms.length mc) ms.length (ucel ms) := jaf hrow3 fun q hq => hb4.block q (hlt3 q hq).2
  obtain ⟨sg, hsg⟩ : ∃ b : Bool, decide (zM < 0) = b := ⟨_, rfl⟩; rw [hsg] at HD ⊢; obtain ⟨w5, hw5⟩ : ∃ w5, w4.alloc (.cells #[.bool sg, .slice uA d.length uc, .int .i64 zE] 33) = w5 := ⟨_, rfl⟩; have hal5 : Below w4.heap.size w4 w5 := hw5 ▸ jac w4 _; have hN5 : w5.heap[w4.heap.size]? = some (.cells #[.bool sg, .slice uA d.length uc, .int .i64 zE] 33) := by rw [← hw5]; exact heap_alloc_new w4 _
  have hA5 := (hal5.block Ab (by omega)).trans hA4; have hr5 := (hal5.block w.heap.size (by omega)).trans hr4; have hR5 : RdS w5 R B l2 := hR4.over hal5 (by omega); have hrow5 : w5.ownsRow w.heap.size 25 1 (.slice mA ms.length mc) ms.length (ucel ms) := jaf hrow4 fun q hq => hal5.block q (hrow4.lt q hq).2
  have hC5 : Chg (fun k => k = R) w w5 := hC4.trans (Chg.of_below hal5); have a0 : (w4.alloc (.cells #[.bool sg, .slice uA d.length uc, .int .i64 zE] 33)).cell? ⟨Ab, 0, none⟩ = some (.bool neg) := by rw [hw5]; exact jaa hA5 rfl
  have a1 : (w4.alloc (.cells #[.bool sg, .slice uA d.length uc, .int .i64 zE] 33)).cell? ⟨Ab, 1, none⟩ = some (.slice mA ms.length mc) := by rw [hw5]; exact jaa hA5 rfl
  have a2 : (w4.alloc (.cells #[.bool sg, .slice uA d.length uc, .int .i64 zE] 33)).cell? ⟨Ab, 2, none⟩ = some (.int .i64 E) := by rw [hw5]; exact jaa hA5 rfl
  have n0 : (w4.alloc (.cells #[.bool sg, .slice uA d.length uc, .int .i64 zE] 33)).cell? ⟨w4.heap.size, 0, none⟩ = some (.bool sg) := by rw [hw5]; exact jaa hN5 rfl
  have n1 : (w4.alloc (.cells #[.bool sg, .slice uA d.length uc, .int .i64 zE] 33)).cell? ⟨w4.heap.size, 1, none⟩ = some (.slice uA d.length uc) := by rw [hw5]; exact jaa hN5 rfl
  have n2 : (w4.alloc (.cells #[.bool sg, .slice uA d.length uc, .int .i64 zE] 33)).cell? ⟨w4.heap.size, 2, none⟩ = some (.int .i64 zE) := by rw [hw5]; exact jaa hN5 rfl
  have hsl := jnv (jnu hrow5 hu2); have hsd : SlR w5 (.slice uA d.length uc) (ucel d) := jnv (hd.below hal5)
  have hdl2 : d.length ≤ 1000000 := by
    have h1 : zM.natAbs < W ^ ms.length := by
      rw [← HM.out]; exact ju9 (by rw [jaz]; exact L.val_lt ms hu2)
    have h2 : d.length ≤ ms.length := (Canon.len HCAN.out).2 h1
    omega
  by_cases hEE : zE = E
  rotate_left
  · have hne : (zE != E) = true := by simpa using hEE
    have HQ2 : Hid (pDyad l = none) := by
      show pDyad l = none
      rw [HQ.out, HD.out, if_neg (by simp [hEE])]
    have HW5 := hideK hw5; clear hEE hw5
    go_wp2_with fail
    rw [HW5.out]; exact ⟨rfl, hC5, .inr ⟨HQ2.out, rfl⟩⟩
  subst hEE; have hnf : (zE != zE) = false := by simp
  have hL2 : d.length ≤ 1000000 := hdl2; have heq := jm5 w5 (.slice uA d.length uc) (.slice mA ms.length mc) d ms hsd hsl hL2; have HDm := HD.out; have HW5 := hideK hw5; clear HD hsg
  by_cases hSN : sg = neg
  rotate_left
  · have HQ2 : Hid (pDyad l = none) := by
      show pDyad l = none
      rw [HQ.out, HDm, if_neg (by simp [hSN])]
    clear hw5 HDm heq HQ
    cases sg <;> cases neg <;> first | exact absurd rfl hSN | skip
    all_goals clear hSN
    all_goals go_wp2_with fail
    all_goals rw [HW5.out]
    all_goals exact ⟨rfl, hC5, .inr ⟨HQ2.out, rfl⟩⟩
  subst hSN; rw [← HCAN.out] at HDm; have HD := hideK HDm; clear HDm HCAN; rw [← hw5] at heq; clear hw5; have hmw : ∀ q, (Value.slice mA ms.length mc).ownBlock = some q → q ≠ w.heap.size := fun q hq => hmw0 q hq
  cases sg
  · go_wp2_with fail
    refine heq.mono ?_; rintro e w6 ⟨rfl, hb6⟩; clear heq; rw [HW5.out] at hb6; have hN6 := (hb6.block _ (Array.getElem?_eq_some_iff.1 hN5).1).trans hN5; have hA6 := (hb6.block _ (Array.getElem?_eq_some_iff.1 hA5).1).trans hA5; have hr6 := (hb6.block _ (Array.getElem?_eq_some_iff.1 hr5).1).trans hr5; have hsz5 := hal5.size; have hC6 := hC5.trans (Chg.of_below hb6); have hR6 := hR5.over hb6 (by omega); have hrow6 : w6.ownsRow w.heap.size 25 1 (.slice mA ms.length mc) ms.length (ucel ms) := jaf hrow5 fun q hq => hb6.block q (hrow5.lt q hq).2
    have hmq6 : ∀ q, (Value.slice mA ms.length mc).ownBlock = some q → q ≠ w.heap.size := fun q hq => hmw q hq
    clear a0 a1 a2 n0 n1 n2
    by_cases hdm : d = ms
    · have hdd : decide (d = ms) = true := decide_eq_true hdm
      have HQ2 : Hid (pDyad l = some ((false, ms, zE), l2)) := by
        show pDyad l = _
        rw [HQ.out, HD.out, if_pos (by simp [hdm])]
      clear hdm HQ HD; have a0 : w6.cell? ⟨Ab, 0, none⟩ = some (.bool false) := jaa hA6 rfl; have a1 : w6.cell? ⟨Ab, 1, none⟩ = some (.slice mA ms.length mc) := jaa hA6 rfl; have a2 : w6.cell? ⟨Ab, 2, none⟩ = some (.int .i64 zE) := jaa hA6 rfl; have f0 : w6.frozen? ⟨w.heap.size, 0, none⟩ = false := jab hr6; have f1 : w6.frozen? ⟨w.heap.size, 1, none⟩ = false := jab hr6; have f2 : w6.frozen? ⟨w.heap.size, 2, none⟩ = false := jab hr6; have r0 : w6.cell? ⟨w.heap.size, 0, none⟩ = some (.bool false) := jaa hr6 rfl; have r1 : w6.cell? ⟨w.heap.size, 1, none⟩ = some (.slice none 0 0) := jaa hr6 rfl; have r2 : w6.cell? ⟨w.heap.size, 2, none⟩ = some (.int .i64 0) := jaa hr6 rfl
      go_wp2_with fail
      have hbx : (((w6.setCell ⟨w.heap.size, 0, none⟩ (.bool false)).setCell ⟨w.heap.size, 1, none⟩ (.slice mA ms.length mc)).setCell ⟨w.heap.size, 2, none⟩ (.int .i64 zE)).heap[w.heap.size]? = some (.cells #[.bool false, .slice mA ms.length mc, .int .i64 zE] 33) := by
        have h1 := jae (o := 0) (v := .bool false) hr6; have h2 := jae (o := 1) (v := .slice mA ms.length mc) h1; exact jae (o := 2) (v := .int .i64 zE) h2
      have q0 : (((w6.setCell ⟨w.heap.size, 0, none⟩ (.bool false)).setCell ⟨w.heap.size, 1, none⟩ (.slice mA ms.length mc)).setCell ⟨w.heap.size, 2, none⟩ (.int .i64 zE)).cell? ⟨w.heap.size, 0, none⟩ = some (.bool false) := jaa hbx rfl; have q1 : (((w6.setCell ⟨w.heap.size, 0, none⟩ (.bool false)).setCell ⟨w.heap.size, 1, none⟩ (.slice mA ms.length mc)).setCell ⟨w.heap.size, 2, none⟩ (.int .i64 zE)).cell? ⟨w.heap.size, 1, none⟩ = some (.slice mA ms.length mc) := jaa hbx rfl; have q2 : (((w6.setCell ⟨w.heap.size, 0, none⟩ (.bool false)).setCell ⟨w.heap.size, 1, none⟩ (.slice mA ms.length mc)).setCell ⟨w.heap.size, 2, none⟩ (.int .i64 zE)).cell? ⟨w.heap.size, 2, none⟩ = some (.int .i64 zE) := jaa hbx rfl; have hon := ((only_set (w := w6) (b := w.heap.size) (o := 0) (v := .bool false)).trans (only_set (o := 1) (v := .slice mA ms.length mc))).trans (only_set (o := 2) (v := .int .i64 zE)); refine bodyPost_ret (v := .agg #[.bool false, .slice mA ms.length mc, .int .i64 zE]) ?_ rfl ?_
      · clear hon hbx
        simp [results, Tryz.f16, go_sem, q0, q1, q2]
      · refine ⟨hC6.step (hon.chg (F := fun q => q = w.heap.size) rfl) fun q hq => .inr (by omega), .inl ⟨(false, ms, zE), l2, _, HQ2.out, rfl, ⟨_, rfl, ?_⟩, ?_⟩⟩
        · exact jaf hrow6 fun q hq => hon.block q (hmq6 q hq)
        · exact hR6.of (Nat.le_of_eq hon.size.symm) (hon.block R (by omega)) fun q hq _ => hon.block q (by omega)
    · have hdd : decide (d = ms) = false := decide_eq_false hdm
      have HQ2 : Hid (pDyad l = none) := by
        show pDyad l = _
        rw [HQ.out, HD.out, if_neg (by simp [hdm])]
      clear hdm HQ HD
      go_wp2_with fail
      exact ⟨rfl, hC6, .inr ⟨HQ2.out, rfl⟩⟩
  · go_wp2_with fail
    refine heq.mono ?_; rintro e w6 ⟨rfl, hb6⟩; clear heq; rw [HW5.out] at hb6; have hN6 := (hb6.block _ (Array.getElem?_eq_some_iff.1 hN5).1).trans hN5; have hA6 := (hb6.block _ (Array.getElem?_eq_some_iff.1 hA5).1).trans hA5; have hr6 := (hb6.block _ (Array.getElem?_eq_some_iff.1 hr5).1).trans hr5; have hsz5 := hal5.size; have hC6 := hC5.trans (Chg.of_below hb6); have hR6 := hR5.over hb6 (by omega); have hrow6 : w6.ownsRow w.heap.size 25 1 (.slice mA ms.length mc) ms.length (ucel ms) := jaf hrow5 fun q hq => hb6.block q (hrow5.lt q hq).2
    have hmq6 : ∀ q, (Value.slice mA ms.length mc).ownBlock = some q → q ≠ w.heap.size := fun q hq => hmw q hq
    clear a0 a1 a2 n0 n1 n2
    by_cases hdm : d = ms
    · have hdd : decide (d = ms) = true := decide_eq_true hdm
      have HQ2 : Hid (pDyad l = some ((true, ms, zE), l2)) := by
        show pDyad l = _
        rw [HQ.out, HD.out, if_pos (by simp [hdm])]
      clear hdm HQ HD; have a0 : w6.cell? ⟨Ab, 0, none⟩ = some (.bool true) := jaa hA6 rfl; have a1 : w6.cell? ⟨Ab, 1, none⟩ = some (.slice mA ms.length mc) := jaa hA6 rfl; have a2 : w6.cell? ⟨Ab, 2, none⟩ = some (.int .i64 zE) := jaa hA6 rfl; have f0 : w6.frozen? ⟨w.heap.size, 0, none⟩ = false := jab hr6; have f1 : w6.frozen? ⟨w.heap.size, 1, none⟩ = false := jab hr6; have f2 : w6.frozen? ⟨w.heap.size, 2, none⟩ = false := jab hr6; have r0 : w6.cell? ⟨w.heap.size, 0, none⟩ = some (.bool false) := jaa hr6 rfl; have r1 : w6.cell? ⟨w.heap.size, 1, none⟩ = some (.slice none 0 0) := jaa hr6 rfl; have r2 : w6.cell? ⟨w.heap.size, 2, none⟩ = some (.int .i64 0) := jaa hr6 rfl
      go_wp2_with fail
      have hbx : (((w6.setCell ⟨w.heap.size, 0, none⟩ (.bool true)).setCell ⟨w.heap.size, 1, none⟩ (.slice mA ms.length mc)).setCell ⟨w.heap.size, 2, none⟩ (.int .i64 zE)).heap[w.heap.size]? = some (.cells #[.bool true, .slice mA ms.length mc, .int .i64 zE] 33) := by
        have h1 := jae (o := 0) (v := .bool true) hr6; have h2 := jae (o := 1) (v := .slice mA ms.length mc) h1; exact jae (o := 2) (v := .int .i64 zE) h2
      have q0 : (((w6.setCell ⟨w.heap.size, 0, none⟩ (.bool true)).setCell ⟨w.heap.size, 1, none⟩ (.slice mA ms.length mc)).setCell ⟨w.heap.size, 2, none⟩ (.int .i64 zE)).cell? ⟨w.heap.size, 0, none⟩ = some (.bool true) := jaa hbx rfl; have q1 : (((w6.setCell ⟨w.heap.size, 0, none⟩ (.bool true)).setCell ⟨w.heap.size, 1, none⟩ (.slice mA ms.length mc)).setCell ⟨w.heap.size, 2, none⟩ (.int .i64 zE)).cell? ⟨w.heap.size, 1, none⟩ = some (.slice mA ms.length mc) := jaa hbx rfl; have q2 : (((w6.setCell ⟨w.heap.size, 0, none⟩ (.bool true)).setCell ⟨w.heap.size, 1, none⟩ (.slice mA ms.length mc)).setCell ⟨w.heap.size, 2, none⟩ (.int .i64 zE)).cell? ⟨w.heap.size, 2, none⟩ = some (.int .i64 zE) := jaa hbx rfl; have hon := ((only_set (w := w6) (b := w.heap.size) (o := 0) (v := .bool true)).trans (only_set (o := 1) (v := .slice mA ms.length mc))).trans (only_set (o := 2) (v := .int .i64 zE)); refine bodyPost_ret (v := .agg #[.bool true, .slice mA ms.length mc, .int .i64 zE]) ?_ rfl ?_
      · clear hon hbx
        simp [results, Tryz.f16, go_sem, q0, q1, q2]
      · refine ⟨hC6.step (hon.chg (F := fun q => q = w.heap.size) rfl) fun q hq => .inr (by omega), .inl ⟨(true, ms, zE), l2, _, HQ2.out, rfl, ⟨_, rfl, ?_⟩, ?_⟩⟩
        · exact jaf hrow6 fun q hq => hon.block q (hmq6 q hq)
        · exact hR6.of (Nat.le_of_eq hon.size.symm) (hon.block R (by omega)) fun q hq _ => hon.block q (by omega)
    · have hdd : decide (d = ms) = false := decide_eq_false hdm
      have HQ2 : Hid (pDyad l = none) := by
        show pDyad l = _
        rw [HQ.out, HD.out, if_neg (by simp [hdm])]
      clear hdm HQ HD
      go_wp2_with fail
      exact ⟨rfl, hC6, .inr ⟨HQ2.out, rfl⟩⟩
end Go.Proofs.YtnkihnggghfioaaGreat

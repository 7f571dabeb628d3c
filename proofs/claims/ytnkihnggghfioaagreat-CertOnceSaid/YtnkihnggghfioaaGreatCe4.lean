/- cert: reader.integer (PRINTED BY ce4.py). cert: slices.Equal of limbs. -/
import Derived.Test.YtnkihnggghfioaaGreatCe2
set_option linter.unusedVariables false
set_option linter.unusedSimpArgs false
namespace Go.Proofs.YtnkihnggghfioaaGreat
section
section
open Go.RowKit Go.Shelf
theorem jbe {n most : Nat} {l : List UInt8} {x : Nat} {t : List UInt8} (h : pBelow n most l = some (x, t)) : t.length ≤ l.length := by
  unfold pBelow at h
  cases e : pNum n l with
  | none => rw [e] at h; cases h
  | some p =>
    rw [e] at h
    change (if most < p.1 then none else some p) = _ at h
    split at h
    · cases h
    · injection h with h
      subst h; unfold pNum at e
      split at e
      · injection e with e
        injection e with e1 e2
        rw [← e2, List.length_drop]
        omega
      · cases e
theorem jdg {n most : Nat} {l : List UInt8} {x : Nat} {t : List UInt8} (h : pBelow n most l = some (x, t)) : x ≤ most := by
  unfold pBelow at h
  cases e : pNum n l with
  | none => rw [e] at h; cases h
  | some p =>
    rw [e] at h
    change (if most < p.1 then none else some p) = _ at h
    split at h
    · cases h
    · injection h with h
      subst h
      omega
theorem inf8 : (Tryz.prog.info? 25).map (fun i => (i.zero, i.size, i.bytes)) = some (some (.int .u64 0), 1, 8) := by kernel_rfl
def ucel (ms : List Nat) : List Value := ms.map fun (x : Nat) => Value.int .u64 (x : Int)
def CIntV (w : World) (x : Bool × List Nat) (v : Value) (w' : World) : Prop := ∃ mv, v = .agg #[.bool x.1, mv] ∧ w'.ownsRow w.heap.size 25 1 mv x.2.length (ucel x.2)
theorem jir : ∀ (k : Nat) (l : List UInt8) (ms : List Nat) (t : List UInt8), pMags k l = some (ms, t) → ms.length = k ∧ t.length ≤ l.length
  | 0, l, ms, t, h => by
    injection h with h
    injection h with h1 h2
    subst h1 h2; exact ⟨rfl, Nat.le_refl _⟩
  | k + 1, l, ms, t, h => by
    rw [pMags] at h
    cases e : pMags k l with
    | none => rw [e] at h; cases h
    | some p =>
      obtain ⟨p1, p2⟩ := p; rw [e] at h; obtain ⟨h1, h2⟩ := jir k l p1 p2 e
      change (pNum 8 p2).map _ = _ at h
      cases e2 : pNum 8 p2 with
      | none => rw [e2] at h; cases h
      | some q =>
        obtain ⟨q1, q2⟩ := q; rw [e2] at h; have h3 := (jc0 (by decide) e2).2.2; injection h with h
        injection h with h4 h5
        subst h4 h5; refine ⟨by rw [List.length_append, h1]; rfl, ?_⟩
        show q2.length ≤ _
        omega
theorem jg7 {k : Nat} {l : List UInt8} (h : pMags k l = none) : ∀ j, pMags (k + j) l = none
  | 0 => h
  | j + 1 => by
    rw [← Nat.add_assoc, pMags, jg7 h j]
    rfl
set_option maxRecDepth 100000 in
set_option maxHeartbeats 8000000 in
theorem jc1 (w : World) (R B : Nat) (l : List UInt8) (h : RdS w R B l) (hB : B ≤ w.heap.size) (most : Nat) (hm : most ≤ 100000) (hll : l.length ≤ 1000000) :
    Calls Tryz.prog 31 #[.pointer (some ⟨R, 0, none⟩), .int .u64 (most : Int)] w (Rdg w R B (pInt most l) (CIntV w)) := by
  obtain ⟨i0, hi, hz0, hz1, hz2⟩ := info_parts inf8; have hR0 := h.lt; have hal := jac w (.cells #[.bool false, .slice none 0 0] 31); have hb0 := heap_alloc_new w (.cells #[.bool false, .slice none 0 0] 31); have hs0 : (w.alloc (.cells #[.bool false, .slice none 0 0] 31)).heap.size = w.heap.size + 1 := World.size_alloc ..; have h1 := jcf _ R B l (h.over hal hB) 1 1 (by decide) (by decide) hll
  go_enter Tryz.func31, Tryz.ntmps31
  go_wp2_with fail
  refine h1.mono ?_; clear h1; rintro e w1 ⟨hC1, ⟨s1, l1, v1, hp1, rfl, rfl, hR1⟩ | ⟨hp1, rfl⟩⟩
  rotate_left
  · go_wp2_with fail
    exact ⟨rfl, (Chg.of_below hal).trans (hC1.mono fun _ _ h => h), .inr ⟨by unfold pInt; rw [hp1]; rfl, rfl⟩⟩
  have hC1' : Chg (fun k => k = R) w w1 := (Chg.of_below hal).trans hC1; have hl1 : l1.length ≤ l.length := jbe hp1; have hb1 : w1.heap[w.heap.size]? = some (.cells #[.bool false, .slice none 0 0] 31) := (hC1.block _ (by omega) (by omega)).trans hb0; have hs1 := hC1.size; have hs01 : s1 ≤ 1 := jdg hp1; obtain ⟨neg, hneg⟩ : ∃ neg, decide (s1 = 1) = neg := ⟨_, rfl⟩
  have hneg2 : ((s1 : Int) == 1) = neg := by
    rw [← hneg]
    rcases (by omega : s1 = 0 ∨ s1 = 1) with rfl | rfl <;> rfl
  have hal2 := jac w1 (.cells #[.bool neg, .slice none 0 0] 31); have hb2 := heap_alloc_new w1 (.cells #[.bool neg, .slice none 0 0] 31); have hs2 : (w1.alloc (.cells #[.bool neg, .slice none 0 0] 31)).heap.size = w1.heap.size + 1 := World.size_alloc ..; have h2 := jcf _ R B l1 (hR1.over hal2 (by omega)) 2 most (by decide) (by omega) (by omega); clear hb0
  go_wp2_with fail
  refine h2.mono ?_; clear h2; rintro e w2 ⟨hC2, ⟨n, l2, v2, hp2, rfl, rfl, hR2⟩ | ⟨hp2, rfl⟩⟩
  rotate_left
  · go_wp2_with fail
    exact ⟨rfl, hC1'.trans ((Chg.of_below hal2).trans hC2), .inr ⟨by unfold pInt; rw [hp1]; show (pBelow 2 most l1).bind _ = _; rw [hp2]; rfl, rfl⟩⟩
  have hC2' : Chg (fun k => k = R) w w2 := hC1'.trans ((Chg.of_below hal2).trans hC2); have hl2 : l2.length ≤ l1.length := jbe hp2; have hnm : n ≤ most := jdg hp2; obtain ⟨Ab, hAb⟩ : ∃ Ab, w1.heap.size = Ab := ⟨_, rfl⟩; have hwA : w.heap.size < Ab := by omega
  have hbA : w2.heap[Ab]? = some (.cells #[.bool neg, .slice none 0 0] 31) := (hC2.block _ (by omega) (by omega)).trans (by rw [← hAb]; exact hb2); have hb3 : w2.heap[w.heap.size]? = some (.cells #[.bool false, .slice none 0 0] 31) := (hC2.block _ (by omega) (by omega)).trans ((hal2.block _ (by omega)).trans hb1)
  have hQ : pInt most l = (pMags n l2).bind fun m => if (n = 0 ∧ s1 = 1) ∨ (0 < n ∧ m.1.getLast? = some 0) then none else some ((neg, m.1), m.2) := by
    unfold pInt; rw [hp1]
    show (pBelow 2 most l1).bind _ = _
    rw [hp2, hneg]
    rfl
  have HQ := hideK hQ; have hneg0 := hideK hneg; have hs2' := hC2.size; have hni : (n : Int) ≤ 100000 := by omega
  have hAR : Ab ≠ R := by omega
  rw [hAb] at *; clear hQ hneg hal hal2 hb1 hb2 hp1 hp2 hC1 hC2 hR1
  go_wp2_with fail
  go_loopw [15] (fun i wr => ∃ (k : Nat) (ms : List Nat) (t : List UInt8) (mv : Value), k ≤ n ∧ i = .int .i64 (k : Int) ∧ pMags k l2 = some (ms, t) ∧ RdS wr R B t ∧ wr.heap[Ab]? = some (.cells #[.bool neg, mv] 31) ∧ wr.heap[w.heap.size]? = some (.cells #[.bool false, .slice none 0 0] 31) ∧ wr.ownsRow w.heap.size 25 1 mv ms.length (ucel ms) ∧ (∀ q, mv.ownBlock = some q → q ≠ Ab ∧ q ≠ w.heap.size) ∧ Chg (fun k => k = R) w wr) (fun i _ => n - (intOf i).toNat)
  case atStart => exact ⟨0, [], l2, .slice none 0 0, Nat.zero_le _, rfl, rfl, hR2, hbA, hb3, World.ownsRow_nil _ _ _ _, fun q hq => (by cases hq), hC2'⟩
  case round =>
    clear hR2 hbA hb3 hC2'; obtain ⟨k, ms, t, mv, hk, rfl, hpm, hR, hA, hr0, hrow, hmv, hC⟩ := hrel; have hk0 : (0 : Int) ≤ (k : Int) := by omega
    obtain ⟨hmk, htl⟩ := jir k l2 ms t hpm; have HMK := hideK hmk; have hml : ms.length ≤ 100000 := by omega
    clear hmk; obtain ⟨mA, mc, rfl⟩ := jbn hrow; have hlt := hrow.lt; have hAl : Ab < wr.heap.size := (Array.getElem?_eq_some_iff.1 hA).1; have hsz := hC.size; have hmR : ∀ q, (Value.slice mA ms.length mc).ownBlock = some q → q ≠ R := fun q hq => by have := (hlt q hq).1; omega
    by_cases hkn : k < n
    · have hki : (k : Int) < (n : Int) := by omega
      have hRd := hR.over ((Below.refl _ wr).drew) (by omega); have hnc := jcl wr.drew R B t hRd 8 (by decide) (by omega); obtain ⟨Q8, hQ8⟩ : ∃ Q8, pNum 8 t = Q8 := ⟨_, rfl⟩; have hpm1 : pMags (k + 1) l2 = Q8.map fun q => (ms ++ [q.1], q.2) := by rw [pMags, hpm, ← hQ8]; rfl
      rw [hQ8] at hnc; have H8 := hideK hQ8; clear hQ8; have kA : wr.drew.cell? ⟨Ab, 1, none⟩ = some (.slice mA ms.length mc) := jaa (w := wr.drew) hA rfl
      cases Q8 with
      | none =>
        have hQn : pInt most l = none := by
          rw [HQ.out]; have := jg7 hpm1 (n - (k + 1)); rw [show k + 1 + (n - (k + 1)) = n by omega] at this; rw [this]
          rfl
        go_wp2_with fail
        refine wp_region_held_drew (S := fun _ => True) (by kernel_rfl) trivial (fun hHeld => ?_); refine wpAnyH_take (i := 0) (oi := ⟨_, _, _, _, _, _⟩) (v := .pointer (some ⟨Ab, 1, none⟩)) rfl (by kernel_rfl) (by kernel_rfl) (by kernel_rfl) (fun _ _ _ h => h) (Or.inl ⟨by rfl, ?_⟩) (by assumption) ?_
        · intro w' hS
          go_simp
        try simp only [Act.put, List.setIfInBounds_toArray, List.set_cons_zero, List.set_cons_succ]
        refine wpAnyH_take (i := 2) (oi := ⟨_, _, _, _, _, _⟩) (v := .pointer (some ⟨R, 0, none⟩)) rfl (by kernel_rfl) (by kernel_rfl) (by kernel_rfl) (fun _ _ _ h => h) (Or.inl ⟨by rfl, ?_⟩) (by assumption) ?_
        · intro w' hS
          go_simp
        try simp only [Act.put, List.setIfInBounds_toArray, List.set_cons_zero, List.set_cons_succ]
        refine wpAnyH_ready (rs := [1, 3]) (by kernel_rfl) (by simp) ?_; refine AllReadyH.cons (o := ⟨_, _, _, _, _, _⟩) rfl (fun K hK => ?_) (AllReadyH.cons (o := ⟨_, _, _, _, _, _⟩) rfl (fun K hK => ?_) AllReadyH.nil)
        · go_simp
          refine hK.out _ _ trivial (fun hHeld => ?_); clear hK K
          try simp only [Act.put, List.setIfInBounds_toArray, List.set_cons_zero, List.set_cons_succ]
          refine wpAnyH_ready (rs := [3]) (by kernel_rfl) (by simp) ?_; refine AllReadyH.cons (o := ⟨_, _, _, _, _, _⟩) rfl (fun K hK => ?_) AllReadyH.nil; go_simp; refine hnc.mono ?_; rintro e w5 ⟨hC5, ⟨x, t5, v5, hp5, -⟩ | ⟨-, rfl⟩⟩
          · cases hp5
          · exact ⟨rfl, hC.trans ((Chg.of_below ((Below.refl _ wr).drew)).trans hC5), .inr ⟨hQn, rfl⟩⟩
        · go_simp
          refine hnc.mono ?_; rintro e w5 ⟨hC5, ⟨x, t5, v5, hp5, -⟩ | ⟨-, rfl⟩⟩
          · cases hp5
          · exact ⟨rfl, hC.trans ((Chg.of_below ((Below.refl _ wr).drew)).trans hC5), .inr ⟨hQn, rfl⟩⟩
      | some q8 =>
        obtain ⟨x8, t8⟩ := q8; obtain ⟨-, hx8, htl8⟩ := jc0 (by decide) H8.out; replace hpm1 : pMags (k + 1) l2 = some (ms ++ [x8], t8) := hpm1
        go_wp2_with fail
        refine wp_region_held_drew (S := fun _ => True) (by kernel_rfl) trivial (fun hHeld => ?_); refine wpAnyH_take (i := 0) (oi := ⟨_, _, _, _, _, _⟩) (v := .pointer (some ⟨Ab, 1, none⟩)) rfl (by kernel_rfl) (by kernel_rfl) (by kernel_rfl) (fun _ _ _ h => h) (Or.inl ⟨by rfl, ?_⟩) (by assumption) ?_
        · intro w' hS
          go_simp
        try simp only [Act.put, List.setIfInBounds_toArray, List.set_cons_zero, List.set_cons_succ]
        refine wpAnyH_take (i := 2) (oi := ⟨_, _, _, _, _, _⟩) (v := .pointer (some ⟨R, 0, none⟩)) rfl (by kernel_rfl) (by kernel_rfl) (by kernel_rfl) (fun _ _ _ h => h) (Or.inl ⟨by rfl, ?_⟩) (by assumption) ?_
        · intro w' hS
          go_simp
        try simp only [Act.put, List.setIfInBounds_toArray, List.set_cons_zero, List.set_cons_succ]
        refine wpAnyH_ready (rs := [1, 3]) (by kernel_rfl) (by simp) ?_; refine AllReadyH.cons (o := ⟨_, _, _, _, _, _⟩) rfl (fun K hK => ?_) (AllReadyH.cons (o := ⟨_, _, _, _, _, _⟩) rfl (fun K hK => ?_) AllReadyH.nil)
        · go_simp
          refine hK.out _ _ trivial (fun hHeld => ?_); clear hK K
          try simp only [Act.put, List.setIfInBounds_toArray, List.set_cons_zero, List.set_cons_succ]
          refine wpAnyH_ready (rs := [3]) (by kernel_rfl) (by simp) ?_; refine AllReadyH.cons (o := ⟨_, _, _, _, _, _⟩) rfl (fun K hK => ?_) AllReadyH.nil; go_simp; refine hnc.mono ?_; rintro e w5 ⟨hC5, ⟨x, t5, v5, hp5, rfl, rfl, hR5⟩ | ⟨hp5, -⟩⟩
          rotate_left
          cases hp5
          injection hp5 with hp5
          injection hp5 with hp5 hp6
          subst hp5 hp6; have kA5 : w5.cell? ⟨Ab, 1, none⟩ = some (.slice mA ms.length mc) := (World.cell?_of_block (w := wr.drew) (a := ⟨Ab, 1, none⟩) (hC5.block Ab hAl hAR)).trans kA; have kA6 : (w5.alloc (.cells #[.int .u64 (x8 : Int)] 25)).cell? ⟨Ab, 1, none⟩ = some (.slice mA ms.length mc) := ((jac w5 _).cell (p := ⟨Ab, 1, none⟩) (Nat.lt_of_lt_of_le hAl hC5.size)).trans kA5; have kF6 : (w5.alloc (.cells #[.int .u64 (x8 : Int)] 25)).frozen? ⟨Ab, 1, none⟩ = false := jab (w := w5.alloc _) (((jac w5 _).block Ab (Nat.lt_of_lt_of_le hAl hC5.size)).trans ((hC5.block Ab hAl hAR).trans hA)); have hs5 := hC5.size; have hs5d : wr.heap.size ≤ w5.heap.size := hs5; have hrow5 : (w5.alloc (.cells #[.int .u64 (x8 : Int)] 25)).ownsRow w.heap.size 25 1 (.slice mA ms.length mc) ms.length (ucel ms) := jaf (w := wr.drew) hrow fun q hq => ((jac w5 _).block q (Nat.lt_of_lt_of_le (hlt q hq).2 hs5d)).trans (hC5.block q (hlt q hq).2 (hmR q hq))
          refine hK.out _ _ trivial (fun hHeld => ?_); clear hK K
          try simp only [Act.put, List.setIfInBounds_toArray, List.set_cons_zero, List.set_cons_succ]
          refine wpAnyH_ready (rs := [4]) (by kernel_rfl) (by simp) ?_; refine AllReadyH.cons (o := ⟨_, _, _, _, _, _⟩) rfl (fun K hK => ?_) AllReadyH.nil; go_simp; refine hK.out _ _ trivial (fun hHeld => ?_); clear hK K
          try simp only [Act.put, List.setIfInBounds_toArray, List.set_cons_zero, List.set_cons_succ]
          refine wpAnyH_ready (rs := [5]) (by kernel_rfl) (by simp) ?_; refine AllReadyH.cons (o := ⟨_, _, _, _, _, _⟩) rfl (fun K hK => ?_) AllReadyH.nil; refine step_append_lies _ (by rfl) _ _ _ (by rfl) w.heap.size 25 i0 (.int .u64 0) 1 8 Tryz.underlying29 hi hz0 hz1 hz2 rfl (by decide) (.slice mA ms.length mc) ms.length (ucel ms) (by rfl) hrow5 ⟨w5.heap.size, 0, none⟩ 1 1 [.int .u64 (x8 : Int)] (by rfl) rfl (World.news_of_block (heap_alloc_new w5 _)) (by simp; rfl) (by decide) (by simp only [maxLen]; omega) (by omega) (by rw [World.size_alloc]; omega) _ rfl ?_; intro g cap w6 hown hgrow hat2 hlt2; have m0 : w6.cell? ⟨Ab, 1, none⟩ = some (.slice mA ms.length mc) := (hgrow.cell_far ⟨Ab, 1, none⟩ (by rw [World.size_alloc]; show Ab < _; omega) (fun e => (hmv Ab e.symm).1 rfl)).trans kA6; have m1 : w6.frozen? ⟨Ab, 1, none⟩ = false := (hgrow.frozen_far ⟨Ab, 1, none⟩ (by rw [World.size_alloc]; show Ab < _; omega) (fun e => (hmv Ab e.symm).1 rfl)).trans kF6; refine hK.out _ _ trivial (fun hHeld => ?_); clear hK K
          try simp only [Act.put, List.setIfInBounds_toArray, List.set_cons_zero, List.set_cons_succ]
          refine wpAnyH_ready (rs := [6]) (by kernel_rfl) (by simp) ?_; refine AllReadyH.cons (o := ⟨_, _, _, _, _, _⟩) rfl (fun K hK => ?_) AllReadyH.nil; go_simp; refine hK.out _ _ trivial (fun hHeld => ?_); clear hK K
          try simp only [Act.put, List.setIfInBounds_toArray, List.set_cons_zero, List.set_cons_succ]
          refine wpAnyH_ready (rs := [7]) (by kernel_rfl) (by simp) ?_; refine AllReadyH.cons (o := ⟨_, _, _, _, _, _⟩) rfl (fun K hK => ?_) AllReadyH.nil; go_simp; refine hK.out _ _ trivial (fun hHeld => ?_); clear hK K
          try simp only [Act.put, List.setIfInBounds_toArray, List.set_cons_zero, List.set_cons_succ]
          refine wpAnyH_done (by kernel_rfl) ?_ _
          go_wp2_with fail
          have hg1 : g ≠ Ab ∧ g ≠ w.heap.size := hat2.elim (fun e => hmv g e) fun e => by rw [World.size_alloc] at e; omega
          have hgB : w.heap.size ≤ g := hat2.elim (fun e => (hlt g e).1) fun e => by rw [World.size_alloc] at e; omega
          have hgR : g ≠ R := by omega
          have a6 : w6.heap[Ab]? = some (.cells #[.bool neg, .slice mA ms.length mc] 31) := (hgrow.block Ab (by rw [World.size_alloc]; omega) (fun e => (hmv Ab e.symm).1 rfl)).trans (((jac w5 _).block Ab (by omega)).trans ((hC5.block Ab hAl hAR).trans hA)); have r6 : w6.heap[w.heap.size]? = some (.cells #[.bool false, .slice none 0 0] 31) := (hgrow.block _ (by rw [World.size_alloc]; omega) (fun e => (hmv _ e.symm).2 rfl)).trans (((jac w5 _).block _ (by omega)).trans ((hC5.block _ (by show w.heap.size < wr.heap.size; omega) (by omega)).trans hr0)); have R6 : RdS w6 R B t8 := (hR5.over (jac w5 _) (by omega)).of hgrow.size (hgrow.block R (by have := hR5.lt; rw [World.size_alloc]; omega) fun e => hmR R e.symm rfl) fun q hq hqR => hgrow.block q (by rw [World.size_alloc]; omega) fun e => by have := (hlt q e.symm).1; omega
          have hon := only_set (w := w6) (b := Ab) (o := 1) (v := .slice (some ⟨g, 0, none⟩) (ms.length + 1) cap); have C6 : Chg (fun q => q = R) w w6 := ((hC.trans ((Chg.of_below ((Below.refl _ wr).drew)).trans hC5)).trans (Chg.of_below (jac w5 _))).step (G := fun q => (Value.slice mA ms.length mc).ownBlock = some q) ⟨hgrow.os, hgrow.tape, hgrow.output, hgrow.size, fun q hq hn => hgrow.block q hq fun e => hn e.symm⟩ fun q hq => .inr (hlt q hq).1
          refine ⟨⟨k + 1, ms ++ [x8], t8, .slice (some ⟨g, 0, none⟩) (ms.length + 1) cap, by omega, rfl, hpm1, R6.of (Nat.le_of_eq hon.size.symm) (hon.block R (fun e => hAR e.symm)) (fun q hq _ => hon.block q (by omega)), ?_, (hon.block _ (by omega)).trans r6, ?_, ?_, C6.step (hon.chg (F := fun q => q = Ab) rfl) fun q hq => .inr (by omega)⟩, by simp only [intOf]; omega⟩
          · exact jae (o := 1) a6
          · rw [List.length_append, show ucel (ms ++ [x8]) = ucel ms ++ [.int .u64 (x8 : Int)] by unfold ucel; rw [List.map_append]; rfl]
            exact jaf hown fun q hq => hon.block q (by
              obtain rfl : g = q := by simpa [Value.ownBlock] using hq
              exact hg1.1)
          · intro q hq
            obtain rfl : g = q := by simpa [Value.ownBlock] using hq
            exact hg1
        · go_simp
          refine hnc.mono ?_; rintro e w5 ⟨hC5, ⟨x, t5, v5, hp5, rfl, rfl, hR5⟩ | ⟨hp5, -⟩⟩
          rotate_left
          cases hp5
          injection hp5 with hp5
          injection hp5 with hp5 hp6
          subst hp5 hp6; have kA5 : w5.cell? ⟨Ab, 1, none⟩ = some (.slice mA ms.length mc) := (World.cell?_of_block (w := wr.drew) (a := ⟨Ab, 1, none⟩) (hC5.block Ab hAl hAR)).trans kA; have kA6 : (w5.alloc (.cells #[.int .u64 (x8 : Int)] 25)).cell? ⟨Ab, 1, none⟩ = some (.slice mA ms.length mc) := ((jac w5 _).cell (p := ⟨Ab, 1, none⟩) (Nat.lt_of_lt_of_le hAl hC5.size)).trans kA5; have kF6 : (w5.alloc (.cells #[.int .u64 (x8 : Int)] 25)).frozen? ⟨Ab, 1, none⟩ = false := jab (w := w5.alloc _) (((jac w5 _).block Ab (Nat.lt_of_lt_of_le hAl hC5.size)).trans ((hC5.block Ab hAl hAR).trans hA)); have hs5 := hC5.size; have hs5d : wr.heap.size ≤ w5.heap.size := hs5; have hrow5 : (w5.alloc (.cells #[.int .u64 (x8 : Int)] 25)).ownsRow w.heap.size 25 1 (.slice mA ms.length mc) ms.length (ucel ms) := jaf (w := wr.drew) hrow fun q hq => ((jac w5 _).block q (Nat.lt_of_lt_of_le (hlt q hq).2 hs5d)).trans (hC5.block q (hlt q hq).2 (hmR q hq))
          refine hK.out _ _ trivial (fun hHeld => ?_); clear hK K
          try simp only [Act.put, List.setIfInBounds_toArray, List.set_cons_zero, List.set_cons_succ]
          refine wpAnyH_ready (rs := [1, 4]) (by kernel_rfl) (by simp) ?_; refine AllReadyH.cons (o := ⟨_, _, _, _, _, _⟩) rfl (fun K hK => ?_) (AllReadyH.cons (o := ⟨_, _, _, _, _, _⟩) rfl (fun K hK => ?_) AllReadyH.nil)
          · go_simp
            refine hK.out _ _ trivial (fun hHeld => ?_); clear hK K
            try simp only [Act.put, List.setIfInBounds_toArray, List.set_cons_zero, List.set_cons_succ]
            refine wpAnyH_ready (rs := [4]) (by kernel_rfl) (by simp) ?_; refine AllReadyH.cons (o := ⟨_, _, _, _, _, _⟩) rfl (fun K hK => ?_) AllReadyH.nil; go_simp; refine hK.out _ _ trivial (fun hHeld => ?_); clear hK K
            try simp only [Act.put, List.setIfInBounds_toArray, List.set_cons_zero, List.set_cons_succ]
            refine wpAnyH_ready (rs := [5]) (by kernel_rfl) (by simp) ?_; refine AllReadyH.cons (o := ⟨_, _, _, _, _, _⟩) rfl (fun K hK => ?_) AllReadyH.nil; refine step_append_lies _ (by rfl) _ _ _ (by rfl) w.heap.size 25 i0 (.int .u64 0) 1 8 Tryz.underlying29 hi hz0 hz1 hz2 rfl (by decide) (.slice mA ms.length mc) ms.length (ucel ms) (by rfl) hrow5 ⟨w5.heap.size, 0, none⟩ 1 1 [.int .u64 (x8 : Int)] (by rfl) rfl (World.news_of_block (heap_alloc_new w5 _)) (by simp; rfl) (by decide) (by simp only [maxLen]; omega) (by omega) (by rw [World.size_alloc]; omega) _ rfl ?_; intro g cap w6 hown hgrow hat2 hlt2; have m0 : w6.cell? ⟨Ab, 1, none⟩ = some (.slice mA ms.length mc) := (hgrow.cell_far ⟨Ab, 1, none⟩ (by rw [World.size_alloc]; show Ab < _; omega) (fun e => (hmv Ab e.symm).1 rfl)).trans kA6; have m1 : w6.frozen? ⟨Ab, 1, none⟩ = false := (hgrow.frozen_far ⟨Ab, 1, none⟩ (by rw [World.size_alloc]; show Ab < _; omega) (fun e => (hmv Ab e.symm).1 rfl)).trans kF6; refine hK.out _ _ trivial (fun hHeld => ?_); clear hK K
            try simp only [Act.put, List.setIfInBounds_toArray, List.set_cons_zero, List.set_cons_succ]
            refine wpAnyH_ready (rs := [6]) (by kernel_rfl) (by simp) ?_; refine AllReadyH.cons (o := ⟨_, _, _, _, _, _⟩) rfl (fun K hK => ?_) AllReadyH.nil; go_simp; refine hK.out _ _ trivial (fun hHeld => ?_); clear hK K
            try simp only [Act.put, List.setIfInBounds_toArray, List.set_cons_zero, List.set_cons_succ]
            refine wpAnyH_ready (rs := [7]) (by kernel_rfl) (by simp) ?_; refine AllReadyH.cons (o := ⟨_, _, _, _, _, _⟩) rfl (fun K hK => ?_) AllReadyH.nil; go_simp; refine hK.out _ _ trivial (fun hHeld => ?_); clear hK K
            try simp only [Act.put, List.setIfInBounds_toArray, List.set_cons_zero, List.set_cons_succ]
            refine wpAnyH_done (by kernel_rfl) ?_ _
            go_wp2_with fail
            have hg1 : g ≠ Ab ∧ g ≠ w.heap.size := hat2.elim (fun e => hmv g e) fun e => by rw [World.size_alloc] at e; omega
            have hgB : w.heap.size ≤ g := hat2.elim (fun e => (hlt g e).1) fun e => by rw [World.size_alloc] at e; omega
            have hgR : g ≠ R := by omega
            have a6 : w6.heap[Ab]? = some (.cells #[.bool neg, .slice mA ms.length mc] 31) := (hgrow.block Ab (by rw [World.size_alloc]; omega) (fun e => (hmv Ab e.symm).1 rfl)).trans (((jac w5 _).block Ab (by omega)).trans ((hC5.block Ab hAl hAR).trans hA)); have r6 : w6.heap[w.heap.size]? = some (.cells #[.bool false, .slice none 0 0] 31) := (hgrow.block _ (by rw [World.size_alloc]; omega) (fun e => (hmv _ e.symm).2 rfl)).trans (((jac w5 _).block _ (by omega)).trans ((hC5.block _ (by show w.heap.size < wr.heap.size; omega) (by omega)).trans hr0)); have R6 : RdS w6 R B t8 := (hR5.over (jac w5 _) (by omega)).of hgrow.size (hgrow.block R (by have := hR5.lt; rw [World.size_alloc]; omega) fun e => hmR R e.symm rfl) fun q hq hqR => hgrow.block q (by rw [World.size_alloc]; omega) fun e => by have := (hlt q e.symm).1; omega
            have hon := only_set (w := w6) (b := Ab) (o := 1) (v := .slice (some ⟨g, 0, none⟩) (ms.length + 1) cap); have C6 : Chg (fun q => q = R) w w6 := ((hC.trans ((Chg.of_below ((Below.refl _ wr).drew)).trans hC5)).trans (Chg.of_below (jac w5 _))).step (G := fun q => (Value.slice mA ms.length mc).ownBlock = some q) ⟨hgrow.os, hgrow.tape, hgrow.output, hgrow.size, fun q hq hn => hgrow.block q hq fun e => hn e.symm⟩ fun q hq => .inr (hlt q hq).1
            refine ⟨⟨k + 1, ms ++ [x8], t8, .slice (some ⟨g, 0, none⟩) (ms.length + 1) cap, by omega, rfl, hpm1, R6.of (Nat.le_of_eq hon.size.symm) (hon.block R (fun e => hAR e.symm)) (fun q hq _ => hon.block q (by omega)), ?_, (hon.block _ (by omega)).trans r6, ?_, ?_, C6.step (hon.chg (F := fun q => q = Ab) rfl) fun q hq => .inr (by omega)⟩, by simp only [intOf]; omega⟩
            · exact jae (o := 1) a6
            · rw [List.length_append, show ucel (ms ++ [x8]) = ucel ms ++ [.int .u64 (x8 : Int)] by unfold ucel; rw [List.map_append]; rfl]
              exact jaf hown fun q hq => hon.block q (by
                obtain rfl : g = q := by simpa [Value.ownBlock] using hq
                exact hg1.1)
            · intro q hq
              obtain rfl : g = q := by simpa [Value.ownBlock] using hq
              exact hg1
          · go_simp
            refine hK.out _ _ trivial (fun hHeld => ?_); clear hK K
            try simp only [Act.put, List.setIfInBounds_toArray, List.set_cons_zero, List.set_cons_succ]
            refine wpAnyH_ready (rs := [1]) (by kernel_rfl) (by simp) ?_; refine AllReadyH.cons (o := ⟨_, _, _, _, _, _⟩) rfl (fun K hK => ?_) AllReadyH.nil; go_simp; refine hK.out _ _ trivial (fun hHeld => ?_); clear hK K
            try simp only [Act.put, List.setIfInBounds_toArray, List.set_cons_zero, List.set_cons_succ]
            refine wpAnyH_ready (rs := [5]) (by kernel_rfl) (by simp) ?_; refine AllReadyH.cons (o := ⟨_, _, _, _, _, _⟩) rfl (fun K hK => ?_) AllReadyH.nil; refine step_append_lies _ (by rfl) _ _ _ (by rfl) w.heap.size 25 i0 (.int .u64 0) 1 8 Tryz.underlying29 hi hz0 hz1 hz2 rfl (by decide) (.slice mA ms.length mc) ms.length (ucel ms) (by rfl) hrow5 ⟨w5.heap.size, 0, none⟩ 1 1 [.int .u64 (x8 : Int)] (by rfl) rfl (World.news_of_block (heap_alloc_new w5 _)) (by simp; rfl) (by decide) (by simp only [maxLen]; omega) (by omega) (by rw [World.size_alloc]; omega) _ rfl ?_; intro g cap w6 hown hgrow hat2 hlt2; have m0 : w6.cell? ⟨Ab, 1, none⟩ = some (.slice mA ms.length mc) := (hgrow.cell_far ⟨Ab, 1, none⟩ (by rw [World.size_alloc]; show Ab < _; omega) (fun e => (hmv Ab e.symm).1 rfl)).trans kA6; have m1 : w6.frozen? ⟨Ab, 1, none⟩ = false := (hgrow.frozen_far ⟨Ab, 1, none⟩ (by rw [World.size_alloc]; show Ab < _; omega) (fun e => (hmv Ab e.symm).1 rfl)).trans kF6; refine hK.out _ _ trivial (fun hHeld => ?_); clear hK K
            try simp only [Act.put, List.setIfInBounds_toArray, List.set_cons_zero, List.set_cons_succ]
            refine wpAnyH_ready (rs := [6]) (by kernel_rfl) (by simp) ?_; refine AllReadyH.cons (o := ⟨_, _, _, _, _, _⟩) rfl (fun K hK => ?_) AllReadyH.nil; go_simp; refine hK.out _ _ trivial (fun hHeld => ?_); clear hK K
            try simp only [Act.put, List.setIfInBounds_toArray, List.set_cons_zero, List.set_cons_succ]
            refine wpAnyH_ready (rs := [7]) (by kernel_rfl) (by simp) ?_; refine AllReadyH.cons (o := ⟨_, _, _, _, _, _⟩) rfl (fun K hK => ?_) AllReadyH.nil; go_simp; refine hK.out _ _ trivial (fun hHeld => ?_); clear hK K
            try simp only [Act.put, List.setIfInBounds_toArray, List.set_cons_zero, List.set_cons_succ]
            refine wpAnyH_done (by kernel_rfl) ?_ _
            go_wp2_with fail
            have hg1 : g ≠ Ab ∧ g ≠ w.heap.size := hat2.elim (fun e => hmv g e) fun e => by rw [World.size_alloc] at e; omega
            have hgB : w.heap.size ≤ g := hat2.elim (fun e => (hlt g e).1) fun e => by rw [World.size_alloc] at e; omega
            have hgR : g ≠ R := by omega
            have a6 : w6.heap[Ab]? = some (.cells #[.bool neg, .slice mA ms.length mc] 31) := (hgrow.block Ab (by rw [World.size_alloc]; omega) (fun e => (hmv Ab e.symm).1 rfl)).trans (((jac w5 _).block Ab (by omega)).trans ((hC5.block Ab hAl hAR).trans hA)); have r6 : w6.heap[w.heap.size]? = some (.cells #[.bool false, .slice none 0 0] 31) := (hgrow.block _ (by rw [World.size_alloc]; omega) (fun e => (hmv _ e.symm).2 rfl)).trans (((jac w5 _).block _ (by omega)).trans ((hC5.block _ (by show w.heap.size < wr.heap.size; omega) (by omega)).trans hr0)); have R6 : RdS w6 R B t8 := (hR5.over (jac w5 _) (by omega)).of hgrow.size (hgrow.block R (by have := hR5.lt; rw [World.size_alloc]; omega) fun e => hmR R e.symm rfl) fun q hq hqR => hgrow.block q (by rw [World.size_alloc]; omega) fun e => by have := (hlt q e.symm).1; omega
            have hon := only_set (w := w6) (b := Ab) (o := 1) (v := .slice (some ⟨g, 0, none⟩) (ms.length + 1) cap); have C6 : Chg (fun q => q = R) w w6 := ((hC.trans ((Chg.of_below ((Below.refl _ wr).drew)).trans hC5)).trans (Chg.of_below (jac w5 _))).step (G := fun q => (Value.slice mA ms.length mc).ownBlock = some q) ⟨hgrow.os, hgrow.tape, hgrow.output, hgrow.size, fun q hq hn => hgrow.block q hq fun e => hn e.symm⟩ fun q hq => .inr (hlt q hq).1
            refine ⟨⟨k + 1, ms ++ [x8], t8, .slice (some ⟨g, 0, none⟩) (ms.length + 1) cap, by omega, rfl, hpm1, R6.of (Nat.le_of_eq hon.size.symm) (hon.block R (fun e => hAR e.symm)) (fun q hq _ => hon.block q (by omega)), ?_, (hon.block _ (by omega)).trans r6, ?_, ?_, C6.step (hon.chg (F := fun q => q = Ab) rfl) fun q hq => .inr (by omega)⟩, by simp only [intOf]; omega⟩
            · exact jae (o := 1) a6
            · rw [List.length_append, show ucel (ms ++ [x8]) = ucel ms ++ [.int .u64 (x8 : Int)] by unfold ucel; rw [List.map_append]; rfl]
              exact jaf hown fun q hq => hon.block q (by
                obtain rfl : g = q := by simpa [Value.ownBlock] using hq
                exact hg1.1)
            · intro q hq
              obtain rfl : g = q := by simpa [Value.ownBlock] using hq
              exact hg1
    · obtain rfl : k = n := by omega
      have hki : ¬(k : Int) < (k : Int) := by omega
      have HQ2 : pInt most l = if (k = 0 ∧ s1 = 1) ∨ (0 < k ∧ ms.getLast? = some 0) then none else some ((neg, ms), t) := by rw [HQ.out, hpm]; rfl
      have HQ3 := hideK HQ2; have HNG := hideK (show neg = decide (s1 = 1) by rw [← hneg0.out]); clear HQ2 HQ; have a0 : wr.cell? ⟨Ab, 0, none⟩ = some (.bool neg) := jaa hA rfl; have a1 : wr.cell? ⟨Ab, 1, none⟩ = some (.slice mA ms.length mc) := jaa hA rfl; have z0 : wr.frozen? ⟨w.heap.size, 0, none⟩ = false := jab hr0; have z1 : wr.frozen? ⟨w.heap.size, 1, none⟩ = false := jab hr0; have y0 : wr.cell? ⟨w.heap.size, 0, none⟩ = some (.bool false) := jaa hr0 rfl; have y1 : wr.cell? ⟨w.heap.size, 1, none⟩ = some (.slice none 0 0) := jaa hr0 rfl; have hkml : k = ms.length := HMK.out.symm; clear HMK
      by_cases hk00 : k = 0
      · have hms : ms = [] := List.eq_nil_of_length_eq_zero (by omega)
        have hkz : ((k : Int) == 0) = true := by simp [hk00]
        have hkzi : (k : Int) = 0 := by omega
        cases neg with
        | true =>
          have hs11 : s1 = 1 := by simpa using HNG.out.symm
          have HYES : (k = 0 ∧ s1 = 1) ∨ (0 < k ∧ ms.getLast? = some 0) := .inl ⟨hk00, hs11⟩; clear hk00 hms hkml hkzi
          go_wp2_with fail
          exact ⟨rfl, hC, .inr ⟨by rw [HQ3.out, if_pos HYES], rfl⟩⟩
        | false =>
          have hs11 : ¬s1 = 1 := by simpa using HNG.out.symm
          have HNO : ¬((k = 0 ∧ s1 = 1) ∨ (0 < k ∧ ms.getLast? = some 0)) := fun h => h.elim (fun h => hs11 h.2) fun h => by omega
          have hkd : decide (0 < k) = false := decide_eq_false (by omega); clear hk00 hms hkml hkzi
          go_wp2_with fail
          have hbx : ((wr.setCell ⟨w.heap.size, 0, none⟩ (.bool false)).setCell ⟨w.heap.size, 1, none⟩ (.slice mA ms.length mc)).heap[w.heap.size]? = some (.cells #[.bool false, .slice mA ms.length mc] 31) := by
            have h1 := jae (o := 0) (v := .bool false) hr0; exact jae (o := 1) (v := .slice mA ms.length mc) h1
          have q0 : ((wr.setCell ⟨w.heap.size, 0, none⟩ (.bool false)).setCell ⟨w.heap.size, 1, none⟩ (.slice mA ms.length mc)).cell? ⟨w.heap.size, 0, none⟩ = some (.bool false) := jaa hbx rfl; have q1 : ((wr.setCell ⟨w.heap.size, 0, none⟩ (.bool false)).setCell ⟨w.heap.size, 1, none⟩ (.slice mA ms.length mc)).cell? ⟨w.heap.size, 1, none⟩ = some (.slice mA ms.length mc) := jaa hbx rfl; have hon := (only_set (w := wr) (b := w.heap.size) (o := 0) (v := .bool false)).trans (only_set (o := 1) (v := .slice mA ms.length mc)); refine bodyPost_ret (v := .agg #[.bool false, .slice mA ms.length mc]) ?_ rfl ?_
          · clear hon hbx
            simp [results, Tryz.f31, go_sem, q0, q1]
          · refine ⟨hC.step (hon.chg (F := fun q => q = w.heap.size) rfl) fun q hq => .inr (by omega), .inl ⟨(false, ms), t, _, by rw [HQ3.out, if_neg HNO], rfl, ⟨_, rfl, ?_⟩, ?_⟩⟩
            · exact jaf hrow fun q hq => hon.block q (hmv q hq).2
            · exact hR.of (Nat.le_of_eq hon.size.symm) (hon.block R (by omega)) fun q hq _ => hon.block q (by omega)
      · have hkz : ((k : Int) == 0) = false := by rw [beq_eq_false_iff_ne]; omega
        have hkd : decide (0 < k) = true := decide_eq_true (by omega); have hkp : 0 < k := by omega
        have hkpi : (0 : Int) < (k : Int) := by omega
        obtain ⟨g, cap, he, -⟩ := hrow.form (by omega); injection he with he1 he2 he3
        subst he1; subst he3; clear he2; obtain ⟨x, hx⟩ : ∃ x, ms[k - 1]? = some x := ⟨_, List.getElem?_eq_getElem (by omega)⟩; have hlast : ms.getLast? = some x := by rw [List.getLast?_eq_getElem?, ← hkml]; exact hx
        have hcx := hrow.cells (g := g) rfl (k - 1) (.int .u64 (x : Int)) (by unfold ucel; rw [List.getElem?_map, hx]; rfl); rw [Addr.add_lit, Nat.zero_add] at hcx; have hw1 : IntKind.i64.wrap ((k : Int) - 1) = ((k - 1 : Nat) : Int) := by rw [IntWalk.i64_in _ (by omega)]; omega
        have hix : ((k - 1 : Nat) : Int) < (ms.length : Int) := by omega
        have hix0 : (0 : Int) ≤ ((k - 1 : Nat) : Int) := by omega
        by_cases hx0 : x = 0
        · have HYES : (k = 0 ∧ s1 = 1) ∨ (0 < k ∧ ms.getLast? = some 0) := .inr ⟨hkp, by rw [hlast, hx0]⟩
          have hxz : ((x : Int) == 0) = true := by simp [hx0]
          clear hk00 hkml hx0 hlast hx
          go_wp2_with fail
          exact ⟨rfl, hC, .inr ⟨by rw [HQ3.out, if_pos HYES], rfl⟩⟩
        · have HNO : ¬((k = 0 ∧ s1 = 1) ∨ (0 < k ∧ ms.getLast? = some 0)) := fun h => h.elim (fun h => hk00 h.1) fun h => by
            have h2 := h.2; rw [hlast] at h2; injection h2 with h2
            exact hx0 h2
          have hxz : ((x : Int) == 0) = false := by rw [beq_eq_false_iff_ne]; omega
          clear hk00 hkml hx0 hlast hx
          go_wp2_with fail
          have hbx : ((wr.setCell ⟨w.heap.size, 0, none⟩ (.bool neg)).setCell ⟨w.heap.size, 1, none⟩ (.slice (some ⟨g, 0, none⟩) ms.length mc)).heap[w.heap.size]? = some (.cells #[.bool neg, .slice (some ⟨g, 0, none⟩) ms.length mc] 31) := by
            have h1 := jae (o := 0) (v := .bool neg) hr0; exact jae (o := 1) (v := .slice (some ⟨g, 0, none⟩) ms.length mc) h1
          have q0 : ((wr.setCell ⟨w.heap.size, 0, none⟩ (.bool neg)).setCell ⟨w.heap.size, 1, none⟩ (.slice (some ⟨g, 0, none⟩) ms.length mc)).cell? ⟨w.heap.size, 0, none⟩ = some (.bool neg) := jaa hbx rfl; have q1 : ((wr.setCell ⟨w.heap.size, 0, none⟩ (.bool neg)).setCell ⟨w.heap.size, 1, none⟩ (.slice (some ⟨g, 0, none⟩) ms.length mc)).cell? ⟨w.heap.size, 1, none⟩ = some (.slice (some ⟨g, 0, none⟩) ms.length mc) := jaa hbx rfl; have hon := (only_set (w := wr) (b := w.heap.size) (o := 0) (v := .bool neg)).trans (only_set (o := 1) (v := .slice (some ⟨g, 0, none⟩) ms.length mc)); refine bodyPost_ret (v := .agg #[.bool neg, .slice (some ⟨g, 0, none⟩) ms.length mc]) ?_ rfl ?_
          · clear hon hbx
            simp [results, Tryz.f31, go_sem, q0, q1]
          · refine ⟨hC.step (hon.chg (F := fun q => q = w.heap.size) rfl) fun q hq => .inr (by omega), .inl ⟨(neg, ms), t, _, by rw [HQ3.out, if_neg HNO], rfl, ⟨_, rfl, ?_⟩, ?_⟩⟩
            · exact jaf hrow fun q hq => hon.block q (hmv q hq).2
            · exact hR.of (Nat.le_of_eq hon.size.symm) (hon.block R (by omega)) fun q hq _ => hon.block q (by omega)
end
end
section
section
open Go.RowKit Go.Shelf
def SlR (w : World) (v : Value) (us : List Value) : Prop := ∃ A c, v = .slice A us.length c ∧ (0 < us.length → ∃ b o, A = some ⟨b, o, none⟩ ∧ b < w.heap.size ∧ w.rangeAt b o us)
theorem Sl.r {w : World} {v : Value} {us : List Value} (h : Sl w v us) : SlR w v us := by
  obtain ⟨A, c, h1, -, -, -, h2⟩ := h; exact ⟨A, c, h1, h2⟩
theorem jc2 (ms : List Nat) : (ucel ms).length = ms.length := List.length_map ..
theorem jh0 {ms : List Nat} {k x : Nat} (h : ms[k]? = some x) : (ucel ms)[k]? = some (.int .u64 (x : Int)) := by unfold ucel; rw [List.getElem?_map, h]; rfl
theorem jis {a b : List Nat} {k : Nat} {x y : Nat} (hx : a[k]? = some x) (hy : b[k]? = some y) (h : a.take k = b.take k) : a.take (k + 1) = b.take (k + 1) ↔ x = y := by
  rw [List.take_add_one, List.take_add_one, hx, hy, h]; simp
set_option maxRecDepth 100000 in
set_option maxHeartbeats 4000000 in
theorem jm5 (w : World) (u v : Value) (a b : List Nat) (hu : SlR w u (ucel a)) (hv : SlR w v (ucel b)) (ha : a.length ≤ 1000000) :
    Calls Tryz.prog 33 #[u, v] w fun e w' => e = .returned (.bool (decide (a = b))) ∧ Below w.heap.size w w' := by
  obtain ⟨A, c, rfl, h4⟩ := hu; obtain ⟨A2, c2, rfl, k4⟩ := hv; rw [jc2] at h4 k4; rw [jc2, jc2]; obtain ⟨m, hm⟩ : ∃ m, a.length = m := ⟨_, rfl⟩; obtain ⟨n, hn⟩ : ∃ n, b.length = n := ⟨_, rfl⟩; rw [hm] at h4 ha ⊢; rw [hn] at k4 ⊢
  by_cases hmn : m = n
  · subst hmn
    have hmm : ((m : Int) != (m : Int)) = false := by simp
    have hmi : (m : Int) ≤ 1000000 := by omega
    go_enter Tryz.func33, Tryz.ntmps33
    go_wp2_with fail
    go_loopw [13] (fun i wr => ∃ k : Nat, k ≤ m ∧ i = .int .i64 (k : Int) ∧ a.take k = b.take k ∧ Below w.heap.size w wr) (fun i _ => m - (intOf i).toNat)
    case atStart => exact ⟨0, Nat.zero_le _, rfl, rfl, Below.refl _ _⟩
    case round =>
      obtain ⟨k, hk, rfl, ht, hB⟩ := hrel; have hk0 : (0 : Int) ≤ (k : Int) := by omega
      by_cases hkm : k < m
      · have hki : (k : Int) < (m : Int) := by omega
        obtain ⟨p, o, rfl, hp, hr⟩ := h4 (by omega); obtain ⟨p2, o2, rfl, hp2, hr2⟩ := k4 (by omega); obtain ⟨x, hx⟩ : ∃ x, a[k]? = some x := ⟨_, List.getElem?_eq_getElem (by omega)⟩; obtain ⟨y, hy⟩ : ∃ y, b[k]? = some y := ⟨_, List.getElem?_eq_getElem (by omega)⟩; have hc1 := (hB.cell (p := ⟨p, o + k, none⟩) hp).trans (hr k _ (jh0 hx)); have hc2 := (hB.cell (p := ⟨p2, o2 + k, none⟩) hp2).trans (hr2 k _ (jh0 hy)); have hst := jis hx hy ht
        by_cases hxy : x = y
        · have hb : ((x : Int) != (y : Int)) = false := by rw [bne_eq_false_iff_eq]; omega
          have ht2 := hideK (hst.2 hxy); clear hst hr hr2 hx hy hxy
          go_wp2_with fail
          go_region_held3 (fun w' => w' = wr.drew) (rfl) (fail)
          go_wp2_with fail
          exact ⟨⟨k + 1, by omega, rfl, ht2.out, hB.drew⟩, by simp only [intOf]; omega⟩
        · have hb : ((x : Int) != (y : Int)) = true := by rw [bne_iff_ne]; omega
          have hne : decide (a = b) = false := decide_eq_false fun e => hxy (hst.1 (by rw [e]))
          clear hst hr hr2 hx hy hxy
          go_wp2_with fail
          go_region_held3 (fun w' => w' = wr.drew) (rfl) (fail)
          go_wp2_with fail
          go_ret
          exact ⟨rfl, hB.drew⟩
      · obtain rfl : k = m := by omega
        have hki : ¬(k : Int) < (k : Int) := by omega
        have he : decide (a = b) = true := decide_eq_true (by
          rw [List.take_of_length_le (by omega), List.take_of_length_le (by omega)] at ht; exact ht)
        go_wp2_with fail
        go_ret
        exact ⟨rfl, hB⟩
  · have hmm : ((m : Int) != (n : Int)) = true := by rw [bne_iff_ne]; omega
    have hne : decide (a = b) = false := decide_eq_false fun e => hmn (by rw [← hm, ← hn, e])
    go_enter Tryz.func33, Tryz.ntmps33
    go_wp2_with fail
    go_ret
    exact ⟨by rw [hne]; rfl, Below.refl _ _⟩
end
end
end Go.Proofs.YtnkihnggghfioaaGreat
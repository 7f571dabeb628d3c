/- cert: writer.number. job.Bytes. -/
import Derived.Test.YtnkihnggghfioaaGreatCh0
set_option linter.unusedVariables false
set_option linter.unusedSimpArgs false
namespace Go.Proofs.YtnkihnggghfioaaGreat
section
section
open Go.RowKit Go.Shelf
attribute [local go_sem] Oper.semAt_some
def WrS (w : World) (R base : Nat) (xs : List UInt8) : Prop := base ≤ R ∧ base ≤ w.heap.size ∧ ∃ v, w.heap[R]? = some (.cells #[v] 63) ∧ w.ownsRow base 5 1 v xs.length (cel xs) ∧ ∀ q, v.ownBlock = some q → q ≠ R
def WrF (w : World) (R q : Nat) : Prop := q = R ∨ ∃ v, w.heap[R]? = some (.cells #[v] 63) ∧ v.ownBlock = some q
structure WrP (w : World) (R base : Nat) (ys : List UInt8) (w' : World) : Prop where
  s : WrS w' R base ys
  b : Below base w w'
  c : Chg (WrF w R) w w'
  f : ∀ q, WrF w' R q → WrF w R q ∨ w.heap.size ≤ q
theorem WrP.trans {w w1 w2 : World} {R base : Nat} {xs ys : List UInt8} (h : WrP w R base xs w1) (k : WrP w1 R base ys w2) : WrP w R base ys w2 :=
  ⟨k.s, h.b.trans k.b, h.c.step k.c h.f, fun q hq => (k.f q hq).elim (h.f q) fun h1 => .inr (Nat.le_trans h.c.size h1)⟩
theorem WrF.over {w w' : World} {R q : Nat} (hR : R < w.heap.size) (hb : Below w.heap.size w w') (h : WrF w' R q) : WrF w R q :=
  h.elim .inl fun ⟨v, h1, h2⟩ => .inr ⟨v, (hb.block R hR).symm.trans h1, h2⟩
set_option maxRecDepth 100000 in
set_option maxHeartbeats 4000000 in
theorem jbt (w : World) (R base : Nat) (xs : List UInt8) (h : WrS w R base xs) (hxl : xs.length ≤ 1000000) (x : Nat) (hx : x < 18446744073709551616) (n : Nat) (hn : n ≤ 8) :
    Calls Tryz.prog 18 #[.pointer (some ⟨R, 0, none⟩), .int .u64 (x : Int), .int .i64 (n : Int)] w fun e w' => e = .returned (.tuple #[]) ∧ WrP w R base (xs ++ numk x n) w' := by
  obtain ⟨i0, hi, hz0, hz1, hz2⟩ := info_parts inf1; obtain ⟨hb1, hb2, hW⟩ := h; have hn8 : (n : Int) ≤ 8 := by omega
  have hx0 : (0 : Int) ≤ (x : Int) := by omega
  go_enter Tryz.func18, Tryz.ntmps18
  go_wp2_with fail
  go_loopw [8] (fun i wr => ∃ (k : Nat) (v : Value), k ≤ n ∧ i = .int .i64 (k : Int) ∧ wr.heap[R]? = some (.cells #[v] 63) ∧ wr.ownsRow base 5 1 v (xs ++ numk x k).length (cel (xs ++ numk x k)) ∧ (∀ q, v.ownBlock = some q → q ≠ R) ∧ Below base w wr ∧ Chg (WrF w R) w wr ∧ ∀ q, v.ownBlock = some q → WrF w R q ∨ w.heap.size ≤ q) (fun i _ => n - (intOf i).toNat)
  case atStart =>
    obtain ⟨v, h1, h2, h3⟩ := hW; exact ⟨0, v, Nat.zero_le _, rfl, h1, by simpa [numk] using h2, h3, Below.refl _ _, Chg.refl _ _, fun q hq => .inl (.inr ⟨v, h1, hq⟩)⟩
  case round =>
    obtain ⟨k, v, hk, rfl, hA, hrow, hvR, hB, hC, hvF⟩ := hrel; have hk0 : (0 : Int) ≤ (k : Int) := by omega
    have hkb : (k : Int) ≤ 8 := by omega
    have hAl : R < wr.heap.size := (Array.getElem?_eq_some_iff.1 hA).1; obtain ⟨A, c, rfl⟩ := jbn hrow; have hlt := hrow.lt; have hnl := ja9 x k; have hN3 : (xs ++ numk x k).length ≤ 1000008 := by rw [List.length_append, hnl]; omega
    obtain ⟨N, hN⟩ : ∃ N, (xs ++ numk x k).length = N := ⟨_, rfl⟩; rw [hN] at hA hrow hlt hvR hN3 hvF; have HN := hideK hN; clear hN hnl
    by_cases hkn : k < n
    · have hki : (k : Int) < (n : Int) := by omega
      have hk8 : (k : Int) < 8 := by omega
      have c0 : wr.cell? ⟨R, 0, none⟩ = some (.slice A N c) := jaa hA rfl; have z0 : wr.frozen? ⟨R, 0, none⟩ = false := jab hA; have hrowD : (wr.drew.alloc (.cells #[.int .u8 ((x : Int) / 2 ^ (8 * k) % 256)] 5)).ownsRow base 5 1 (.slice A N c) N (cel (xs ++ numk x k)) := jaf (w := wr.drew) hrow fun b hb => Below.heap_alloc _ _ _ (hlt b hb).2
      have hsB := hB.size; have hsz : ((wr.alloc (.cells #[.int .u8 ((x : Int) / 2 ^ (8 * k) % 256)] 5)).drew).heap.size = wr.heap.size + 1 := World.size_alloc ..; have hyv : ((UInt8.ofNat (x / 2 ^ (8 * k))).toNat : Int) = (x : Int) / 2 ^ (8 * k) % 256 := by rw [UInt8.toNat_ofNat']; simp
      have h7 : IntKind.i64.wrap (8 * (k : Int)) = 8 * (k : Int) := by rw [IntKind.wrap_i64]; omega
      have h8 : (x : Int) / 2 ^ (8 * (k : Int)).toNat = (x : Int) / 2 ^ (8 * k) := by rw [show (8 * (k : Int)).toNat = 8 * k by omega]
      have h9 : IntKind.u8.wrap ((x : Int) / 2 ^ (8 * k)) = (x : Int) / 2 ^ (8 * k) % 256 := by rw [IntKind.wrap_u8]
      go_upto_region 3 with (fail)
      refine wp_region_noPanic ?_; refine wp_region_held_drew (S := fun _ => True) (by kernel_rfl) trivial (fun hHeld => ?_); refine wpAnyH_take (i := 0) (oi := ⟨_, _, _, _, _, _⟩) (v := .pointer (some ⟨R, 0, none⟩)) rfl (by kernel_rfl) (by kernel_rfl) (by kernel_rfl) (fun _ _ _ h => h) (Or.inl ⟨by rfl, ?_⟩) (by assumption) ?_
      · intro w' hS
        go_simp
        all_goals first | exact h7 | exact h8 | exact h9
      try simp only [Act.put, List.setIfInBounds_toArray, List.set_cons_zero, List.set_cons_succ]
      refine wpAnyH_take (i := 1) (oi := ⟨_, _, _, _, _, _⟩) (v := .pointer (some ⟨R, 0, none⟩)) rfl (by kernel_rfl) (by kernel_rfl) (by kernel_rfl) (fun _ _ _ h => h) (Or.inl ⟨by rfl, ?_⟩) (by assumption) ?_
      · intro w' hS
        go_simp
        all_goals first | exact h7 | exact h8 | exact h9
      try simp only [Act.put, List.setIfInBounds_toArray, List.set_cons_zero, List.set_cons_succ]
      refine wpAnyH_take (i := 2) (oi := ⟨_, _, _, _, _, _⟩) (v := .pointer (some ⟨R, 0, none⟩)) rfl (by kernel_rfl) (by kernel_rfl) (by kernel_rfl) (fun _ _ _ h => h) (Or.inl ⟨by rfl, ?_⟩) (by assumption) ?_
      · intro w' hS
        go_simp
        all_goals first | exact h7 | exact h8 | exact h9
      try simp only [Act.put, List.setIfInBounds_toArray, List.set_cons_zero, List.set_cons_succ]
      refine wpAnyH_take (i := 3) (oi := ⟨_, _, _, _, _, _⟩) (v := .pointer (some ⟨R, 0, none⟩)) rfl (by kernel_rfl) (by kernel_rfl) (by kernel_rfl) (fun _ _ _ h => h) (Or.inl ⟨by rfl, ?_⟩) (by assumption) ?_
      · intro w' hS
        go_simp
        all_goals first | exact h7 | exact h8 | exact h9
      try simp only [Act.put, List.setIfInBounds_toArray, List.set_cons_zero, List.set_cons_succ]
      refine wpAnyH_take (i := 5) (oi := ⟨_, _, _, _, _, _⟩) (v := .int .u64 (x : Int)) rfl (by kernel_rfl) (by kernel_rfl) (by kernel_rfl) (fun _ _ _ h => h) (Or.inl ⟨by rfl, ?_⟩) (by assumption) ?_
      · intro w' hS
        go_simp
        all_goals first | exact h7 | exact h8 | exact h9
      try simp only [Act.put, List.setIfInBounds_toArray, List.set_cons_zero, List.set_cons_succ]
      refine wpAnyH_take (i := 6) (oi := ⟨_, _, _, _, _, _⟩) (v := .int .i64 (k : Int)) rfl (by kernel_rfl) (by kernel_rfl) (by kernel_rfl) (fun _ _ _ h => h) (Or.inl ⟨by rfl, ?_⟩) (by assumption) ?_
      · intro w' hS
        go_simp
        all_goals first | exact h7 | exact h8 | exact h9
      try simp only [Act.put, List.setIfInBounds_toArray, List.set_cons_zero, List.set_cons_succ]
      refine wpAnyH_take (i := 7) (oi := ⟨_, _, _, _, _, _⟩) (v := .int .i64 (8 * (k : Int))) rfl (by kernel_rfl) (by kernel_rfl) (by kernel_rfl) (fun _ _ _ h => h) (Or.inl ⟨by rfl, ?_⟩) (by assumption) ?_
      · intro w' hS
        go_simp
        all_goals first | exact h7 | exact h8 | exact h9
      try simp only [Act.put, List.setIfInBounds_toArray, List.set_cons_zero, List.set_cons_succ]
      refine wpAnyH_take (i := 8) (oi := ⟨_, _, _, _, _, _⟩) (v := .int .u64 ((x : Int) / 2 ^ (8 * k))) rfl (by kernel_rfl) (by kernel_rfl) (by kernel_rfl) (fun _ _ _ h => h) (Or.inl ⟨by rfl, ?_⟩) (by assumption) ?_
      · intro w' hS
        go_simp
        all_goals first | exact h7 | exact h8 | exact h9
      try simp only [Act.put, List.setIfInBounds_toArray, List.set_cons_zero, List.set_cons_succ]
      refine wpAnyH_take (i := 9) (oi := ⟨_, _, _, _, _, _⟩) (v := .int .u8 ((x : Int) / 2 ^ (8 * k) % 256)) rfl (by kernel_rfl) (by kernel_rfl) (by kernel_rfl) (fun _ _ _ h => h) (Or.inl ⟨by rfl, ?_⟩) (by assumption) ?_
      · intro w' hS
        go_simp
        all_goals first | exact h7 | exact h8 | exact h9
      try simp only [Act.put, List.setIfInBounds_toArray, List.set_cons_zero, List.set_cons_succ]
      refine wpAnyH_ready (rs := [4, 10]) (by kernel_rfl) (by simp) ?_; refine AllReadyH.cons (o := ⟨_, _, _, _, _, _⟩) rfl (fun K hK => ?_) (AllReadyH.cons (o := ⟨_, _, _, _, _, _⟩) rfl (fun K hK => ?_) AllReadyH.nil)
      · go_simp
        refine hK.out _ _ trivial (fun hHeld => ?_); clear hK K
        try simp only [Act.put, List.setIfInBounds_toArray, List.set_cons_zero, List.set_cons_succ]
        refine wpAnyH_ready (rs := [10]) (by kernel_rfl) (by simp) ?_; refine AllReadyH.cons (o := ⟨_, _, _, _, _, _⟩) rfl (fun K hK => ?_) AllReadyH.nil; go_simp; refine hK.out _ _ trivial (fun hHeld => ?_); clear hK K
        try simp only [Act.put, List.setIfInBounds_toArray, List.set_cons_zero, List.set_cons_succ]
        refine wpAnyH_ready (rs := [11]) (by kernel_rfl) (by simp) ?_; refine AllReadyH.cons (o := ⟨_, _, _, _, _, _⟩) rfl (fun K hK => ?_) AllReadyH.nil; refine step_append_lies _ (by rfl) _ _ 22 (by rfl) base 5 i0 (.int .u8 0) 1 1 Tryz.underlying22 hi hz0 hz1 hz2 rfl (by decide) (.slice A N c) N (cel (xs ++ numk x k)) (by rfl) hrowD ⟨wr.heap.size, 0, none⟩ 1 1 [.int .u8 ((x : Int) / 2 ^ (8 * k) % 256)] (by rfl) rfl (World.news_of_block (heap_alloc_new wr.drew _)) (by simp; rfl) (by decide) (by simp only [maxLen]; omega) (by omega) (by rw [hsz]; omega) (wr.heap.size + 1) hsz ?_; intro g cap w10 hown hgrow hat2 hlt2; have hN10 : w10.heap[R]? = some (.cells #[.slice A N c] 63) := (hgrow.block R (by rw [hsz]; omega) (fun e => (hvR R e.symm) rfl)).trans ((Below.heap_alloc wr.drew _ _ (show R < wr.drew.heap.size from hAl)).trans hA); have d0 : w10.cell? ⟨R, 0, none⟩ = some (.slice A N c) := jaa hN10 rfl; have dz : w10.frozen? ⟨R, 0, none⟩ = false := jab hN10; refine hK.out _ _ trivial (fun hHeld => ?_); clear hK K
        try simp only [Act.put, List.setIfInBounds_toArray, List.set_cons_zero, List.set_cons_succ]
        refine wpAnyH_take (i := 12) (oi := ⟨_, _, _, _, _, _⟩) (v := .pointer (some ⟨R, 0, none⟩)) rfl (by kernel_rfl) (by kernel_rfl) (by kernel_rfl) (fun _ _ _ h => h) (Or.inl ⟨by rfl, ?_⟩) (by assumption) ?_
        · intro w' hS
          go_simp
        try simp only [Act.put, List.setIfInBounds_toArray, List.set_cons_zero, List.set_cons_succ]
        refine wpAnyH_take (i := 13) (oi := ⟨_, _, _, _, _, _⟩) (v := .pointer (some ⟨R, 0, none⟩)) rfl (by kernel_rfl) (by kernel_rfl) (by kernel_rfl) (fun _ _ _ h => h) (Or.inl ⟨by rfl, ?_⟩) (by assumption) ?_
        · intro w' hS
          go_simp
        try simp only [Act.put, List.setIfInBounds_toArray, List.set_cons_zero, List.set_cons_succ]
        refine wpAnyH_ready (rs := [14]) (by kernel_rfl) (by simp) ?_; refine AllReadyH.cons (o := ⟨_, _, _, _, _, _⟩) rfl (fun K hK => ?_) AllReadyH.nil; go_simp; refine hK.out _ _ trivial (fun hHeld => ?_); clear hK K
        try simp only [Act.put, List.setIfInBounds_toArray, List.set_cons_zero, List.set_cons_succ]
        refine wpAnyH_done (by kernel_rfl) ?_ _; refine NoPanic.normal ?_
        go_wp2_with fail
        obtain ⟨w11, hw11⟩ : ∃ u, w10.setCell ⟨R, 0, none⟩ (.slice (some ⟨g, 0, none⟩) (N + 1) cap) = u := ⟨_, rfl⟩; have hN11 : w11.heap[R]? = some (.cells #[.slice (some ⟨g, 0, none⟩) (N + 1) cap] 63) := by rw [← hw11]; exact jae hN10
        have hO : Onl R w10 w11 := by rw [← hw11]; exact only_set
        have hgR : g ≠ R := hat2.elim (fun e => hvR g e) fun e => by omega
        have hB10 : Below base w w10 := ((hB.alloc (by omega) _).drew).grown hgrow (by rw [hsz]; omega) (fun b hb => (hlt b hb).1); have hCd : Chg (WrF w R) w ((wr.alloc (.cells #[.int .u8 ((x : Int) / 2 ^ (8 * k) % 256)] 5)).drew) := hC.step (Chg.of_below (F := fun _ => False) ((jac wr _).drew)) fun q h => h.elim
        have hC10 : Chg (WrF w R) w w10 := hCd.step (⟨hgrow.os, hgrow.tape, hgrow.output, hgrow.size, fun q hq hn => hgrow.block q hq fun e => hn e.symm⟩ : Chg (fun q => (Value.slice A N c).ownBlock = some q) _ w10) hvF; have hC11 : Chg (WrF w R) w w11 := hC10.step (hO.chg (F := fun q => q = R) rfl) fun q h => .inl (.inl h)
        rw [hw11]; refine ⟨⟨k + 1, _, by omega, rfl, hN11, ?_, fun q hq => ?_, hB10.trans (hO.below hb1), hC11, fun q hq => ?_⟩, by simp only [intOf]; omega⟩
        · have e1 : (xs ++ numk x (k + 1)).length = N + 1 := by rw [numk, ← List.append_assoc, List.length_append, HN.out]; rfl
          have e2 : cel (xs ++ numk x (k + 1)) = cel (xs ++ numk x k) ++ [.int .u8 ((x : Int) / 2 ^ (8 * k) % 256)] := by
            rw [numk, ← List.append_assoc]; unfold cel; rw [List.map_append, List.map_singleton]; unfold oct; rw [hyv]
          rw [e1, e2]
          exact jaf hown fun q hq => hO.block q (by
            obtain rfl : g = q := by simpa [Value.ownBlock] using hq
            exact hgR)
        · obtain rfl : g = q := by simpa [Value.ownBlock] using hq
          exact hgR
        · obtain rfl : g = q := by simpa [Value.ownBlock] using hq
          exact hat2.elim (fun e => hvF g e) fun e => .inr (by omega)
      · go_simp
        refine hK.out _ _ trivial (fun hHeld => ?_); clear hK K
        try simp only [Act.put, List.setIfInBounds_toArray, List.set_cons_zero, List.set_cons_succ]
        refine wpAnyH_ready (rs := [4]) (by kernel_rfl) (by simp) ?_; refine AllReadyH.cons (o := ⟨_, _, _, _, _, _⟩) rfl (fun K hK => ?_) AllReadyH.nil; go_simp; refine hK.out _ _ trivial (fun hHeld => ?_); clear hK K
        try simp only [Act.put, List.setIfInBounds_toArray, List.set_cons_zero, List.set_cons_succ]
        refine wpAnyH_ready (rs := [11]) (by kernel_rfl) (by simp) ?_; refine AllReadyH.cons (o := ⟨_, _, _, _, _, _⟩) rfl (fun K hK => ?_) AllReadyH.nil; refine step_append_lies _ (by rfl) _ _ 22 (by rfl) base 5 i0 (.int .u8 0) 1 1 Tryz.underlying22 hi hz0 hz1 hz2 rfl (by decide) (.slice A N c) N (cel (xs ++ numk x k)) (by rfl) hrowD ⟨wr.heap.size, 0, none⟩ 1 1 [.int .u8 ((x : Int) / 2 ^ (8 * k) % 256)] (by rfl) rfl (World.news_of_block (heap_alloc_new wr.drew _)) (by simp; rfl) (by decide) (by simp only [maxLen]; omega) (by omega) (by rw [hsz]; omega) (wr.heap.size + 1) hsz ?_; intro g cap w10 hown hgrow hat2 hlt2; have hN10 : w10.heap[R]? = some (.cells #[.slice A N c] 63) := (hgrow.block R (by rw [hsz]; omega) (fun e => (hvR R e.symm) rfl)).trans ((Below.heap_alloc wr.drew _ _ (show R < wr.drew.heap.size from hAl)).trans hA); have d0 : w10.cell? ⟨R, 0, none⟩ = some (.slice A N c) := jaa hN10 rfl; have dz : w10.frozen? ⟨R, 0, none⟩ = false := jab hN10; refine hK.out _ _ trivial (fun hHeld => ?_); clear hK K
        try simp only [Act.put, List.setIfInBounds_toArray, List.set_cons_zero, List.set_cons_succ]
        refine wpAnyH_take (i := 12) (oi := ⟨_, _, _, _, _, _⟩) (v := .pointer (some ⟨R, 0, none⟩)) rfl (by kernel_rfl) (by kernel_rfl) (by kernel_rfl) (fun _ _ _ h => h) (Or.inl ⟨by rfl, ?_⟩) (by assumption) ?_
        · intro w' hS
          go_simp
        try simp only [Act.put, List.setIfInBounds_toArray, List.set_cons_zero, List.set_cons_succ]
        refine wpAnyH_take (i := 13) (oi := ⟨_, _, _, _, _, _⟩) (v := .pointer (some ⟨R, 0, none⟩)) rfl (by kernel_rfl) (by kernel_rfl) (by kernel_rfl) (fun _ _ _ h => h) (Or.inl ⟨by rfl, ?_⟩) (by assumption) ?_
        · intro w' hS
          go_simp
        try simp only [Act.put, List.setIfInBounds_toArray, List.set_cons_zero, List.set_cons_succ]
        refine wpAnyH_ready (rs := [14]) (by kernel_rfl) (by simp) ?_; refine AllReadyH.cons (o := ⟨_, _, _, _, _, _⟩) rfl (fun K hK => ?_) AllReadyH.nil; go_simp; refine hK.out _ _ trivial (fun hHeld => ?_); clear hK K
        try simp only [Act.put, List.setIfInBounds_toArray, List.set_cons_zero, List.set_cons_succ]
        refine wpAnyH_done (by kernel_rfl) ?_ _; refine NoPanic.normal ?_
        go_wp2_with fail
        obtain ⟨w11, hw11⟩ : ∃ u, w10.setCell ⟨R, 0, none⟩ (.slice (some ⟨g, 0, none⟩) (N + 1) cap) = u := ⟨_, rfl⟩; have hN11 : w11.heap[R]? = some (.cells #[.slice (some ⟨g, 0, none⟩) (N + 1) cap] 63) := by rw [← hw11]; exact jae hN10
        have hO : Onl R w10 w11 := by rw [← hw11]; exact only_set
        have hgR : g ≠ R := hat2.elim (fun e => hvR g e) fun e => by omega
        have hB10 : Below base w w10 := ((hB.alloc (by omega) _).drew).grown hgrow (by rw [hsz]; omega) (fun b hb => (hlt b hb).1); have hCd : Chg (WrF w R) w ((wr.alloc (.cells #[.int .u8 ((x : Int) / 2 ^ (8 * k) % 256)] 5)).drew) := hC.step (Chg.of_below (F := fun _ => False) ((jac wr _).drew)) fun q h => h.elim
        have hC10 : Chg (WrF w R) w w10 := hCd.step (⟨hgrow.os, hgrow.tape, hgrow.output, hgrow.size, fun q hq hn => hgrow.block q hq fun e => hn e.symm⟩ : Chg (fun q => (Value.slice A N c).ownBlock = some q) _ w10) hvF; have hC11 : Chg (WrF w R) w w11 := hC10.step (hO.chg (F := fun q => q = R) rfl) fun q h => .inl (.inl h)
        rw [hw11]; refine ⟨⟨k + 1, _, by omega, rfl, hN11, ?_, fun q hq => ?_, hB10.trans (hO.below hb1), hC11, fun q hq => ?_⟩, by simp only [intOf]; omega⟩
        · have e1 : (xs ++ numk x (k + 1)).length = N + 1 := by rw [numk, ← List.append_assoc, List.length_append, HN.out]; rfl
          have e2 : cel (xs ++ numk x (k + 1)) = cel (xs ++ numk x k) ++ [.int .u8 ((x : Int) / 2 ^ (8 * k) % 256)] := by
            rw [numk, ← List.append_assoc]; unfold cel; rw [List.map_append, List.map_singleton]; unfold oct; rw [hyv]
          rw [e1, e2]
          exact jaf hown fun q hq => hO.block q (by
            obtain rfl : g = q := by simpa [Value.ownBlock] using hq
            exact hgR)
        · obtain rfl : g = q := by simpa [Value.ownBlock] using hq
          exact hgR
        · obtain rfl : g = q := by simpa [Value.ownBlock] using hq
          exact hat2.elim (fun e => hvF g e) fun e => .inr (by omega)
    · obtain rfl : k = n := by omega
      have hki : ¬(k : Int) < (k : Int) := by omega
      go_wp2_with fail
      refine bodyPost_end (v := .tuple #[]) (by simp [results, Tryz.f18, go_sem]) rfl ⟨rfl, ⟨hb1, by have := hB.size; omega, _, hA, by rw [HN.out]; exact hrow, hvR⟩, hB, hC, fun q hq => ?_⟩
      rcases hq with rfl | ⟨v, h1, h2⟩
      · exact .inl (.inl rfl)
      · rw [hA] at h1
        cases h1
        exact hvF q h2
end
end
section
section
open Go.RowKit Go.Shelf
attribute [local go_sem] Oper.semAt_some
def jLet : List UInt8 := [72, 65, 73, 82, 74, 79, 66, 49]
def jNum (c0 c1 c2 c3 c4 : Nat) : Nat → Nat
  | 0 => c0
  | 1 => c1
  | 2 => c2
  | 3 => c3
  | _ => c4
def jbs (f : Nat → Nat) : Nat → List UInt8
  | 0 => jLet
  | k + 1 => jbs f k ++ numk (f k) 8
theorem jh3 (f : Nat → Nat) : ∀ k, (jbs f k).length = 8 + 8 * k
  | 0 => rfl
  | k + 1 => by rw [jbs, List.length_append, jh3 f k, ja9]; omega
theorem jhb (w : World) (l : List UInt8) (n : Nat) (hn : l.length = n) (hm : n ≤ maxLen) (B : Nat) (hb : w.heap[B]? = some (.cells (cel l).toArray 5 (n, n + 1))) : RowM w (.slice (some ⟨B, 0, none⟩) n n) l := by
  refine ⟨B, n, by rw [hn], (Array.getElem?_eq_some_iff.1 hb).1, Nat.le_of_eq hn, hm, fun j u hu => ?_, fun j hj => ?_, fun j hj => ?_⟩
  · rw [Nat.zero_add, cell_of_row _ _ j _ _ _ hb]
    simpa using hu
  · rw [cell_of_row _ _ j _ _ _ hb]
    simp [jad]
    omega
  · unfold World.frozen?
    show (match w.heap[B]? with | some (.cells _ _ (lo, hi)) => (lo ≤ j && j < hi : Bool) | _ => false) = false
    rw [hb]; simp
    omega
set_option maxRecDepth 100000 in
set_option maxHeartbeats 8000000 in
theorem jix (w : World) (c0 c1 c2 c3 c4 : Nat) (a1 : Int) (h0 : (c0 : Int) ≤ 65535) (h1 : (c1 : Int) ≤ 65535) (hE : a1 - -64 = (c1 : Int)) (ha : -64 ≤ a1 ∧ a1 ≤ 65471) (h2 : (c2 : Int) < 18446744073709551616) (h3 : (c3 : Int) < 18446744073709551616) (h4 : (c4 : Int) ≤ 65535) :
    Calls Tryz.prog 17 #[.agg #[.int .i64 (c0 : Int), .int .i64 a1, .int .u64 (c2 : Int), .int .u64 (c3 : Int), .int .i64 (c4 : Int)]] w fun e w' => ∃ v, e = .returned v ∧ RowM w' v (jbs (jNum c0 c1 c2 c3 c4) 5) ∧ Below w.heap.size w w' ∧ ∀ b, v.ownBlock = some b → w.heap.size ≤ b := by
  obtain ⟨W1, hW1⟩ : ∃ W1, w.alloc (.cells #[.int .i64 (c0 : Int), .int .i64 a1, .int .u64 (c2 : Int), .int .u64 (c3 : Int), .int .i64 (c4 : Int)] 27) = W1 := ⟨_, rfl⟩; have hB1 : Below w.heap.size w W1 := by rw [← hW1]; exact jac _ _
  have hN1 : W1.heap[w.heap.size]? = some (.cells #[.int .i64 (c0 : Int), .int .i64 a1, .int .u64 (c2 : Int), .int .u64 (c3 : Int), .int .i64 (c4 : Int)] 27) := by rw [← hW1]; exact heap_alloc_new w _
  have hs1 : W1.heap.size = w.heap.size + 1 := by rw [← hW1]; exact World.size_alloc ..
  obtain ⟨W2, hW2⟩ : ∃ W2, W1.alloc (.cells #[.int .u8 72, .int .u8 65, .int .u8 73, .int .u8 82, .int .u8 74, .int .u8 79, .int .u8 66, .int .u8 49] 5 (8, 9)) = W2 := ⟨_, rfl⟩; have hB2 : Below W1.heap.size W1 W2 := by rw [← hW2]; exact jac _ _
  have hN2 : W2.heap[W1.heap.size]? = some (.cells #[.int .u8 72, .int .u8 65, .int .u8 73, .int .u8 82, .int .u8 74, .int .u8 79, .int .u8 66, .int .u8 49] 5 (8, 9)) := by rw [← hW2]; exact heap_alloc_new W1 _
  have hN3 : W2.heap[w.heap.size]? = some (.cells #[.int .i64 (c0 : Int), .int .i64 a1, .int .u64 (c2 : Int), .int .u64 (c3 : Int), .int .i64 (c4 : Int)] 27) := (hB2.block _ (by omega)).trans hN1
  have hcv : (convert 22 22 (.slice (some ⟨W1.heap.size, 0, none⟩) 8 8)).run Tryz.prog (W1.alloc (.cells #[.int .u8 72, .int .u8 65, .int .u8 73, .int .u8 82, .int .u8 74, .int .u8 79, .int .u8 66, .int .u8 49] 5)) = .ok (.slice (some ⟨W1.heap.size, 0, none⟩) 8 8) W2 := by
    rw [← hW2]; exact Lib.run_convert_bytes_const (P := Tryz.prog) W1 22 5 #[.int .u8 72, .int .u8 65, .int .u8 73, .int .u8 82, .int .u8 74, .int .u8 79, .int .u8 66, .int .u8 49] 8 8 Tryz.underlying22 Tryz.underlying5
  have hR0 : RowM W2 (.slice (some ⟨W1.heap.size, 0, none⟩) 8 8) jLet := jhb W2 jLet 8 rfl (by decide) _ hN2; have k0 : W2.cell? ⟨w.heap.size, 0, none⟩ = some (.int .i64 (c0 : Int)) := jaa hN3 rfl; have k1 : W2.cell? ⟨w.heap.size, 1, none⟩ = some (.int .i64 a1) := jaa hN3 rfl; have k2 : W2.cell? ⟨w.heap.size, 2, none⟩ = some (.int .u64 (c2 : Int)) := jaa hN3 rfl; have k3 : W2.cell? ⟨w.heap.size, 3, none⟩ = some (.int .u64 (c3 : Int)) := jaa hN3 rfl; have k4 : W2.cell? ⟨w.heap.size, 4, none⟩ = some (.int .i64 (c4 : Int)) := jaa hN3 rfl; have hc0 : (0 : Int) ≤ (c0 : Int) := by omega
  have hc1 : (0 : Int) ≤ (c1 : Int) := by omega
  have hc2 : (0 : Int) ≤ (c2 : Int) := by omega
  have hc3 : (0 : Int) ≤ (c3 : Int) := by omega
  have hc4 : (0 : Int) ≤ (c4 : Int) := by omega
  have hs2 : W2.heap.size = w.heap.size + 2 := by rw [← hW2, World.size_alloc, hs1]
  have HW1 := hideK hW1; have HW2 := hideK hW2; have HS1 := hideK hs1; clear hW2 hN2 hs1
  go_enter Tryz.func17, Tryz.ntmps17
  go_wp2_with fail
  have hB3 : Below w.heap.size w (W2.alloc (.cells #[.int .u64 (c0 : Int), .int .u64 (c1 : Int), .int .u64 (c2 : Int), .int .u64 (c3 : Int), .int .u64 (c4 : Int)] 81)) := (hB1.trans (hB2.mono (by have := hB1.size; omega))).alloc (by omega) _
  have hR3 : RowM (W2.alloc (.cells #[.int .u64 (c0 : Int), .int .u64 (c1 : Int), .int .u64 (c2 : Int), .int .u64 (c3 : Int), .int .u64 (c4 : Int)] 81)) (.slice (some ⟨W1.heap.size, 0, none⟩) 8 8) jLet := hR0.of (by simp) fun b hb => by
    obtain rfl : W1.heap.size = b := by simpa [Value.ownBlock] using hb
    exact Below.heap_alloc _ _ _ (by have := HS1.out; omega)
  have hO3 : w.heap.size ≤ W1.heap.size := hB1.size; clear hR0 hB1 hB2 hN3 hs2 HW1 HW2 HS1
  go_loopw [3, 26] (fun a i wr => ∃ k : Nat, k ≤ 5 ∧ RowM wr a (jbs (jNum c0 c1 c2 c3 c4) k) ∧ i = .int .i64 (k : Int) ∧ Below w.heap.size w wr ∧ ∀ b, a.ownBlock = some b → w.heap.size ≤ b) (fun _ i _ => 5 - (intOf i).toNat)
  case atStart => exact ⟨0, Nat.zero_le _, hR3, rfl, hB3, fun b hb => by
    obtain rfl : W1.heap.size = b := by simpa [Value.ownBlock] using hb
    exact hO3⟩
  case round =>
    clear hR3 hB3; obtain ⟨k, hk, hr, rfl, hB, hO⟩ := hrel; obtain ⟨g0, cap0, rfl, -⟩ := id hr
    by_cases hk5 : k = 5
    · subst hk5
      have hki : ¬(((5 : Nat) : Int) < 5) := by decide
      go_wp2_with fail
      go_ret
      exact ⟨_, rfl, hr, hB, hO⟩
    · obtain ⟨y, hy⟩ : ∃ y, jNum c0 c1 c2 c3 c4 k = y := ⟨_, rfl⟩
      have hyb : (y : Int) < 18446744073709551616 := by
        rw [← hy]
        rcases (by omega : k = 0 ∨ k = 1 ∨ k = 2 ∨ k = 3 ∨ k = 4) with rfl | rfl | rfl | rfl | rfl <;> simp only [jNum] <;> omega
      have hk5i : (k : Int) < 5 := by omega
      have hk0 : (0 : Int) ≤ (k : Int) := by omega
      have hix : (Instr.index 81 (.agg #[.int .u64 (c0 : Int), .int .u64 (c1 : Int), .int .u64 (c2 : Int), .int .u64 (c3 : Int), .int .u64 (c4 : Int)]) (.int .i64 (k : Int))).run Tryz.prog wr = .ok (.int .u64 (y : Int)) wr := by
        rw [← hy]
        rcases (by omega : k = 0 ∨ k = 1 ∨ k = 2 ∨ k = 3 ∨ k = 4) with rfl | rfl | rfl | rfl | rfl <;> kernel_rfl
      have hjl := jh3 (jNum c0 c1 c2 c3 c4) k; have hj1 : jbs (jNum c0 c1 c2 c3 c4) (k + 1) = jbs (jNum c0 c1 c2 c3 c4) k ++ numk y 8 := by rw [jbs, hy]
      obtain ⟨p, hp⟩ : ∃ p, jbs (jNum c0 c1 c2 c3 c4) k = p := ⟨_, rfl⟩; rw [hp] at hr hjl hj1 hO ⊢; have hpl : p.length ≤ 48 := by omega
      have hy0 : (0 : Int) ≤ (y : Int) := by omega
      have HY := hideK hy; clear hy hp hjl
      go_wp2_with fail
      go_loopw [3, 29] (fun a i wr => ∃ j : Nat, j ≤ 8 ∧ RowM wr a (p ++ numk y j) ∧ i = .int .i64 (j : Int) ∧ Below w.heap.size w wr ∧ ∀ b, a.ownBlock = some b → w.heap.size ≤ b) (fun _ i _ => 8 - (intOf i).toNat)
      case atStart => exact ⟨0, Nat.zero_le _, by simpa [numk] using hr, rfl, hB, hO⟩
      case round =>
        clear hr hB hO hix; obtain ⟨j, hj, hr, rfl, hB, hO⟩ := hrel; have hj0 : (0 : Int) ≤ (j : Int) := by omega
        have hjb : (j : Int) ≤ 8 := by omega
        obtain ⟨g, cap, ha, -⟩ := id hr; subst ha
        by_cases hjl : j < 8
        · have hji : (j : Int) < 8 := by omega
          have hnl := ja9 y j; obtain ⟨N, hN⟩ : ∃ N, (p ++ numk y j).length = N := ⟨_, rfl⟩; have hN2 : N ≤ 1000008 := by rw [← hN, List.length_append, hnl]; omega
          have hN3 : (p ++ numk y j).length ≤ 1000008 := by rw [hN]; exact hN2
          rw [hN] at hr hO ⊢; obtain ⟨x, hx⟩ : ∃ x, UInt8.ofNat (y / 2 ^ (8 * j)) = x := ⟨_, rfl⟩; have hxv : (x.toNat : Int) = (y : Int) / 2 ^ (8 * j) % 256 := by rw [← hx, UInt8.toNat_ofNat']; simp
          have hsl := jj8 wr x _ hxv (0, 0)
          have hgs : g < wr.heap.size := by
            obtain ⟨g', cap', e, h1, -⟩ := hr
            cases e
            exact h1
          have hr2 : RowM (wr.alloc (.cells #[.int .u8 ((y : Int) / 2 ^ (8 * j) % 256)] 5)) (.slice (some ⟨g, 0, none⟩) N cap) (p ++ numk y j) := hr.of (by simp) fun b hb => by
            obtain rfl : g = b := by simpa [Value.ownBlock] using hb
            exact Below.heap_alloc _ _ _ hgs
          have hnx : numk y (j + 1) = numk y j ++ [x] := by rw [numk, hx]
          have hal : Below w.heap.size w (wr.alloc (.cells #[.int .u8 ((y : Int) / 2 ^ (8 * j) % 256)] 5)) := hB.alloc hB.size _; clear hxv hx hnl hN hN2
          go_wp2_with (at_builtin; refine jqu rfl _ _ rfl _ _ rfl hr2 _ [x] rfl hsl (by simp) (by simp only [List.length_singleton]; omega) ?_)
          intro v' w1 hrow1 hC1 hO1; have hB1 : Below w.heap.size w w1 := hal.trans (hC1.below (by have := hal.size; omega) hO)
          go_wp2_with fail
          refine ⟨⟨j + 1, by omega, ?_, rfl, hB1, fun b hb => (hO1 b hb).elim (hO b) fun h => ?_⟩, by simp only [intOf]; omega⟩
          · rw [hnx]
            simpa using hrow1
          · have h2 := hB.size
            have h3 : wr.heap.size + 1 ≤ b := by simpa using h
            omega
        · obtain rfl : j = 8 := by omega
          go_wp2_with fail
          refine ⟨⟨k + 1, by omega, ?_, rfl, hB, hO⟩, by simp only [intOf]; omega⟩; rw [hj1]; exact hr
end
end
end Go.Proofs.YtnkihnggghfioaaGreat
/- cert.Write of no hits: integers, dyads. cert.Write of no hits. hairlinelaw22.shown: its certificate, plain. -/
import Derived.Test.YtnkihnggghfioaaGreatCh2
import Derived.Test.YtnkihnggghfioaaGreatDyadB
set_option linter.unusedVariables false
set_option linter.unusedSimpArgs false
namespace Go.Proofs.YtnkihnggghfioaaGreat
section
section
open Go.RowKit Go.Shelf
attribute [local go_sem] Oper.semAt_some
theorem jf4 {w : World} {B : Nat} {A : Option Addr} {c : Nat} (hc : c ≤ maxLen) : Nums w B (.slice A 0 c) [] := ⟨A, c, rfl, ⟨Nat.zero_le _, fun _ _ _ i h => absurd h (Nat.not_lt_zero i)⟩, by simp only [maxLen] at hc; omega, fun _ h => (by cases h), fun h => absurd h (Nat.lt_irrefl 0)⟩
theorem jn8 {w : World} {B : Nat} {e : Ending} (h : RetZ B 0 e w) : ∃ A c, e = .returned (.agg #[.bool false, .slice A 0 c]) := by
  obtain ⟨u, d, rfl, ⟨A, c, rfl, -⟩, hd⟩ := h; have hd0 : d = [] := (Canon.nil_iff hd).2 rfl; subst hd0; exact ⟨A, c, rfl⟩
theorem WrS.over {w w' : World} {R base : Nat} {xs : List UInt8} (h : WrS w R base xs) (hb : Below w.heap.size w w') : WrS w' R base xs := by
  obtain ⟨h1, h2, v, h3, h4, h5⟩ := h; exact ⟨h1, Nat.le_trans h2 hb.size, v, (hb.block R (Array.getElem?_eq_some_iff.1 h3).1).trans h3, jaf h4 fun b hq => hb.block b (h4.lt b hq).2, h5⟩
set_option maxRecDepth 100000 in
set_option maxHeartbeats 4000000 in
theorem jf5 (w : World) (R base : Nat) (xs : List UInt8) (h : WrS w R base xs) (hxl : xs.length ≤ 10000) :
    Calls Tryz.prog 20 #[.pointer (some ⟨R, 0, none⟩), .agg #[.bool false, .slice none 0 0]] w fun e w' => e = .returned (.tuple #[]) ∧ WrP w R base (xs ++ numk 0 1 ++ numk 0 2) w' := by
  obtain ⟨W1, hW1⟩ : ∃ W1, w.alloc (.cells #[.bool false, .slice none 0 0] 31) = W1 := ⟨_, rfl⟩; have hB1 : Below w.heap.size w W1 := by rw [← hW1]; exact jac _ _
  have hN1 : W1.heap[w.heap.size]? = some (.cells #[.bool false, .slice none 0 0] 31) := by rw [← hW1]; exact heap_alloc_new w _
  have hs1 : W1.heap.size = w.heap.size + 1 := by rw [← hW1]; exact World.size_alloc ..
  have hS1 := h.over hB1; have hk := jed W1 false 0 (.slice none 0 0) [] (jf4 (Nat.zero_le _)) (by decide); rw [show ival false (L.val W []) = 0 from rfl] at hk; have k0 : W1.cell? ⟨w.heap.size, 0, none⟩ = some (.bool false) := jaa hN1 rfl; have k1 : W1.cell? ⟨w.heap.size, 1, none⟩ = some (.slice none 0 0) := jaa hN1 rfl; obtain ⟨hbR, hbS, -⟩ := id h
  go_enter Tryz.func20, Tryz.ntmps20
  go_wp2_with fail
  refine hk.mono ?_; clear hk hW1; rintro e w2 ⟨hB2, hZ⟩; obtain ⟨A, c, rfl⟩ := jn8 hZ; have hN2 : w2.heap[w.heap.size]? = some (.cells #[.bool false, .slice none 0 0] 31) := (hB2.block _ (by omega)).trans hN1; have m0 : w2.cell? ⟨w.heap.size, 0, none⟩ = some (.bool false) := jaa hN2 rfl; have m1 : w2.cell? ⟨w.heap.size, 1, none⟩ = some (.slice none 0 0) := jaa hN2 rfl; have z0 : w2.frozen? ⟨w.heap.size, 0, none⟩ = false := jab hN2; have z1 : w2.frozen? ⟨w.heap.size, 1, none⟩ = false := jab hN2; obtain ⟨w3, hw3⟩ : ∃ u, (w2.setCell ⟨w.heap.size, 0, none⟩ (.bool false)).setCell ⟨w.heap.size, 1, none⟩ (.slice A 0 c) = u := ⟨_, rfl⟩; have hO3 : Onl w.heap.size w2 w3 := by rw [← hw3]; exact only_set.trans only_set
  have hN3 : w3.heap[w.heap.size]? = some (.cells #[.bool false, .slice A 0 c] 31) := by
    rw [← hw3]; exact jae (o := 1) (jae (o := 0) hN2)
  have hBw3 : Below w.heap.size w w3 := (hB1.trans (hB2.mono (by omega))).trans (hO3.below (Nat.le_refl _)); have hS3 := h.over hBw3; have n0 : w3.cell? ⟨w.heap.size, 0, none⟩ = some (.bool false) := jaa hN3 rfl
  have hRl : R < w.heap.size := by
    obtain ⟨-, -, v, h3, -⟩ := h; exact (Array.getElem?_eq_some_iff.1 h3).1
  have hP3 : WrP w R base xs w3 := ⟨hS3, hBw3.mono hbS, Chg.of_below hBw3, fun q hq => .inl (hq.over hRl hBw3)⟩; have hs3 : w.heap.size < w3.heap.size := (Array.getElem?_eq_some_iff.1 hN3).1
  have hnF : ∀ {u : World}, WrP w R base xs u → ¬WrF w R w.heap.size := fun _ h1 => by
    rcases h1 with h1 | ⟨v, h1, h2⟩
    · omega
    · obtain ⟨-, -, v', h3, h4, -⟩ := h
      rw [h1] at h3
      cases h3
      exact absurd (h4.lt _ h2).2 (Nat.lt_irrefl _)
  have h4 := jbt w3 R base xs hS3 (by omega) 0 (by decide) 1 (by decide); clear hS1 hO3 k0 k1 hN1
  go_wp2_with fail
  refine h4.mono ?_; clear h4; rintro e w4 ⟨rfl, hP4⟩; have hP4' := hP3.trans hP4; have hN4 : w4.heap[w.heap.size]? = some (.cells #[.bool false, .slice A 0 c] 31) := (hP4.c.block _ hs3 fun h1 => hnF hP3 (h1.over hRl hBw3)).trans hN3; have o1 : w4.cell? ⟨w.heap.size, 1, none⟩ = some (.slice A 0 c) := jaa hN4 rfl; have h5 := jbt w4 R base _ hP4.s (by rw [List.length_append, ja9]; omega) 0 (by decide) 2 (by decide)
  go_wp2_with fail
  refine h5.mono ?_; clear h5; rintro e w5 ⟨rfl, hP5⟩; have hN5 : w5.heap[w.heap.size]? = some (.cells #[.bool false, .slice A 0 c] 31) := (hP5.c.block _ (Nat.lt_of_lt_of_le hs3 hP4.c.size) fun h1 => (hP4.f _ h1).elim (fun h1 => hnF hP3 (h1.over hRl hBw3)) fun h1 => by omega).trans hN4; have p1 : w5.cell? ⟨w.heap.size, 1, none⟩ = some (.slice A 0 c) := jaa hN5 rfl; clear hnF hP3
  go_wp2_with fail
  go_loopw [23] (fun i wr => i = .int .i64 0 ∧ wr = w5) (fun _ _ => 0)
  case atStart => exact ⟨rfl, rfl⟩
  case round =>
    obtain ⟨rfl, rfl⟩ := hrel
    go_wp2_with fail
    refine bodyPost_end (v := .tuple #[]) (by simp [results, Tryz.f20, go_sem]) rfl ⟨rfl, hP4'.trans hP5⟩
set_option maxRecDepth 100000 in
set_option maxHeartbeats 4000000 in
theorem jfh (w : World) (R base : Nat) (xs : List UInt8) (h : WrS w R base xs) (hxl : xs.length ≤ 9000) :
    Calls Tryz.prog 22 #[.pointer (some ⟨R, 0, none⟩), .agg #[.bool false, .slice none 0 0, .int .i64 0]] w fun e w' => e = .returned (.tuple #[]) ∧ WrP w R base (xs ++ numk 0 1 ++ numk 0 2 ++ numk 65536 4) w' := by
  obtain ⟨W1, hW1⟩ : ∃ W1, w.alloc (.cells #[.bool false, .slice none 0 0, .int .i64 0] 33) = W1 := ⟨_, rfl⟩; have hB1 : Below w.heap.size w W1 := by rw [← hW1]; exact jac _ _
  have hN1 : W1.heap[w.heap.size]? = some (.cells #[.bool false, .slice none 0 0, .int .i64 0] 33) := by rw [← hW1]; exact heap_alloc_new w _
  have hs1 : W1.heap.size = w.heap.size + 1 := by rw [← hW1]; exact World.size_alloc ..
  have hS1 := h.over hB1; obtain ⟨hbR, hbS, -⟩ := id h
  have hRl : R < w.heap.size := by
    obtain ⟨-, -, v, h3, -⟩ := h; exact (Array.getElem?_eq_some_iff.1 h3).1
  have hP1 : WrP w R base xs W1 := ⟨hS1, hB1.mono hbS, Chg.of_below hB1, fun q hq => .inl (hq.over hRl hB1)⟩
  have hnF : ¬WrF w R w.heap.size := fun h1 => by
    rcases h1 with h1 | ⟨v, h1, h2⟩
    · omega
    · obtain ⟨-, -, v', h3, h4, -⟩ := h
      rw [h1] at h3
      cases h3
      exact absurd (h4.lt _ h2).2 (Nat.lt_irrefl _)
  have k0 : W1.cell? ⟨w.heap.size, 0, none⟩ = some (.bool false) := jaa hN1 rfl; have k1 : W1.cell? ⟨w.heap.size, 1, none⟩ = some (.slice none 0 0) := jaa hN1 rfl; have h2 := jf5 W1 R base xs hS1 (by omega)
  go_enter Tryz.func22, Tryz.ntmps22
  go_wp2_with fail
  refine h2.mono ?_; clear h2 hW1; rintro e w2 ⟨rfl, hP2⟩; have hN2 : w2.heap[w.heap.size]? = some (.cells #[.bool false, .slice none 0 0, .int .i64 0] 33) := (hP2.c.block _ (by omega) fun h1 => hnF (h1.over hRl hB1)).trans hN1; have m2 : w2.cell? ⟨w.heap.size, 2, none⟩ = some (.int .i64 0) := jaa hN2 rfl; have h3 := jbt w2 R base _ hP2.s (by rw [List.length_append, List.length_append, ja9, ja9]; omega) 65536 (by decide) 4 (by decide); clear hnF
  go_wp2_with fail
  refine h3.mono ?_; clear h3; rintro e w3 ⟨rfl, hP3⟩
  go_wp2_with fail
  exact bodyPost_end (v := .tuple #[]) (by simp [results, Tryz.f22, go_sem]) rfl ⟨rfl, (hP1.trans hP2).trans hP3⟩
set_option maxRecDepth 100000 in
set_option maxHeartbeats 4000000 in
theorem jd5 (w : World) (A : Option Addr) (c : Nat) : Calls Tryz.prog 21 #[.slice A 0 c] w fun e w' => e = .returned (.tuple #[.agg #[.bool false, .slice none 0 0, .int .i64 0], .agg #[.bool false, .slice none 0 0, .int .i64 0]]) ∧ Below w.heap.size w w' := by
  obtain ⟨W2, hW2⟩ : ∃ W2, (w.alloc (.cells #[.bool false, .slice none 0 0, .int .i64 0] 33)).alloc (.cells #[.bool false, .slice none 0 0, .int .i64 0] 33) = W2 := ⟨_, rfl⟩; have hB2 : Below w.heap.size w W2 := by rw [← hW2]; exact (jac _ _).alloc (by rw [World.size_alloc]; omega) _
  have hx : W2.heap[w.heap.size]? = some (.cells #[.bool false, .slice none 0 0, .int .i64 0] 33) := by rw [← hW2]; exact jb4 w _ _
  have hy : W2.heap[w.heap.size + 1]? = some (.cells #[.bool false, .slice none 0 0, .int .i64 0] 33) := by rw [← hW2]; exact jbv w _ _
  go_enter Tryz.func21, Tryz.ntmps21
  go_wp2_with fail
  go_loopw [10] (fun i wr => i = .int .i64 0 ∧ wr = W2) (fun _ _ => 0)
  case atStart => exact ⟨rfl, rfl⟩
  case round =>
    obtain ⟨rfl, rfl⟩ := hrel; clear hW2; have a0 : wr.cell? ⟨w.heap.size, 0, none⟩ = some (.bool false) := jaa hx rfl; have a1 : wr.cell? ⟨w.heap.size, 1, none⟩ = some (.slice none 0 0) := jaa hx rfl; have a2 : wr.cell? ⟨w.heap.size, 2, none⟩ = some (.int .i64 0) := jaa hx rfl; have b0 : wr.cell? ⟨w.heap.size + 1, 0, none⟩ = some (.bool false) := jaa hy rfl; have b1 : wr.cell? ⟨w.heap.size + 1, 1, none⟩ = some (.slice none 0 0) := jaa hy rfl; have b2 : wr.cell? ⟨w.heap.size + 1, 2, none⟩ = some (.int .i64 0) := jaa hy rfl; have f0 : wr.frozen? ⟨w.heap.size, 0, none⟩ = false := jab hx; have f1 : wr.frozen? ⟨w.heap.size, 1, none⟩ = false := jab hx; have f2 : wr.frozen? ⟨w.heap.size, 2, none⟩ = false := jab hx; have g0 : wr.frozen? ⟨w.heap.size + 1, 0, none⟩ = false := jab hy; have g1 : wr.frozen? ⟨w.heap.size + 1, 1, none⟩ = false := jab hy; have g2 : wr.frozen? ⟨w.heap.size + 1, 2, none⟩ = false := jab hy
    go_wp2_with fail
    obtain ⟨u1, e1⟩ : ∃ u, ((wr.setCell ⟨w.heap.size, 0, none⟩ (.bool false)).setCell ⟨w.heap.size, 1, none⟩ (.slice none 0 0)).setCell ⟨w.heap.size, 2, none⟩ (.int .i64 0) = u := ⟨_, rfl⟩; obtain ⟨h1, o1⟩ := jeg hx e1; obtain ⟨u2, e2⟩ : ∃ u, ((u1.setCell ⟨w.heap.size + 1, 0, none⟩ (.bool false)).setCell ⟨w.heap.size + 1, 1, none⟩ (.slice none 0 0)).setCell ⟨w.heap.size + 1, 2, none⟩ (.int .i64 0) = u := ⟨_, rfl⟩; obtain ⟨h2, o2⟩ := jeg ((o1.block _ (by omega)).trans hy) e2; have h3 := (o2.block w.heap.size (by omega)).trans h1; rw [e1, e2]; clear a0 a1 a2 b0 b1 b2 f0 f1 f2 g0 g1 g2; have c00 : u2.cell? ⟨w.heap.size, 0, none⟩ = some (.bool false) := jaa h3 rfl; have c01 : u2.cell? ⟨w.heap.size, 1, none⟩ = some (.slice none 0 0) := jaa h3 rfl; have c02 : u2.cell? ⟨w.heap.size, 2, none⟩ = some (.int .i64 0) := jaa h3 rfl; have c10 : u2.cell? ⟨w.heap.size + 1, 0, none⟩ = some (.bool false) := jaa h2 rfl; have c11 : u2.cell? ⟨w.heap.size + 1, 1, none⟩ = some (.slice none 0 0) := jaa h2 rfl; have c12 : u2.cell? ⟨w.heap.size + 1, 2, none⟩ = some (.int .i64 0) := jaa h2 rfl; refine bodyPost_ret (v := .tuple #[.agg #[.bool false, .slice none 0 0, .int .i64 0], .agg #[.bool false, .slice none 0 0, .int .i64 0]]) (by simp [results, Tryz.f21, go_sem, c00, c01, c02, c10, c11, c12]) rfl ⟨rfl, (hB2.trans (o1.below (Nat.le_refl _))).trans (o2.below (by omega))⟩
end
end
section
section
open Go.RowKit Go.Shelf
attribute [local go_sem] Oper.semAt_some
theorem jkc {w : World} {ops : Array Oper} {rest : List Oper} {o : Oper} {a : Act} {Q : Exit → Act → World → Prop} (hgd : o.guard = none) (s x : Operand)
    (ho : o.op = .call { callee := .builtin .append, args := #[s, x], argTypes := #[22, 22] })
    (g n : Nat) (xs : List UInt8) (hs : a.eval s = .slice (some ⟨g, 0, none⟩) n n) (hrow : RowM w (.slice (some ⟨g, 0, none⟩) n n) xs) (x' : Value) (ys : List UInt8) (hx : a.eval x = x') (hsl : Sl w x' (cel ys)) (h0 : 0 < ys.length) (hlen : n + ys.length ≤ 2000000)
    (h : ∀ v' w', w'.ownsRow w.heap.size 5 1 v' (xs ++ ys).length (cel (xs ++ ys)) → Below w.heap.size w w' → wpList Tryz.prog ops Q rest (a.put o.dst v') w') : wpList Tryz.prog ops Q (o :: rest) a w := by
  obtain ⟨i0, hi, hz0, hz1, hz2⟩ := info_parts inf1; obtain ⟨g', cap, he, h1, h2, h3, h4, h5, h6⟩ := hrow; obtain ⟨A, c, rfl, hc1, hc2, -, hat⟩ := hsl; obtain ⟨b, p, rfl, hb, hr⟩ := hat (by rw [jad]; exact h0); have hcat : cel (xs ++ ys) = cel xs ++ cel ys := by unfold cel; rw [List.map_append]
  rw [jad] at hx; injection he with he1 he2 he3
  injection he1 with he1
  injection he1 with he1
  subst he1 he3; refine wpList_append_arg w hgd s x 22 ho 5 i0 (.int .u8 0) 1 1 Tryz.underlying22 hi hz0 hz1 hz2 rfl (by decide) g 0 n n (cel xs) hs (by rw [jad, Nat.mul_one]; exact he2.symm) h4 ⟨b, p, none⟩ ys.length c (cel ys) hx (by rw [jad, Nat.mul_one]) (fun j u hu => by rw [Addr.add_lit]; exact hr j u hu) (jd7 _) ?_ ?_ ?_ ?_ ?_
  · intro hroom j hj
    omega
  · simp only [maxLen]; omega
  · omega
  · intro hroom
    omega
  · intro hgrow v' w' hown hgr
    rw [← hcat] at hown; exact h v' w' (by rw [List.length_append, ← he2]; exact hown) ⟨hgr.os, hgr.tape, hgr.output, hgr.size, fun k hk => hgr.block k hk (by simp)⟩
theorem WrS.far {w : World} {R base : Nat} {xs : List UInt8} (h : WrS w R base xs) {q : Nat} (hq : WrF w R q) : R < w.heap.size ∧ q < w.heap.size := by
  obtain ⟨-, -, v, h3, h4, -⟩ := h; have hR := (Array.getElem?_eq_some_iff.1 h3).1
  rcases hq with rfl | ⟨v', h5, h6⟩
  · exact ⟨hR, hR⟩
  · rw [h3] at h5
    cases h5
    exact ⟨hR, (h4.lt q h6).2⟩
theorem WrS.lt {w : World} {R base : Nat} {xs : List UInt8} (h : WrS w R base xs) : R < w.heap.size := (h.far (.inl rfl)).1
theorem WrS.get {w : World} {R base : Nat} {xs : List UInt8} (h : WrS w R base xs) : ∃ A n c, n = xs.length ∧ w.cell? ⟨R, 0, none⟩ = some (.slice A n c) ∧ Sl w (.slice A n c) (cel xs) := by
  obtain ⟨-, -, v, h3, h4, -⟩ := h; obtain ⟨A, c, rfl⟩ := jbn h4; exact ⟨A, _, c, rfl, jaa h3 rfl, Sl.own h4⟩
def cLet : List UInt8 := [72, 65, 73, 82, 67, 69, 82, 84]
def dy0L (l : List UInt8) : List UInt8 := l ++ numk 0 1 ++ numk 0 2 ++ numk 65536 4
def certB (f : Nat → Nat) : List UInt8 := dy0L (dy0L ((cLet ++ jbs f 5) ++ numk 0 4))
def certL (f : Nat → Nat) : List UInt8 := certB f ++ numk (csum (certB f)).toNat 8
theorem jfm (l : List UInt8) : (dy0L l).length = l.length + 7 := by unfold dy0L; simp only [List.length_append, ja9]
theorem jf6 (f : Nat → Nat) : (certB f).length = 74 := by unfold certB; rw [jfm, jfm, List.length_append, List.length_append, jh3, ja9]; rfl
set_option maxRecDepth 100000 in
set_option maxHeartbeats 8000000 in
theorem jiy (w : World) (c0 c1 c2 c3 c4 : Nat) (a1 : Int) (h0 : (c0 : Int) ≤ 65535) (h1 : (c1 : Int) ≤ 65535) (hE : a1 - -64 = (c1 : Int)) (ha : -64 ≤ a1 ∧ a1 ≤ 65471) (h2 : (c2 : Int) < 18446744073709551616) (h3 : (c3 : Int) < 18446744073709551616) (h4 : (c4 : Int) ≤ 65535) :
    Calls Tryz.prog 7 #[.agg #[.int .i64 (c0 : Int), .int .i64 a1, .int .u64 (c2 : Int), .int .u64 (c3 : Int), .int .i64 (c4 : Int)], .slice none 0 0] w fun e w' => ∃ v, e = .returned (.tuple #[v, .int .i64 0]) ∧ Sl w' v (cel (certL (jNum c0 c1 c2 c3 c4))) ∧ Below w.heap.size w w' := by
  obtain ⟨W1, hW1⟩ : ∃ W1, w.alloc (.cells #[.int .i64 (c0 : Int), .int .i64 a1, .int .u64 (c2 : Int), .int .u64 (c3 : Int), .int .i64 (c4 : Int)] 27) = W1 := ⟨_, rfl⟩; have hB1 : Below w.heap.size w W1 := by rw [← hW1]; exact jac _ _
  have hN1 : W1.heap[w.heap.size]? = some (.cells #[.int .i64 (c0 : Int), .int .i64 a1, .int .u64 (c2 : Int), .int .u64 (c3 : Int), .int .i64 (c4 : Int)] 27) := by rw [← hW1]; exact heap_alloc_new w _
  have hs1 : W1.heap.size = w.heap.size + 1 := by rw [← hW1]; exact World.size_alloc ..
  obtain ⟨W2, hW2⟩ : ∃ W2, W1.alloc (.cells #[.int .u8 72, .int .u8 65, .int .u8 73, .int .u8 82, .int .u8 67, .int .u8 69, .int .u8 82, .int .u8 84] 5 (8, 9)) = W2 := ⟨_, rfl⟩; have hB2 : Below W1.heap.size W1 W2 := by rw [← hW2]; exact jac _ _
  have hN2 : W2.heap[W1.heap.size]? = some (.cells #[.int .u8 72, .int .u8 65, .int .u8 73, .int .u8 82, .int .u8 67, .int .u8 69, .int .u8 82, .int .u8 84] 5 (8, 9)) := by rw [← hW2]; exact heap_alloc_new W1 _
  have hN3 : W2.heap[w.heap.size]? = some (.cells #[.int .i64 (c0 : Int), .int .i64 a1, .int .u64 (c2 : Int), .int .u64 (c3 : Int), .int .i64 (c4 : Int)] 27) := (hB2.block _ (by omega)).trans hN1
  have hcv : (convert 22 22 (.slice (some ⟨W1.heap.size, 0, none⟩) 8 8)).run Tryz.prog (W1.alloc (.cells #[.int .u8 72, .int .u8 65, .int .u8 73, .int .u8 82, .int .u8 67, .int .u8 69, .int .u8 82, .int .u8 84] 5)) = .ok (.slice (some ⟨W1.heap.size, 0, none⟩) 8 8) W2 := by
    rw [← hW2]; exact Lib.run_convert_bytes_const (P := Tryz.prog) W1 22 5 #[.int .u8 72, .int .u8 65, .int .u8 73, .int .u8 82, .int .u8 67, .int .u8 69, .int .u8 82, .int .u8 84] 8 8 Tryz.underlying22 Tryz.underlying5
  have hR2 : RowM W2 (.slice (some ⟨W1.heap.size, 0, none⟩) 8 8) cLet := jhb W2 cLet 8 rfl (by decide) _ hN2; have k0 : W2.cell? ⟨w.heap.size, 0, none⟩ = some (.int .i64 (c0 : Int)) := jaa hN3 rfl; have k1 : W2.cell? ⟨w.heap.size, 1, none⟩ = some (.int .i64 a1) := jaa hN3 rfl; have k2 : W2.cell? ⟨w.heap.size, 2, none⟩ = some (.int .u64 (c2 : Int)) := jaa hN3 rfl; have k3 : W2.cell? ⟨w.heap.size, 3, none⟩ = some (.int .u64 (c3 : Int)) := jaa hN3 rfl; have k4 : W2.cell? ⟨w.heap.size, 4, none⟩ = some (.int .i64 (c4 : Int)) := jaa hN3 rfl; have hs2 : W2.heap.size = w.heap.size + 2 := by rw [← hW2, World.size_alloc, hs1]
  have hj := jix W2 c0 c1 c2 c3 c4 a1 h0 h1 hE ha h2 h3 h4; have hjl := jh3 (jNum c0 c1 c2 c3 c4) 5; obtain ⟨J, hJ⟩ : ∃ J, jbs (jNum c0 c1 c2 c3 c4) 5 = J := ⟨_, rfl⟩; have hcl : certL (jNum c0 c1 c2 c3 c4) = dy0L (dy0L ((cLet ++ J) ++ numk 0 4)) ++ numk (csum (dy0L (dy0L ((cLet ++ J) ++ numk 0 4)))).toNat 8 := by unfold certL certB; rw [hJ]
  rw [hcl]; rw [hJ] at hj hjl; have HJL := hideK hjl; have HS1 := hideK hs1; clear hW2 hN2 hs1 hcl hJ hjl
  go_enter Tryz.func7, Tryz.ntmps7
  go_wp2_with fail
  refine hj.mono ?_; clear hj hcv hW1 k0 k1 k2 k3 k4; rintro e w3 ⟨v3, rfl, hR3, hB3, hO3⟩; obtain ⟨g3, cap3, rfl, -⟩ := id hR3; have hB13 : Below w.heap.size w w3 := (hB1.trans (hB2.mono (by have := hB1.size; omega))).trans (hB3.mono (by omega))
  have hR2' : RowM w3 (.slice (some ⟨W1.heap.size, 0, none⟩) 8 8) cLet := hR2.of hB3.size fun b hb => by
    obtain rfl : W1.heap.size = b := by simpa [Value.ownBlock] using hb
    exact hB3.block _ (by have := HS1.out; omega)
  clear hR2 hB1 hB2 hB3 hN3 hs2 HS1 hO3 hN1
  go_wp2_with (at_builtin; refine jkc rfl _ _ rfl W1.heap.size 8 cLet rfl hR2' _ J rfl hR3.sl (by have := HJL.out; omega) (by have := HJL.out; omega) ?_)
  intro v4 w4 hown hB4; obtain ⟨A4, cp4, rfl⟩ := jbn hown; have hlt := hown.lt; have HXL : Hid ((cLet ++ J).length = 56) := hideK (by rw [List.length_append, HJL.out]; rfl); obtain ⟨X, hX⟩ : ∃ X, cLet ++ J = X := ⟨_, rfl⟩; rw [hX] at hown HXL; have hB14 : Below w.heap.size w w4 := hB13.trans (hB4.mono hB13.size); have hs4 := hB4.size; obtain ⟨N, hN⟩ : ∃ N, cLet.length + J.length = N := ⟨_, rfl⟩; rw [hN] at hown hlt; rw [hN]; have hXN : X.length = N := by rw [← hN, ← hX, List.length_append]
  obtain ⟨W5, hW5⟩ : ∃ W5, w4.alloc (.cells #[.slice A4 N cp4] 63) = W5 := ⟨_, rfl⟩; have hN5 : W5.heap[w4.heap.size]? = some (.cells #[.slice A4 N cp4] 63) := by rw [← hW5]; exact heap_alloc_new w4 _
  have hB5 : Below w4.heap.size w4 W5 := by rw [← hW5]; exact jac _ _
  have hS5 : WrS W5 w4.heap.size w3.heap.size X := ⟨by omega, by have := hB5.size; omega, _, hN5, by rw [hXN]; exact jaf hown fun b hb => hB5.block b (hlt b hb).2, fun q hq => by have := (hlt q hq).2; omega⟩; have hB15 : Below w.heap.size w W5 := hB14.trans (hB5.mono hB14.size); have hwR : w.heap.size ≤ w4.heap.size := by have := hB14.size; omega
  have HX := hideK hX; have hw3 : w.heap.size ≤ w3.heap.size := hB13.size; have h6 := jbt W5 w4.heap.size w3.heap.size X hS5 (by have := HXL.out; omega) 0 (by decide) 4 (by decide); clear hN hXN hX hown hlt hs4 hB4 hR2' hR3 hB14 hB5 hB13 hN5
  go_wp2_with fail
  refine h6.mono ?_; clear h6 hW5; rintro e w6 ⟨rfl, hP6⟩
  go_wp2_with fail
  go_loopw [28] (fun i wr => i = .int .i64 0 ∧ wr = w6) (fun _ _ => 0)
  case atStart => exact ⟨rfl, rfl⟩
  case round =>
    obtain ⟨rfl, rfl⟩ := hrel; have h7 := jd5 wr none 0
    go_wp2_with fail
    refine h7.mono ?_; clear h7; rintro e w7 ⟨rfl, hB7⟩
    go_wp2_with fail
    obtain ⟨U8, hU8⟩ : ∃ U8, (w7.alloc (.cells #[.bool false, .slice none 0 0, .int .i64 0] 33)).alloc (.cells #[.bool false, .slice none 0 0, .int .i64 0] 33) = U8 := ⟨_, rfl⟩; have hB8 : Below w7.heap.size w7 U8 := by rw [← hU8]; exact (jac _ _).alloc (by rw [World.size_alloc]; omega) _
    have hy : U8.heap[w7.heap.size + 1]? = some (.cells #[.bool false, .slice none 0 0, .int .i64 0] 33) := by rw [← hU8]; exact jbv w7 _ _
    have hs8 : w7.heap.size + 1 < U8.heap.size := (Array.getElem?_eq_some_iff.1 hy).1; have hB78 : Below wr.heap.size wr U8 := hB7.trans (hB8.mono hB7.size); have hS8 := hP6.s.over hB78
    have hnF : ¬WrF U8 w4.heap.size (w7.heap.size + 1) := fun h1 => by
      have := (hP6.s.far (h1.over hP6.s.lt hB78)).2; have := hB7.size
      omega
    have hl8 : (X ++ numk 0 4).length = 60 := by rw [List.length_append, ja9, HXL.out]
    have hP8 : WrP W5 w4.heap.size w3.heap.size (X ++ numk 0 4) U8 := hP6.trans ⟨hS8, hB78.mono hP6.s.2.1, Chg.of_below hB78, fun q hq => .inl (hq.over hP6.s.lt hB78)⟩; obtain ⟨Y, hY⟩ : ∃ Y, X ++ numk 0 4 = Y := ⟨_, rfl⟩; rw [hY] at hS8 hl8 hP8; have h9 := jfh U8 w4.heap.size w3.heap.size Y hS8 (by omega); have HY := hideK hY; clear hY hB78 hB8 hB7 hP6; rw [hU8]; clear hU8; refine h9.mono ?_; clear h9; rintro e w9 ⟨rfl, hP9⟩; have hy9 : w9.heap[w7.heap.size + 1]? = some (.cells #[.bool false, .slice none 0 0, .int .i64 0] 33) := (hP9.c.block _ hs8 hnF).trans hy; have q0 : w9.cell? ⟨w7.heap.size + 1, 0, none⟩ = some (.bool false) := jaa hy9 rfl; have q1 : w9.cell? ⟨w7.heap.size + 1, 1, none⟩ = some (.slice none 0 0) := jaa hy9 rfl; have q2 : w9.cell? ⟨w7.heap.size + 1, 2, none⟩ = some (.int .i64 0) := jaa hy9 rfl; have hl9 := jfm Y; have h10 := jfh w9 w4.heap.size w3.heap.size (dy0L Y) hP9.s (by omega); clear hnF hy9 hy
    go_wp2_with fail
    refine h10.mono ?_; clear h10; rintro e w10 ⟨rfl, hP10⟩; obtain ⟨A10, n10, c10, hn10, hc10, hsl10⟩ := hP10.s.get; have hl10 := jfm (dy0L Y); have hs10 := jg6 w10 _ (dy0L (dy0L Y)) hsl10 (by omega); have hnn := jkb (dy0L (dy0L Y)); obtain ⟨y, hyy⟩ : ∃ y, (csum (dy0L (dy0L Y))).toNat = y := ⟨_, rfl⟩; have hyi : csum (dy0L (dy0L Y)) = (y : Int) := by omega
    have hyb : y < 18446744073709551616 := by omega
    have h11 := jbt w10 w4.heap.size w3.heap.size (dy0L (dy0L Y)) hP10.s (by omega) y hyb 8 (by decide); rw [hyi] at hs10; have HYY := hideK hyy; have HN := hideK hn10; clear hyy hyi hnn hsl10 hn10
    go_wp2_with fail
    refine hs10.mono ?_; clear hs10; rintro e w10' ⟨rfl, rfl⟩
    go_wp2_with fail
    refine h11.mono ?_; clear h11; rintro e w11 ⟨rfl, hP11⟩; obtain ⟨A11, n11, c11, hn11, hc11, hsl11⟩ := hP11.s.get; clear hn11
    go_wp2_with fail
    refine bodyPost_ret (res2 rfl rfl rfl) rfl ⟨_, rfl, ?_, hB15.trans (((hP8.trans hP9).trans (hP10.trans hP11)).b.mono hw3)⟩; rw [HX.out, HY.out, HYY.out]; exact hsl11
end
end
section
section
open Go.RowKit Go.Shelf
def shC : List UInt8 := certL (jNum 0 64 5 6 100)
theorem jkd : shC.length = 82 := by unfold shC certL; rw [List.length_append, jf6, ja9]
theorem jll : shC.take 74 = certB (jNum 0 64 5 6 100) := by unfold shC certL; rw [List.take_left' (jf6 _)]
theorem jqz : shC.drop 74 = numk (csum (certB (jNum 0 64 5 6 100))).toNat 8 := by unfold shC certL; rw [List.drop_left' (jf6 _)]
theorem jq0 : pBody ((certB (jNum 0 64 5 6 100)).drop 56) = some (0, (false, [], 0), (false, [], 0)) := by kernel_rfl
theorem jvd : nums (shC.take 8) = hcL := by kernel_rfl
theorem jtj : rdJob (nums ((shC.drop 8).take 48)) = .agg #[.int .i64 0, .int .i64 0, .int .u64 5, .int .u64 6, .int .i64 100] := by kernel_rfl
theorem jve : jobOk ((shC.drop 8).take 48) := ⟨by kernel_rfl, of_decide_eq_true (by kernel_rfl), of_decide_eq_true (by kernel_rfl), of_decide_eq_true (by kernel_rfl)⟩
theorem jtk : (le (shC.drop 74) : Int) = csum (shC.take 74) := by
  rw [jqz, jll, jns]; have := jkb (certB (jNum 0 64 5 6 100))
  omega
theorem jlm : certP shC = some (0, (false, [], 0), (false, [], 0)) := by
  unfold certP; rw [jkd, if_pos ⟨by decide, jvd, jtk, jve⟩, show 82 - 8 = 74 from rfl, jll, jq0]
theorem jq1 : certP [] = none := by
  unfold certP; rw [if_neg (fun h => absurd h.1 (by decide))]
end
end
end Go.Proofs.YtnkihnggghfioaaGreat
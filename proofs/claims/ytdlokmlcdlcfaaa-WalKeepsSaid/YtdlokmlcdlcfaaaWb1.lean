/- wal: put, firmly. -/
import Derived.Test.YtdlokmlcdlcfaaaWa3
set_option linter.unusedVariables false
set_option linter.unusedSimpArgs false
namespace Go.Proofs.Ytdlokmlcdlcfaaa
open Go.RowKit Go.MapKept
def chunk (l : List UInt8) (k : Nat) : List UInt8 := (l.drop (512 * k)).take 512
def secs (n : Nat) : Nat := (n + 511) / 512
namespace DS
def putK (d : DS) (a : Int) (l : List UInt8) : Nat → Int × DS
  | 0 => (0, d)
  | k + 1 => if (putK d a l k).1 = 0 then (putK d a l k).2.write (a + k) (chunk l k) else putK d a l k
def puts (d : DS) (a : Int) (l : List UInt8) : Int × DS := putK d a l (secs l.length)
def firmly (d : DS) (a : Int) (l : List UInt8) : Int × DS := if (d.puts a l).1 = 0 then (d.puts a l).2.barrier else d.puts a l
theorem putK_stop {d : DS} {a : Int} {l : List UInt8} {k : Nat} (h : (putK d a l k).1 ≠ 0) : ∀ j, putK d a l (k + j) = putK d a l k
  | 0 => rfl
  | j + 1 => by
    rw [← Nat.add_assoc, putK, putK_stop h j, if_neg h]
theorem putK_end {d : DS} {a : Int} {l : List UInt8} {k n : Nat} (h : (putK d a l k).1 ≠ 0) (hk : k ≤ n) : putK d a l n = putK d a l k := by
  obtain ⟨j, rfl⟩ := Nat.exists_eq_add_of_le hk
  exact putK_stop h j
theorem crash_len (d : DS) (ks : List Bool) : (d.crash ks).loose.length ≤ d.loose.length ∧ (d.crash ks).keep.length ≤ d.keep.length := by
  unfold crash
  split
  · exact ⟨Nat.le_refl _, Nat.le_refl _⟩
  · exact ⟨Nat.zero_le _, Nat.zero_le _⟩
theorem burns_len2 (d : DS) : d.burns.2.loose.length ≤ d.loose.length ∧ d.burns.2.keep.length ≤ d.keep.length := by
  unfold burns
  split
  · exact ⟨Nat.le_refl _, Nat.le_refl _⟩
  · split
    · exact ⟨Nat.le_refl _, Nat.le_refl _⟩
    · exact crash_len _ _
theorem write_len2 (d : DS) (i : Int) (b : List UInt8) : (d.write i b).2.loose.length ≤ d.loose.length + 1 ∧ (d.write i b).2.keep.length ≤ d.keep.length := by
  have h1 := burns_len2 d
  unfold DS.write
  split
  · exact ⟨Nat.le_succ _, Nat.le_refl _⟩
  · split
    · exact ⟨Nat.le_succ _, Nat.le_refl _⟩
    · generalize d.burns = p at h1
      obtain ⟨a, q⟩ := p
      cases a
      · refine ⟨?_, h1.2⟩
        show (q.loose ++ [(i, pad b)]).length ≤ _
        rw [List.length_append]
        exact Nat.succ_le_succ h1.1
      · exact ⟨Nat.le_succ_of_le h1.1, h1.2⟩
theorem barrier_len2 (d : DS) : d.barrier.2.loose.length ≤ d.loose.length ∧ d.barrier.2.keep.length ≤ d.keep.length := by
  have h1 := burns_len2 d
  unfold DS.barrier
  split
  · exact ⟨Nat.le_refl _, Nat.le_refl _⟩
  · generalize d.burns = p at h1
    obtain ⟨a, q⟩ := p
    cases a
    · exact ⟨Nat.zero_le _, h1.2⟩
    · exact h1
theorem putK_len (d : DS) (a : Int) (l : List UInt8) : ∀ k, (putK d a l k).2.loose.length ≤ d.loose.length + k ∧ (putK d a l k).2.keep.length ≤ d.keep.length
  | 0 => ⟨Nat.le_refl _, Nat.le_refl _⟩
  | k + 1 => by
    have h1 := putK_len d a l k
    rw [putK]
    split
    · have h2 := write_len2 (putK d a l k).2 (a + k) (chunk l k)
      omega
    · omega
end DS
/-- A slice's head, and its rest. -/
theorem Sl.first {w : World} {A : Option Addr} {m c : Nat} {us : List Value} (h : Sl w (.slice A m c) us) (n : Nat) (hn : n ≤ us.length) : Sl w (.slice A n c) (us.take n) := by
  obtain ⟨A', c', e, h1, h2, h3, h4⟩ := h
  cases e
  have hl : (us.take n).length = n := by rw [List.length_take]; omega
  refine ⟨A, c, by rw [hl], by omega, h2, fun e => ⟨by have := (h3 e).1; omega, (h3 e).2⟩, fun h0 => ?_⟩
  obtain ⟨b, o, e, hb, hr⟩ := h4 (by omega)
  refine ⟨b, o, e, hb, fun j u hj => hr j u ?_⟩
  rw [List.getElem?_take] at hj
  split at hj
  · exact hj
  · cases hj
theorem Sl.rest {w : World} {A : Option Addr} {m c : Nat} {us : List Value} (h : Sl w (.slice A m c) us) (n : Nat) (hn : n ≤ us.length) : Sl w (sliced A n m c 1) (us.drop n) := by
  obtain ⟨A', c', e, h1, h2, h3, h4⟩ := h
  cases e
  have hl : (us.drop n).length = us.length - n := List.length_drop
  refine ⟨_, c - n, by unfold sliced; rw [hl], by omega, by omega, fun e => ?_, fun h0 => ?_⟩
  · by_cases hc : c = n
    · omega
    · rw [if_neg hc] at e
      cases A with
      | none => have := (h3 rfl); omega
      | some x => cases e
  · obtain ⟨b, o, e, hb, hr⟩ := h4 (by omega)
    subst e
    refine ⟨b, o + n, ?_, hb, fun j u hj => ?_⟩
    · rw [if_neg (by omega)]
      show some (Addr.add _ _) = _
      rw [Nat.mul_one, Addr.add_lit]
    · rw [Nat.add_assoc]
      rw [List.getElem?_drop] at hj
      exact hr _ u hj
theorem rest_own {A : Option Addr} {m c n b : Nat} (h : (sliced A n m c 1).ownBlock = some b) : (Value.slice A m c).ownBlock = some b := by
  unfold sliced at h
  cases A with
  | none => split at h <;> cases h
  | some x =>
    split at h
    · exact h
    · simpa [Value.ownBlock, add_block] using h
theorem Chg.step {F G : Nat → Prop} {w wr w1 : World} (h : Chg F w wr) (k : Chg G wr w1) (hG : ∀ q, G q → F q ∨ w.heap.size ≤ q) : Chg F w w1 :=
  ⟨k.os.trans h.os, k.tape.trans h.tape, k.output.trans h.output, Nat.le_trans h.size k.size, fun i hi hf => (k.block i (Nat.lt_of_lt_of_le hi h.size) fun hg => (hG i hg).elim hf fun h => by omega).trans (h.block i hi hf)⟩
theorem grow_step {F G G' : Nat → Prop} {w wr : World} (h : w.heap.size ≤ wr.heap.size) (hG : ∀ q, G q → F q ∨ w.heap.size ≤ q) (k : ∀ q, G' q → G q ∨ wr.heap.size ≤ q) : ∀ q, G' q → F q ∨ w.heap.size ≤ q :=
  fun q hq => (k q hq).elim (hG q) fun h1 => .inr (Nat.le_trans h h1)
/-- .. and then another one. -/
theorem OwnL.next {w0 w wr w1 : World} {D : Nat} {F G : Nat → Prop} {d : DS} (h : Chg F w wr) (hG : ∀ q, G q → F q ∨ w.heap.size ≤ q) (k : OwnL w0 wr D G d w1) : OwnL w0 w D F d w1 := by
  obtain ⟨G', h1, h2, h3⟩ := k
  exact ⟨G', h1, h.step h2 hG, grow_step h.size hG h3⟩
/-- A slice whose block the disk has not stays as it is. -/
theorem Sl.chg {G : Nat → Prop} {w w1 : World} {v : Value} {us : List Value} (h : Sl w v us) (k : Chg G w w1) (hG : 0 < us.length → ∀ b, v.ownBlock = some b → ¬G b) : Sl w1 v us :=
  h.of k.size fun h0 b hb => by
    obtain ⟨A, c, rfl, -, -, -, h4⟩ := h
    obtain ⟨b', o, e, hlt, -⟩ := h4 h0
    subst e
    obtain rfl : b' = b := by simpa [Value.ownBlock] using hb
    exact k.block b' hlt (hG h0 b' hb)
theorem own_len {A : Option Addr} {m c n e b : Nat} (h : (Value.slice A n e).ownBlock = some b) : (Value.slice A m c).ownBlock = some b := by
  cases A with
  | none => cases h
  | some x => exact h
theorem chunk_cel (l : List UInt8) (k : Nat) (n : Nat) (hn : n = min (l.length - 512 * k) 512) : (cel (l.drop (512 * k))).take n = cel (chunk l k) := by
  unfold chunk cel
  rw [← List.map_take]
  congr 1
  by_cases h : l.length - 512 * k ≤ 512
  · rw [List.take_of_length_le (by rw [List.length_drop]; omega), List.take_of_length_le (by rw [List.length_drop]; omega)]
  · rw [show n = 512 by omega]
set_option maxRecDepth 100000 in
set_option maxHeartbeats 4000000 in
theorem put_calls {w0 w : World} {D : Nat} {F : Nat → Prop} {d : DS} (h : Own w0 w D F d) (hf : d.loose.length ≤ 900000) (hk : d.keep.length ≤ 140737488355328) (a : Int) (ha : 0 ≤ a ∧ a ≤ 1000000) (v : Value) (l : List UInt8) (hv : Sl w v (cel l)) (hvF : 0 < l.length → ∀ b, v.ownBlock = some b → ¬F b) (hl : l.length ≤ 1000000) :
    Calls Try.prog 44 #[.pointer (some ⟨D, 0, none⟩), .int .i64 a, v] w fun e w' => e = .returned (.int .i64 (d.puts a l).1) ∧ OwnL w0 w D F (d.puts a l).2 w' := by
  obtain ⟨A, c, rfl, hv1, -, -, -⟩ := id hv
  go_enter Try.func44, Try.ntmps44
  go_wp2_with fail
  go_loopw [1, 2] (fun i x wr => ∃ (k : Nat) (G : Nat → Prop), k ≤ secs l.length ∧ i = .int .i64 (a + k) ∧ (d.putK a l k).1 = 0 ∧ Own w0 wr D G (d.putK a l k).2 ∧ Chg F w wr ∧ (∀ q, G q → F q ∨ w.heap.size ≤ q) ∧ Sl wr x (cel (l.drop (512 * k))) ∧ (0 < l.length → ∀ b, x.ownBlock = some b → ¬F b ∧ b < w.heap.size)) (fun i _ _ => (secs l.length + a - intOf i).toNat)
  case atStart =>
    refine ⟨0, F, Nat.zero_le _, by simp, rfl, h, Chg.refl _ _, fun q hq => .inl hq, by simpa using hv, fun h0 b hb => ⟨hvF h0 b hb, ?_⟩⟩
    obtain ⟨A', c', e, -, -, -, h4⟩ := hv
    cases e
    obtain ⟨b', o, e, hlt, -⟩ := h4 (by rw [cel_length]; exact h0)
    subst e
    obtain rfl : b' = b := by simpa [Value.ownBlock] using hb
    exact hlt
  case round =>
    obtain ⟨k, G, hkl, rfl, he, hO, hC, hG, hx, hxF⟩ := hrel
    obtain ⟨A1, c1, rfl, hc1, hc2, hc3, -⟩ := id hx
    rw [cel_length, List.length_drop] at hc1 hc3 hx hxF ⊢
    have hlen := DS.putK_len d a l k
    have hsec : secs l.length ≤ 2000 := by unfold secs; omega
    by_cases hkn : k < secs l.length
    · have hk5 : 512 * k < l.length := by unfold secs at hkn; omega
      obtain ⟨m, hm⟩ : ∃ m, l.length - 512 * k = m := ⟨_, rfl⟩
      rw [hm] at hc1 hc3 hx hxF ⊢
      have hm0 : (0 : Int) < (m : Int) := by omega
      have hm1 : 0 < m := by omega
      have hmb : m ≤ 1000000 := by omega
      have hmc : (m : Int) ≤ (c1 : Int) := by omega
      obtain ⟨n, hn⟩ : ∃ n, min m 512 = n := ⟨_, rfl⟩
      have hn0 : 0 < n := by omega
      have hn1 : n ≤ m := by omega
      have hn5 : n ≤ 512 := by omega
      have hmin : min (m : Int) 512 = (n : Int) := by omega
      have hs1 := hx.first n (by rw [cel_length, List.length_drop]; omega)
      rw [chunk_cel l k n (by omega)] at hs1
      have hwr := own_write hO ⟨by omega, by omega⟩ (a + k) _ (chunk l k) hs1 (fun b hb hg => by
        obtain ⟨h1, h2⟩ := hxF (by omega) b (own_len hb)
        exact (hG b hg).elim h1 fun h => by omega) (by unfold chunk; rw [List.length_take]; omega)
      have hs2 := hx.rest n (by rw [cel_length, List.length_drop]; omega)
      have hnext : (cel (l.drop (512 * k))).drop n = cel (l.drop (512 * (k + 1))) := by
        unfold cel
        rw [← List.map_drop, List.drop_drop]
        congr 1
        by_cases h5 : m ≤ 512
        · rw [List.drop_eq_nil_of_le (by omega), List.drop_eq_nil_of_le (by omega)]
        · rw [show n = 512 by omega, show 512 * k + 512 = 512 * (k + 1) by omega]
      rw [hnext] at hs2
      clear hnext
      have hpk : d.putK a l (k + 1) = (d.putK a l k).2.write (a + k) (chunk l k) := by rw [DS.putK, if_pos he]
      rw [← hpk] at hwr
      obtain ⟨r, hr⟩ : ∃ r, d.putK a l (k + 1) = r := ⟨_, rfl⟩
      rw [hr] at hwr
      have hstop : r.1 ≠ 0 → d.puts a l = r := fun h0 => by
        rw [← hr] at h0 ⊢
        exact DS.putK_end h0 hkn
      have hstep : ∀ w1, OwnL w0 wr D G r.2 w1 → ∃ G', Own w0 w1 D G' r.2 ∧ Chg F w w1 ∧ (∀ q, G' q → F q ∨ w.heap.size ≤ q) ∧ Sl w1 (sliced A1 n m c1 1) (cel (l.drop (512 * (k + 1)))) ∧ ∀ b, (sliced A1 n m c1 1).ownBlock = some b → ¬F b ∧ b < w.heap.size := by
        rintro w1 ⟨G', hO', hC', hG'⟩
        refine ⟨G', hO', hC.step hC' hG, grow_step hC.size hG hG', hs2.chg hC' fun h0 b hb hg => ?_, fun b hb => hxF (by omega) b (rest_own hb)⟩
        obtain ⟨h1, h2⟩ := hxF (by omega) b (rest_own hb)
        exact (hG b hg).elim h1 fun h => by omega
      rcases (by omega : n = m ∧ m ≤ 512 ∨ n = 512 ∧ ¬m ≤ 512) with ⟨hnm, h5⟩ | ⟨hnm, h5⟩
      · subst hnm
        have h5i : (n : Int) ≤ 512 := by omega
        clear hpk hs1 hs2 hm hxF
        go_wp2_with fail
        refine hwr.mono ?_
        rintro e w1 ⟨rfl, hL⟩
        by_cases h0 : r.1 = 0
        · have h0b : (r.1 == 0) = true := by simpa using h0
          obtain ⟨G', g1, g2, g3, g4, g5⟩ := hstep w1 hL
          go_wp2_with fail
          refine ⟨⟨k + 1, G', hkn, ?_, by rw [hr]; exact h0, by rw [hr]; exact g1, g2, g3, by simpa [sliced] using g4, fun _ => by simpa [sliced] using g5⟩, by simp only [intOf]; omega⟩
          rw [show (((k + 1 : Nat) : Int)) = (k : Int) + 1 from rfl, ← Int.add_assoc]
        · have h0b : (r.1 == 0) = false := by simpa using h0
          have hp := hstop h0
          go_wp2_with fail
          go_ret
          rw [hp]
          exact ⟨rfl, hL.next hC hG⟩
      · subst hnm
        have h5i : ¬(m : Int) ≤ 512 := by omega
        have h5j : (512 : Int) ≤ (m : Int) := by omega
        have hc5 : ¬c1 = 512 := by omega
        have h5k : (512 : Int) ≤ (c1 : Int) := by omega
        clear hpk hs1 hs2 hm hxF
        go_wp2_with fail
        refine hwr.mono ?_
        rintro e w1 ⟨rfl, hL⟩
        by_cases h0 : r.1 = 0
        · have h0b : (r.1 == 0) = true := by simpa using h0
          obtain ⟨G', g1, g2, g3, g4, g5⟩ := hstep w1 hL
          go_wp2_with fail
          refine ⟨⟨k + 1, G', hkn, ?_, by rw [hr]; exact h0, by rw [hr]; exact g1, g2, g3, by simpa [sliced, Addr.add, hc5] using g4, fun _ => by simpa [sliced, Addr.add, hc5] using g5⟩, by simp only [intOf]; omega⟩
          rw [show (((k + 1 : Nat) : Int)) = (k : Int) + 1 from rfl, ← Int.add_assoc]
        · have h0b : (r.1 == 0) = false := by simpa using h0
          have hp := hstop h0
          go_wp2_with fail
          go_ret
          rw [hp]
          exact ⟨rfl, hL.next hC hG⟩
    · obtain rfl : k = secs l.length := by omega
      have h5 : l.length - 512 * secs l.length = 0 := by unfold secs; omega
      rw [h5] at hx hxF ⊢
      go_wp2_with fail
      go_ret
      refine ⟨?_, ?_⟩
      · show Ending.returned (.int .i64 0) = Ending.returned (.int .i64 (d.putK a l (secs l.length)).1)
        rw [he]
      · unfold DS.puts; exact ⟨G, hO, hC, hG⟩
set_option maxRecDepth 100000 in
set_option maxHeartbeats 4000000 in
theorem firmly_calls {w0 w : World} {D : Nat} {F : Nat → Prop} {d : DS} (h : Own w0 w D F d) (hf : d.loose.length ≤ 800000) (hk : d.keep.length ≤ 140737488355328) (a : Int) (ha : 0 ≤ a ∧ a ≤ 1000000) (v : Value) (l : List UInt8) (hv : Sl w v (cel l)) (hvF : 0 < l.length → ∀ b, v.ownBlock = some b → ¬F b) (hl : l.length ≤ 1000000) :
    Calls Try.prog 45 #[.pointer (some ⟨D, 0, none⟩), .int .i64 a, v] w fun e w' => e = .returned (.int .i64 (d.firmly a l).1) ∧ OwnL w0 w D F (d.firmly a l).2 w' := by
  have hp := put_calls h (by omega) hk a ha v l hv hvF hl
  have hlen := DS.putK_len d a l (secs l.length)
  have hsec : secs l.length ≤ 2000 := by unfold secs; omega
  obtain ⟨r, hr⟩ : ∃ r, d.puts a l = r := ⟨_, rfl⟩
  unfold DS.firmly
  rw [show d.putK a l (secs l.length) = r from hr] at hlen
  rw [hr] at hp ⊢
  obtain ⟨A, c, rfl, -, -, -, -⟩ := id hv
  go_enter Try.func45, Try.ntmps45
  go_wp2_with fail
  refine hp.mono ?_
  rintro e w1 ⟨rfl, G, g1, g2, g3⟩
  by_cases h0 : r.1 = 0
  · have h0b : (r.1 == 0) = true := by simpa using h0
    have hb := own_barrier g1 ⟨by omega, by omega⟩
    go_wp2_with fail
    refine hb.mono ?_
    rintro e w2 ⟨rfl, hL⟩
    go_wp2_with fail
    go_ret
    exact ⟨rfl, hL.next g2 g3⟩
  · have h0b : (r.1 == 0) = false := by simpa using h0
    go_wp2_with fail
    go_ret
    exact ⟨rfl, G, g1, g2, g3⟩
end Go.Proofs.Ytdlokmlcdlcfaaa

/- wal: head, bytes.Equal. -/
import Derived.Test.YtdlokmlcdlcfaaaWb3
set_option linter.unusedVariables false
set_option linter.unusedSimpArgs false
namespace Go.Proofs.Ytdlokmlcdlcfaaa
open Go.RowKit Go.MapKept
theorem three_cell (a b n k : Nat) (hk : k < 3) : (#[Value.int .i64 (a : Int), .int .i64 (b : Int), .int .i64 (n : Int)] : Array Value)[k]? = some (.int .i64 (three a b n k : Int)) := by
  rcases (by omega : k = 0 ∨ k = 1 ∨ k = 2) with rfl | rfl | rfl <;> rfl
theorem three_lt {a b n : Nat} (ha : a < 9223372036854775808) (hb : b < 9223372036854775808) (hn : n < 9223372036854775808) (k : Nat) : three a b n k < 9223372036854775808 := by
  unfold three
  split
  · exact ha
  · exact hb
  · exact hn
set_option maxRecDepth 100000 in
set_option maxHeartbeats 4000000 in
theorem head_calls (w : World) (s : List UInt8) (hs : s.length ≤ 1000) (a b : Nat) (ha : a < 9223372036854775808) (hb : b < 9223372036854775808) (v : Value) (data : List UInt8) (hv : Sl w v (cel data)) (hl : data.length ≤ 1000000) :
    Calls Try.prog 46 #[.string (bstr s), .int .i64 (a : Int), .int .i64 (b : Int), v] w fun e w' => ∃ v', e = .returned v' ∧ RowM w' v' (headS s a b data) ∧ Below w.heap.size w w' ∧ ∀ b, v'.ownBlock = some b → w.heap.size ≤ b := by
  obtain ⟨v0, w1, hcv, hrow, hB1, hO1⟩ := bytes_row w s hs
  obtain ⟨A, c, hv', hc1, -, -, hat⟩ := id hv
  have hvb : ∀ W, Below w.heap.size w W → Sl W v (cel data) := fun W h => hv.of h.size fun h0 q hq => by
    obtain ⟨q', o, e, hlt, -⟩ := hat h0
    subst hv' e
    obtain rfl : q' = q := by simpa [Value.ownBlock] using hq
    exact h.block q' hlt
  obtain ⟨m, hm⟩ : ∃ m, data.length = m := ⟨_, rfl⟩
  rw [cel_length, hm] at hv'
  subst hv'
  obtain ⟨g0, cap0, rfl, hg0, -⟩ := id hrow
  go_enter Try.func46, Try.ntmps46
  go_wp2_with fail
  obtain ⟨cs, hcs⟩ : ∃ cs, #[Value.int .i64 (a : Int), .int .i64 (b : Int), .int .i64 (m : Int)] = cs := ⟨_, rfl⟩
  have hcell : ∀ k, k < 3 → cs[k]? = some (.int .i64 (three a b m k : Int)) := by
    rw [← hcs]
    exact fun k hk => three_cell a b m k hk
  have h3lt := three_lt ha hb (show m < 9223372036854775808 by omega)
  rw [hcs]
  have hBx := heap_alloc_new w1 (.cells cs 3)
  have hB2 : Below w.heap.size w (w1.alloc (.cells cs 3)) := hB1.alloc hB1.size _
  have hs1 := hB1.size
  have hal : (w1.alloc (.cells cs 3)).heap.size = w1.heap.size + 1 := World.size_alloc ..
  have hrow2 : RowM (w1.alloc (.cells cs 3)) (.slice (some ⟨g0, 0, none⟩) s.length cap0) s := hrow.of (by omega) fun q hq => by
    obtain rfl : g0 = q := by simpa [Value.ownBlock] using hq
    exact Below.heap_alloc _ _ _ hg0
  have hO2 : w.heap.size ≤ g0 := hO1 g0 rfl
  obtain ⟨W, hW⟩ : ∃ W, w1.alloc (.cells cs 3) = W := ⟨_, rfl⟩
  obtain ⟨B, hB⟩ : ∃ B, w1.heap.size = B := ⟨_, rfl⟩
  rw [hW, hB] at hBx
  rw [hW] at hB2 hal hrow2 ⊢
  rw [hB] at hal hg0 hs1 ⊢
  clear hW hB hrow hcs hcv hB1 hO1
  go_loopw [9, 20] (fun x i wr => ∃ k : Nat, k ≤ 3 ∧ RowM wr x (hdk s a b m k) ∧ i = .int .i64 (k : Int) ∧ Below w.heap.size w wr ∧ wr.heap[B]? = some (.cells cs 3) ∧ B < wr.heap.size ∧ ∀ q, x.ownBlock = some q → w.heap.size ≤ q ∧ q ≠ B) (fun _ i _ => 3 - (intOf i).toNat)
  case atStart => exact ⟨0, Nat.zero_le _, hrow2, rfl, hB2, hBx, by omega, fun q hq => by
    obtain rfl : g0 = q := by simpa [Value.ownBlock] using hq
    exact ⟨hO2, by omega⟩⟩
  case round =>
    clear hrow2 hB2 hBx hO2 hal hg0
    obtain ⟨k, hk, hr, rfl, hBl, hbx, hBs, hO⟩ := hrel
    have hk0 : (0 : Int) ≤ (k : Int) := by omega
    have hk3 : (k : Int) ≤ 3 := by omega
    have hlen := hdk_len s a b m k
    obtain ⟨g, cap, hx, -⟩ := id hr
    subst hx
    by_cases hkl : k < 3
    · have hki : (k : Int) < 3 := by omega
      have hc : wr.cell? ⟨B, k, none⟩ = some (.int .i64 (three a b m k : Int)) := by rw [cell_of_row wr B k _ _ _ hbx]; exact hcell k hkl
      have hlt := h3lt k
      have hnm := number_m wr _ _ hr (by omega) (three a b m k) (by omega)
      obtain ⟨N, hN⟩ : ∃ N, (hdk s a b m k).length = N := ⟨_, rfl⟩
      obtain ⟨x, hx⟩ : ∃ x, three a b m k = x := ⟨_, rfl⟩
      have hh : hdk s a b m (k + 1) = hdk s a b m k ++ num8 x := by rw [hdk, hx]
      rw [hx] at hc hlt hnm
      rw [hN] at hnm hO hlen ⊢
      have hx0 : (0 : Int) ≤ (x : Int) := by omega
      have hx1 : (x : Int) < 9223372036854775808 := by omega
      clear hlen hr hx hN h3lt
      go_wp2_with fail
      refine hnm.mono ?_
      rintro e w2 ⟨v', rfl, hr2, hC2, hO3⟩
      go_wp2_with fail
      have hgB : g ≠ B := (hO g rfl).2
      have hgw := (hO g rfl).1
      refine ⟨⟨k + 1, by omega, ?_, rfl, hBl.trans (hC2.below hBl.size fun q hq => by
        obtain rfl : g = q := by simpa [Value.ownBlock] using hq
        exact hgw), (hC2.block B hBs fun hq => by
        obtain rfl : g = B := by simpa [Value.ownBlock] using hq
        exact hgB rfl).trans hbx, Nat.lt_of_lt_of_le hBs hC2.size, fun q hq => (hO3 q hq).elim (hO q) fun h => ⟨Nat.le_trans hBl.size h, by omega⟩⟩, by simp only [intOf]; omega⟩
      rw [hh]
      exact hr2
    · obtain rfl : k = 3 := by omega
      have hsl := hr.sl
      have hdv := hvb wr hBl
      have hn1 := wsum_nn (hdk s a b m 3) 14695981039346656037 (by decide)
      have hs1 := sum_calls wr 14695981039346656037 _ _ hsl (by omega)
      obtain ⟨h1, hh1⟩ : ∃ h1, wsum 14695981039346656037 (hdk s a b m 3) = h1 := ⟨_, rfl⟩
      rw [hh1] at hn1 hs1
      have hn2 := wsum_nn data h1 hn1
      have hs2 := sum_calls wr h1 _ _ hdv (by omega)
      obtain ⟨h2, hh2⟩ : ∃ h2, wsum h1 data = h2 := ⟨_, rfl⟩
      rw [hh2] at hn2 hs2
      have hnm := number_m wr _ _ hr (by omega) h2.toNat (by omega)
      rw [Int.toNat_of_nonneg hn2.1] at hnm
      have hH : headS s a b data = hdk s a b m 3 ++ num8 h2.toNat := by unfold headS; rw [hm, hh1, hh2]
      obtain ⟨N, hN⟩ : ∃ N, (hdk s a b m 3).length = N := ⟨_, rfl⟩
      rw [hN] at hnm hs1 hO hlen ⊢
      clear hlen hr hN h3lt hv hsl
      have hki : ¬(3 : Int) < 3 := by omega
      go_wp2_with fail
      refine hs1.mono ?_
      rintro e w2 ⟨rfl, rfl⟩
      go_wp2_with fail
      refine hs2.mono ?_
      rintro e w3 ⟨rfl, rfl⟩
      go_wp2_with fail
      refine hnm.mono ?_
      rintro e w4 ⟨v', rfl, hr2, hC2, hO3⟩
      go_wp2_with fail
      go_ret
      have hgw := (hO g rfl).1
      refine ⟨_, rfl, by rw [hH]; exact hr2, hBl.trans (hC2.below hBl.size fun q hq => by
        obtain rfl : g = q := by simpa [Value.ownBlock] using hq
        exact hgw), fun q hq => (hO3 q hq).elim (fun h => (hO q h).1) fun h => Nat.le_trans hBl.size h⟩
theorem bstr_beq (a b : List UInt8) : ((bstr a).toList == (bstr b).toList) = decide (a = b) := by
  rw [ByteArray.toList_eq, ByteArray.toList_eq]
  show (a == b) = _
  by_cases h : a = b
  · simp [h]
  · simp [h]
theorem bstr_inj {a b : List UInt8} (h : bstr a = bstr b) : a = b := by
  unfold bstr at h
  injection h with h
  exact List.toArray_inj h
set_option maxRecDepth 100000 in
set_option maxHeartbeats 4000000 in
theorem equal_calls (w : World) (u v : Value) (a b : List UInt8) (hu : Sl w u (cel a)) (hv : Sl w v (cel b)) :
    Calls Try.prog 53 #[u, v] w fun e w' => e = .returned (.bool (decide (a = b))) ∧ w' = w := by
  have hcu : (convert 30 9 u).run Try.prog w = .ok (.string (bstr a)) w := conv_any (P := Try.prog) w 30 5 Try.underlying30 Try.underlying5 _ _ hu _ Try.underlying9
  have hcv : (convert 30 9 v).run Try.prog w = .ok (.string (bstr b)) w := conv_any (P := Try.prog) w 30 5 Try.underlying30 Try.underlying5 _ _ hv _ Try.underlying9
  obtain ⟨A, c, rfl, -⟩ := id hu
  obtain ⟨A2, c2, rfl, -⟩ := id hv
  obtain ⟨m, hm⟩ : ∃ m, (cel a).length = m := ⟨_, rfl⟩
  obtain ⟨n, hn⟩ : ∃ n, (cel b).length = n := ⟨_, rfl⟩
  rw [hm] at hcu ⊢
  rw [hn] at hcv ⊢
  have he := bstr_beq a b
  clear hm hn
  go_enter Try.func53, Try.ntmps53
  go_wp2_with fail
  go_ret
  exact ⟨rfl, rfl⟩
end Go.Proofs.Ytdlokmlcdlcfaaa

/- wal: number, head, on a row that bears a mark. -/
import Derived.ArgAppend
import Derived.Laws.IdiomStrings
import Derived.Test.YtdlokmlcdlcfaaaWb2
set_option linter.unusedVariables false
set_option linter.unusedSimpArgs false
namespace Go.Proofs.Ytdlokmlcdlcfaaa
open Go.RowKit Go.MapKept
/-- A row of bytes that may be written, all of it. -/
def RowM (w : World) (v : Value) (xs : List UInt8) : Prop :=
  ∃ g cap, v = .slice (some ⟨g, 0, none⟩) xs.length cap ∧ g < w.heap.size ∧ xs.length ≤ cap ∧ cap ≤ maxLen ∧ w.rangeAt g 0 (cel xs) ∧ (∀ j, j < cap → (w.cell? ⟨g, j, none⟩).isSome = true) ∧ ∀ j, j < cap → w.frozen? ⟨g, j, none⟩ = false
theorem RowM.sl {w : World} {v : Value} {xs : List UInt8} (h : RowM w v xs) : Sl w v (cel xs) := by
  obtain ⟨g, cap, rfl, h1, h2, h3, h4, h5, h6⟩ := h
  exact ⟨_, cap, by rw [cel_length], by rw [cel_length]; exact h2, h3, fun e => (by cases e), fun _ => ⟨g, 0, rfl, h1, h4⟩⟩
theorem RowM.of {w w' : World} {v : Value} {xs : List UInt8} (h : RowM w v xs) (hs : w.heap.size ≤ w'.heap.size) (e : ∀ b, v.ownBlock = some b → w'.heap[b]? = w.heap[b]?) : RowM w' v xs := by
  obtain ⟨g, cap, rfl, h1, h2, h3, h4, h5, h6⟩ := h
  have e := e g rfl
  refine ⟨g, cap, rfl, Nat.lt_of_lt_of_le h1 hs, h2, h3, rangeAt_of h4 e, fun j hj => ?_, fun j hj => ?_⟩
  · rw [World.cell?_of_block (w := w) (a := ⟨g, j, none⟩) e]; exact h5 j hj
  · rw [World.frozen?_of_block (w := w) (a := ⟨g, j, none⟩) e]; exact h6 j hj
theorem RowM.own {w : World} {base n : Nat} {v : Value} {xs : List UInt8} (h : w.ownsRow base 5 1 v n (cel xs)) (h0 : 0 < n) : RowM w v xs := by
  have hl : xs.length = n := by have := h.1; rw [cel_length] at this; omega
  have hf := own_frozen h
  have hc := fun g => h.cells (g := g)
  rcases h.2 with ⟨-, h1⟩ | ⟨g, cap, cur, rfl, hb, hg, hnc, hcm, hcs, ht⟩
  · omega
  · refine ⟨g, cap, by rw [hl], (Array.getElem?_eq_some_iff.1 hg).1, by omega, hcm, fun j u hu => ?_, fun j hj => ?_, fun j hj => hf g rfl j⟩
    · have := hc g rfl j u hu
      rwa [Addr.add_lit] at this
    · rw [cell_of_row w g j _ _ _ hg, Array.getElem?_eq_getElem (by omega)]
      rfl
theorem setCells_out (b : Nat) : ∀ (vs : List Value) (o : Nat) (w : World) (k : Nat), k ≠ b → (w.setCells b o vs).heap[k]? = w.heap[k]?
  | [], o, w, k, h => rfl
  | v :: vs, o, w, k, h => (setCells_out b vs (o + 1) (w.setCell ⟨b, o, none⟩ v) k h).trans (Below.heap_setCell _ _ _ _ h)
theorem setCells_size (b : Nat) : ∀ (vs : List Value) (o : Nat) (w : World), (w.setCells b o vs).heap.size = w.heap.size
  | [], o, w => rfl
  | v :: vs, o, w => (setCells_size b vs (o + 1) (w.setCell ⟨b, o, none⟩ v)).trans (by simp [World.setCell])
theorem setCells_only (b : Nat) : ∀ (vs : List Value) (o : Nat) (w : World), Only b w (w.setCells b o vs)
  | [], o, w => ⟨rfl, rfl, rfl, rfl, fun _ _ => rfl⟩
  | v :: vs, o, w => only_set.trans (setCells_only b vs (o + 1) (w.setCell ⟨b, o, none⟩ v))
/-- append to it. -/
theorem append_m {w : World} {ops : Array Oper} {rest : List Oper} {o : Oper} {a : Act} {Q : Exit → Act → World → Prop} (hgd : o.guard = none) (s x : Operand)
    (ho : o.op = .call { callee := .builtin .append, args := #[s, x], argTypes := #[30, 30] })
    (v : Value) (xs : List UInt8) (hs : a.eval s = v) (hrow : RowM w v xs) (x' : Value) (ys : List UInt8) (hx : a.eval x = x') (hsl : Sl w x' (cel ys)) (h0 : 0 < ys.length) (hlen : xs.length + ys.length ≤ 2000000)
    (h : ∀ v' w', RowM w' v' (xs ++ ys) → Chg (fun k => v.ownBlock = some k) w w' → (∀ b, v'.ownBlock = some b → v.ownBlock = some b ∨ w.heap.size ≤ b) → wpList Try.prog ops Q rest (a.put o.dst v') w') : wpList Try.prog ops Q (o :: rest) a w := by
  obtain ⟨i0, hi, hz0, hz1, hz2⟩ := info_parts inf1
  obtain ⟨g, cap, rfl, h1, h2, h3, h4, h5, h6⟩ := hrow
  obtain ⟨A, c, rfl, hc1, hc2, -, hat⟩ := hsl
  obtain ⟨b, p, rfl, hb, hr⟩ := hat (by rw [cel_length]; exact h0)
  have hcat : cel (xs ++ ys) = cel xs ++ cel ys := by unfold cel; rw [List.map_append]
  rw [cel_length] at hx
  refine wpList_append_arg w hgd s x 30 ho 5 i0 (.int .u8 0) 1 1 Try.underlying30 hi hz0 hz1 hz2 rfl (by decide) g 0 xs.length cap (cel xs) hs (by rw [cel_length, Nat.mul_one]) h4 ⟨b, p, none⟩ ys.length c (cel ys) hx (by rw [cel_length, Nat.mul_one]) (fun j u hu => by rw [Addr.add_lit]; exact hr j u hu) (cel_one _) ?_ ?_ ?_ ?_ ?_
  · intro hroom j hj
    rw [cel_length] at hj
    exact ⟨h5 _ (by omega), h6 _ (by omega)⟩
  · simp only [maxLen]; omega
  · omega
  · intro hroom
    have hon := setCells_only g (cel ys) (0 + xs.length * 1) w
    refine h _ _ ⟨g, cap, by rw [List.length_append], by rw [hon.size]; exact h1, by rw [List.length_append]; exact hroom, h3, ?_, fun j hj => ?_, fun j hj => ?_⟩ (hon.chg rfl) fun b hb => .inl hb
    · intro j u hu
      rw [hcat] at hu
      by_cases hj : j < xs.length
      · rw [List.getElem?_append_left (by rw [cel_length]; exact hj)] at hu
        rw [World.cell?_setCells_out _ _ _ _ _ (fun _ _ => .inl (by show 0 + j < _; omega))]
        exact h4 j u hu
      · rw [List.getElem?_append_right (by rw [cel_length]; omega), cel_length] at hu
        obtain ⟨hlt, he⟩ := List.getElem?_eq_some_iff.1 hu
        have := World.cell?_setCells_in g (cel ys) (0 + xs.length * 1) w (fun j hj => h5 _ (by rw [cel_length] at hj; omega)) (j - xs.length) hlt
        rw [he, show 0 + xs.length * 1 + (j - xs.length) = 0 + j by omega] at this
        exact this
    · by_cases hj2 : j < xs.length ∨ xs.length + ys.length ≤ j
      · rw [World.cell?_setCells_out _ _ _ _ _ (fun _ _ => by show j < 0 + xs.length * 1 ∨ 0 + xs.length * 1 + (cel ys).length ≤ j; rw [cel_length]; omega)]
        exact h5 j hj
      · have := World.cell?_setCells_in g (cel ys) (0 + xs.length * 1) w (fun j hj => h5 _ (by rw [cel_length] at hj; omega)) (j - xs.length) (by rw [cel_length]; omega)
        rw [show 0 + xs.length * 1 + (j - xs.length) = j by omega] at this
        rw [this]
        rfl
    · rw [World.frozen?_setCells]
      exact h6 j hj
  · intro hgrow v' w' hown hgr
    rw [← hcat] at hown
    refine h v' w' (RowM.own hown (by omega)) ⟨hgr.os, hgr.tape, hgr.output, hgr.size, fun k hk _ => hgr.block k hk (by simp)⟩ fun b hb => .inr (hown.lt b hb).1
/-- What a string's bytes are. -/
theorem bytes_row (w : World) (s : List UInt8) (hs : s.length ≤ 1000) : ∃ v w1, (convert 9 30 (.string (bstr s))).run Try.prog w = .ok v w1 ∧ RowM w1 v s ∧ Below w.heap.size w w1 ∧ (∀ b, v.ownBlock = some b → w.heap.size ≤ b) := by
  refine ⟨_, _, run_bytes_of_string w 9 30 5 (bstr s) Try.underlying9 Try.underlying30 Try.underlying5, ?_, ((Below.refl _ w).drew).alloc (Nat.le_refl _) _, fun b hb => ?_⟩
  · have hge := grownCap_ge w (bstr s).size 0 5
    have hle := grownCap_le_maxLen w (bstr s).size 0 5 (by show s.length ≤ _; simp only [maxLen]; omega)
    have hsz : (bstr s).size = s.length := rfl
    rw [hsz] at hge hle ⊢
    obtain ⟨cap, hcap⟩ : ∃ cap, grownCap w s.length 0 5 = cap := ⟨_, rfl⟩
    rw [hcap] at hge hle ⊢
    obtain ⟨R, hR⟩ : ∃ R, bytesRow (bstr s) cap = R := ⟨_, rfl⟩
    have hRl : R.toList = cel s ++ List.replicate (cap - s.length) (.int .u8 0) := by
      rw [← hR]
      unfold bytesRow
      rw [Array.toList_append, Array.toList_replicate, hsz]
      congr 1
      show ((s.toArray.map _)).toList = _
      simp [cel, oct]
    have hRs : R.size = cap := by rw [← Array.length_toList, hRl, List.length_append, cel_length, List.length_replicate]; omega
    rw [hR]
    have hb : (w.drew.alloc (.cells R 5 (R.size, R.size + 1))).heap[w.heap.size]? = some (.cells R 5 (R.size, R.size + 1)) := heap_alloc_new w.drew _
    refine ⟨w.heap.size, cap, rfl, (Array.getElem?_eq_some_iff.1 hb).1, hge, hle, fun j u hu => ?_, fun j hj => ?_, fun j hj => ?_⟩
    · rw [Nat.zero_add, cell_of_row _ _ j _ _ _ hb, ← Array.getElem?_toList, hRl, List.getElem?_append_left (List.getElem?_eq_some_iff.1 hu).1]
      exact hu
    · rw [cell_of_row _ _ j _ _ _ hb, Array.getElem?_eq_getElem (by omega)]
      rfl
    · unfold World.frozen?
      show (match (w.drew.alloc (.cells R 5 (R.size, R.size + 1))).heap[w.heap.size]? with | some (.cells _ _ (lo, hi)) => (lo ≤ j && j < hi : Bool) | _ => false) = false
      rw [hb]
      simp
      omega
  · obtain rfl : w.heap.size = b := by simpa [Value.ownBlock] using hb
    exact Nat.le_refl _
set_option maxRecDepth 100000 in
set_option maxHeartbeats 2000000 in
theorem number_m (w : World) (v : Value) (xs : List UInt8) (hrow : RowM w v xs) (hxl : xs.length ≤ 1000000) (x : Nat) (hx : x < 18446744073709551616) :
    Calls Try.prog 54 #[v, .int .u64 (x : Int)] w fun e w' => ∃ v', e = .returned v' ∧ RowM w' v' (xs ++ numk x 8) ∧ Chg (fun k => v.ownBlock = some k) w w' ∧ ∀ b, v'.ownBlock = some b → v.ownBlock = some b ∨ w.heap.size ≤ b := by
  obtain ⟨V, hV⟩ : ∃ V, v = V := ⟨_, rfl⟩
  obtain ⟨g0, cap0, hv0, -⟩ := id hrow
  subst hv0
  go_enter Try.func54, Try.ntmps54
  go_wp2_with fail
  go_loopw [0, 6] (fun a i wr => ∃ k : Nat, k ≤ 8 ∧ RowM wr a (xs ++ numk x k) ∧ i = .int .i64 (k : Int) ∧ Chg (fun k => V.ownBlock = some k) w wr ∧ ∀ b, a.ownBlock = some b → V.ownBlock = some b ∨ w.heap.size ≤ b) (fun _ i _ => 8 - (intOf i).toNat)
  case atStart => exact ⟨0, Nat.zero_le _, by simpa [numk] using hrow, rfl, Chg.refl _ _, fun b hb => .inl (by rw [← hV]; exact hb)⟩
  case round =>
    obtain ⟨k, hk, hr, rfl, hC, hO⟩ := hrel
    have hk0 : (0 : Int) ≤ (k : Int) := by omega
    have hkb : (k : Int) ≤ 8 := by omega
    obtain ⟨g, cap, ha, -⟩ := id hr
    subst ha
    by_cases hkl : k < 8
    · have hki : (k : Int) < 8 := by omega
      have hnl := numk_len x k
      obtain ⟨N, hN⟩ : ∃ N, (xs ++ numk x k).length = N := ⟨_, rfl⟩
      have hN2 : N ≤ 1000008 := by rw [← hN, List.length_append, hnl]; omega
      have hN3 : (xs ++ numk x k).length ≤ 1000008 := by rw [hN]; exact hN2
      rw [hN] at hr hO ⊢
      obtain ⟨y, hy⟩ : ∃ y, UInt8.ofNat (x / 2 ^ (8 * k)) = y := ⟨_, rfl⟩
      have hyv : (y.toNat : Int) = (x : Int) / 2 ^ (8 * k) % 256 := by rw [← hy, UInt8.toNat_ofNat']; simp
      have hsl := sl_byte wr y _ hyv (0, 0)
      have hgs : g < wr.heap.size := by
        obtain ⟨g', cap', e, h1, -⟩ := hr
        cases e
        exact h1
      have hr2 : RowM (wr.alloc (.cells #[.int .u8 ((x : Int) / 2 ^ (8 * k) % 256)] 5)) (.slice (some ⟨g, 0, none⟩) N cap) (xs ++ numk x k) := hr.of (by simp) fun b hb => by
        obtain rfl : g = b := by simpa [Value.ownBlock] using hb
        exact Below.heap_alloc _ _ _ hgs
      have hnx : numk x (k + 1) = numk x k ++ [y] := by rw [numk, hy]
      have hal : Chg (fun k => V.ownBlock = some k) w (wr.alloc (.cells #[.int .u8 ((x : Int) / 2 ^ (8 * k) % 256)] 5)) := hC.step (Chg.of_below (F := fun _ => False) (below_alloc _ _)) fun q h => h.elim
      clear hyv hy hnl hN hN2
      go_wp2_with (at_builtin; refine append_m rfl _ _ rfl _ _ rfl hr2 _ [y] rfl hsl (by simp) (by simp only [List.length_singleton]; omega) ?_)
      intro v' w1 hrow1 hC1 hO1
      go_wp2_with fail
      refine ⟨⟨k + 1, by omega, ?_, rfl, hal.step hC1 hO, fun b hb => (hO1 b hb).elim (hO b) fun h => .inr ?_⟩, by simp only [intOf]; omega⟩
      · rw [hnx]
        simpa using hrow1
      · have h2 := hC.size
        have h3 : wr.heap.size + 1 ≤ b := by simpa using h
        omega
    · obtain rfl : k = 8 := by omega
      clear hrow
      go_wp2_with fail
      go_ret
      exact ⟨_, rfl, hr, by rw [hV]; exact hC, fun b hb => by rw [hV]; exact hO b hb⟩
def num8 (x : Nat) : List UInt8 := numk x 8
theorem num8_len (x : Nat) : (num8 x).length = 8 := numk_len _ 8
/-- A head, without its sum. -/
def three (a b n : Nat) : Nat → Nat
  | 0 => a
  | 1 => b
  | _ => n
def hdk (s : List UInt8) (a b n : Nat) : Nat → List UInt8
  | 0 => s
  | k + 1 => hdk s a b n k ++ num8 (three a b n k)
theorem hdk_len (s : List UInt8) (a b n : Nat) : ∀ k, (hdk s a b n k).length = s.length + 8 * k
  | 0 => rfl
  | k + 1 => by rw [hdk, List.length_append, hdk_len s a b n k, num8_len]; omega
def headS (s : List UInt8) (a b : Nat) (data : List UInt8) : List UInt8 := hdk s a b data.length 3 ++ num8 (wsum (wsum 14695981039346656037 (hdk s a b data.length 3)) data).toNat
theorem wone_nn (h : Int) (b : UInt8) : 0 ≤ wone h b ∧ wone h b < 18446744073709551616 := by
  unfold wone
  rw [IntKind.wrap_u64]
  omega
theorem wsum_nn : ∀ (l : List UInt8) (h : Int), 0 ≤ h ∧ h < 18446744073709551616 → 0 ≤ wsum h l ∧ wsum h l < 18446744073709551616
  | [], h, hh => hh
  | b :: l, h, hh => wsum_nn l _ (wone_nn h b)
end Go.Proofs.Ytdlokmlcdlcfaaa

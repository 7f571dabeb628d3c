/- wal, without a program in sight: a record is written, and read. -/
import Derived.Test.YtdlokmlcdlcfaaaWp1
set_option linter.unusedVariables false
set_option linter.unusedSimpArgs false
namespace Go.Proofs.Ytdlokmlcdlcfaaa
theorem wr_mem {a : Int} {l : List UInt8} : ∀ {k : Nat} {x : Int × Sec}, x ∈ wr a l k → ∃ j, j < k ∧ x = (a + j, pad (chunk l j))
  | 0, x, h => by cases h
  | k + 1, x, h => by
    rcases List.mem_append.1 h with h | h
    · obtain ⟨j, h1, h2⟩ := wr_mem h
      exact ⟨j, by omega, h2⟩
    · simp at h
      exact ⟨k, by omega, h⟩
theorem put_app (f : Int → Sec) : ∀ (a b : Wr), DS.put f (a ++ b) = DS.put (DS.put f a) b
  | [], b => rfl
  | (i, s) :: a, b => by show DS.put _ (a ++ b) = DS.put (DS.put _ a) b; exact put_app _ a b
theorem put_out {f : Int → Sec} {L : Wr} {i : Int} (h : ∀ x ∈ L, x.1 ≠ i) : DS.put f L i = f i := DS.put_none h
/-- What so many chunks leave. -/
theorem wr_in (f : Int → Sec) (a : Int) (l : List UInt8) : ∀ (n k : Nat), k < n → DS.put f (wr a l n) (a + k) = pad (chunk l k)
  | 0, k, h => by omega
  | n + 1, k, h => by
    rw [wr, put_app]
    show (if a + k = a + n then _ else _) = _
    by_cases e : k = n
    · subst e
      rw [if_pos rfl]
    · rw [if_neg (by omega)]
      exact wr_in f a l n k (by omega)
theorem wr_out (f : Int → Sec) (a : Int) (l : List UInt8) (n : Nat) (i : Int) (h : i < a ∨ a + n ≤ i) : DS.put f (wr a l n) i = f i :=
  put_out fun x hx => by
    obtain ⟨j, h1, rfl⟩ := wr_mem hx
    show a + j ≠ i
    omega
theorem secs_le (n : Nat) : n ≤ 512 * secs n := by unfold secs; omega
/-- What was written chunk by chunk is read. -/
theorem run_take {f : Int → Sec} {a : Int} {b : List UInt8} (h : ∀ k, k < secs b.length → f (a + k) = pad (chunk b k)) : ∀ k, k ≤ secs b.length → (run f a k).length = 512 * k ∧ (run f a k).take b.length = b.take (512 * k)
  | 0, _ => ⟨rfl, by simp [run]⟩
  | k + 1, hk => by
    obtain ⟨h1, h2⟩ := run_take h k (by omega)
    have hf := h k (by omega)
    have hp := pad_len _ (chunk_len b k)
    have hk5 : 512 * k < b.length := by unfold secs at hk; omega
    refine ⟨by rw [run, List.length_append, h1, hf, hp]; omega, ?_⟩
    rw [run, List.take_append, h2, h1, hf]
    have e : (pad (chunk b k)).take (b.length - 512 * k) = chunk b k := by
      unfold pad
      by_cases h5 : 512 ≤ b.length - 512 * k
      · have : (chunk b k).length = 512 := by unfold chunk; rw [List.length_take, List.length_drop]; omega
        rw [this, List.take_of_length_le (by rw [List.length_append, List.length_replicate]; omega)]
        simp
      · have : (chunk b k).length = b.length - 512 * k := by unfold chunk; rw [List.length_take, List.length_drop]; omega
        rw [← this, List.take_left]
    rw [e]
    unfold chunk
    rw [show 512 * (k + 1) = 512 * k + 512 by omega, List.take_add]
theorem run_all {f : Int → Sec} {a : Int} {b : List UInt8} (h : ∀ k, k < secs b.length → f (a + k) = pad (chunk b k)) : (run f a (secs b.length)).take b.length = b := by
  rw [(run_take h _ (Nat.le_refl _)).2, List.take_of_length_le (secs_le _)]
theorem head_len (s : List UInt8) (hs : s.length = 4) (x y : Nat) (d : List UInt8) : (headS s x y d).length = 36 := by unfold headS; rw [List.length_append, hdk_len, num8_len, hs]
theorem head_split (s : List UInt8) (x y : Nat) (d : List UInt8) : headS s x y d = s ++ (num8 x ++ (num8 y ++ (num8 d.length ++ num8 (wsum (wsum 14695981039346656037 (hdk s x y d.length 3)) d).toNat))) := by
  unfold headS
  show (((s ++ num8 x) ++ num8 y) ++ num8 d.length) ++ _ = _
  simp only [List.append_assoc]
theorem num8_inj {x y : Nat} (hx : x < 18446744073709551616) (hy : y < 18446744073709551616) (h : num8 x = num8 y) : x = y := by
  have h1 := congrArg le h
  unfold num8 at h1
  rw [le_numk, le_numk] at h1
  omega
theorem head_inj {s : List UInt8} {x y x' y' : Nat} {d d' : List UInt8} (hx : x < 18446744073709551616) (hx' : x' < 18446744073709551616) (h : headS s x y d = headS s x' y' d') : x = x' := by
  rw [head_split, head_split] at h
  have h1 := (List.append_inj h rfl).2
  exact num8_inj hx hx' (List.append_inj h1 (by rw [num8_len, num8_len])).1
theorem pad36 {s : List UInt8} (hs : s.length = 4) (x y : Nat) (d : List UInt8) : (pad (headS s x y d)).take 36 = headS s x y d := by
  unfold pad
  rw [← head_len s hs x y d, List.take_left]
theorem pad_drop {s t u : List UInt8} {n : Nat} (hs : s.length = n) (h : (s ++ t ++ u).length ≤ 512) (ht : t.length = 8) : ((pad (s ++ t ++ u)).drop n).take 8 = t := by
  unfold pad
  rw [List.append_assoc, List.append_assoc, List.drop_append_of_le_length (by omega), ← hs, List.drop_length, List.nil_append, List.take_append_of_le_length (by omega), List.take_of_length_le (by omega)]
theorem head_num {s : List UInt8} (hs : s.length = 4) (x y : Nat) (d : List UInt8) (hd : d.length < 18446744073709551616) : le (((pad (headS s x y d)).drop 20).take 8) = d.length := by
  have hl := head_len s hs x y d
  rw [head_split] at hl ⊢
  have e : s ++ (num8 x ++ (num8 y ++ (num8 d.length ++ num8 (wsum (wsum 14695981039346656037 (hdk s x y d.length 3)) d).toNat))) = (s ++ num8 x ++ num8 y) ++ num8 d.length ++ num8 (wsum (wsum 14695981039346656037 (hdk s x y d.length 3)) d).toNat := by simp only [List.append_assoc]
  rw [e] at hl ⊢
  rw [pad_drop (by rw [List.length_append, List.length_append, hs, num8_len, num8_len]) (by omega) (num8_len _)]
  unfold num8
  rw [le_numk]
  omega
theorem head_gen {s : List UInt8} (hs : s.length = 4) (x y : Nat) (d : List UInt8) (hx : x < 18446744073709551616) : le (((pad (headS s x y d)).drop 4).take 8) = x := by
  have hl := head_len s hs x y d
  rw [head_split] at hl ⊢
  rw [← List.append_assoc] at hl ⊢
  rw [pad_drop hs (by omega) (num8_len _)]
  unfold num8
  rw [le_numk]
  omega
/-- A record that stands is told. -/
theorem behind_ok {f : Int → Sec} {a : Int} {s : List UInt8} (hs : s.length = 4) {x y most : Nat} {b : List UInt8} (hb : b.length ≤ most) (hm : most ≤ 1000000) (h1 : f a = pad (headS s x y b)) (h2 : ∀ k, k < secs b.length → f (a + 1 + k) = pad (chunk b k)) : behindS f a s x y most = some b := by
  have hn : hnum f a = b.length := by unfold hnum; rw [h1]; exact head_num hs x y b (by omega)
  have hd : hdata f a = b := by unfold hdata; rw [hn]; exact run_all h2
  unfold behindS
  rw [hn, hd, if_neg (by omega), h1, pad36 hs, if_pos rfl]
/-- What is no head. -/
def NH (s : Sec) (t : List UInt8) (x y : Nat) : Prop := ∀ d, s.take 36 ≠ headS t x y d
theorem NH.none {f : Int → Sec} {a : Int} {s : List UInt8} {x y most : Nat} (h : NH (f a) s x y) : behindS f a s x y most = none := by
  unfold behindS
  split
  · rfl
  · rw [if_neg (h _)]
theorem zeros_nh {x y : Nat} : NH zeros jrnl x y := by
  intro d h
  have h1 := congrArg (fun l => l[0]?) h
  rw [head_split] at h1
  have h2 : (zeros.take 36)[0]? = some 0 := by kernel_rfl
  have h3 : some (0 : UInt8) = some 74 := h2.symm.trans h1
  exact absurd h3 (by decide)
theorem pad_nil : pad [] = zeros := rfl
/-- How a journal stands. -/
structure JOK (f : Int → Sec) (en : Int) (ep : Nat) (a0 : Int) (l : List (List UInt8)) (a : Int) : Prop where
  recs : Recs f en ep a0 0 l a l.length
  next : en ≤ a ∨ NH (f a) jrnl ep l.length
theorem JOK.stop {f : Int → Sec} {en : Int} {ep : Nat} {a0 : Int} {l : List (List UInt8)} {a : Int} (h : JOK f en ep a0 l a) : Stop f en ep a l.length := h.next.imp id fun h => h.none
theorem Recs.le {f : Int → Sec} {en : Int} {ep : Nat} {a : Int} {nx : Nat} {l : List (List UInt8)} {a' : Int} {nx' : Nat} (h : Recs f en ep a nx l a' nx') : a ≤ a' ∧ nx' = nx + l.length := by
  induction h with
  | nil => exact ⟨Int.le_refl _, rfl⟩
  | cons h1 h2 h3 ih => rw [List.length_cons]; omega
theorem run_congr {f g : Int → Sec} {a : Int} : ∀ k, (∀ j : Nat, j < k → f (a + j) = g (a + j)) → run f a k = run g a k
  | 0, _ => rfl
  | k + 1, h => by rw [run, run, run_congr k fun j hj => h j (by omega), h k (by omega)]
theorem behind_congr {f g : Int → Sec} {a : Int} {s : List UInt8} {x y most : Nat} {b : List UInt8} (hf : ∀ i, (f i).length = 512) (h : behindS f a s x y most = some b) (he : ∀ i, a ≤ i → i < a + 1 + secs b.length → g i = f i) : behindS g a s x y most = some b := by
  have h0 : g a = f a := he a (Int.le_refl _) (by omega)
  have hn : hnum g a = hnum f a := by unfold hnum; rw [h0]
  have hb : b = hdata f a ∧ ¬most < hnum f a ∧ (f a).take 36 = headS s x y (hdata f a) := by
    unfold behindS at h
    split at h
    · cases h
    · split at h
      · injection h with h
        exact ⟨h.symm, by assumption, by assumption⟩
      · cases h
  obtain ⟨rfl, h1, h2⟩ := hb
  have hl := hdata_len hf a
  rw [hl] at he
  have hd : hdata g a = hdata f a := by
    unfold hdata
    rw [hn, run_congr (secs (hnum f a)) fun j hj => he (a + 1 + j) (by omega) (by omega)]
  unfold behindS
  rw [hn, hd, h0, if_neg h1, if_pos h2]
theorem Recs.congr {f g : Int → Sec} (hf : ∀ i, (f i).length = 512) {en : Int} {ep : Nat} {a : Int} {nx : Nat} {l : List (List UInt8)} {a' : Int} {nx' : Nat} (h : Recs f en ep a nx l a' nx') (he : ∀ i, a ≤ i → i < a' → g i = f i) : Recs g en ep a nx l a' nx' := by
  induction h with
  | nil => exact .nil _ _
  | cons h1 h2 h3 ih =>
    have h4 := h3.le
    exact .cons h1 (behind_congr hf h2 fun i hi hj => he i hi (by omega)) (ih fun i hi hj => he i (by omega) hj)
theorem Recs.snoc {f : Int → Sec} {en : Int} {ep : Nat} {a : Int} {nx : Nat} {l : List (List UInt8)} {a' : Int} {nx' : Nat} (h : Recs f en ep a nx l a' nx') {b : List UInt8} (h1 : a' < en) (h2 : behindS f a' jrnl ep nx' (most en a') = some b) : Recs f en ep a nx (l ++ [b]) (a' + 1 + secs b.length) (nx' + 1) := by
  induction h with
  | nil => exact .cons h1 h2 (.nil _ _)
  | cons g1 g2 g3 ih => exact .cons g1 g2 (ih h1 h2)
/-- The writes ahead of a head. -/
def pre (a en : Int) (b : List UInt8) : Wr := wr (a + 1) b (secs b.length) ++ (if a + 1 + secs b.length < en then [(a + 1 + secs b.length, pad [])] else [])
theorem pre_mem {a en : Int} {b : List UInt8} {x : Int × Sec} (h : x ∈ pre a en b) : a < x.1 := by
  rcases List.mem_append.1 h with h | h
  · obtain ⟨j, -, rfl⟩ := wr_mem h
    show a < a + 1 + j
    omega
  · split at h
    · simp at h
      rw [h]
      show a < a + 1 + secs b.length
      omega
    · cases h
/-- A head's write. -/
theorem wr_head {s : List UInt8} (hs : s.length = 4) (a : Int) (x y : Nat) (b : List UInt8) : secs (headS s x y b).length = 1 ∧ wr a (headS s x y b) 1 = [(a, pad (headS s x y b))] := by
  have hl := head_len s hs x y b
  refine ⟨by rw [hl]; rfl, ?_⟩
  show [(a + ((0 : Nat) : Int), pad (chunk (headS s x y b) 0))] = _
  unfold chunk
  rw [Nat.mul_zero, List.drop_zero, List.take_of_length_le (by omega), show a + ((0 : Nat) : Int) = a by omega]
theorem pre_data (f : Int → Sec) (a en : Int) (b : List UInt8) (k : Nat) (hk : k < secs b.length) : DS.put f (pre a en b) (a + 1 + k) = pad (chunk b k) := by
  unfold pre
  rw [put_app, put_out]
  · exact wr_in f (a + 1) b _ k hk
  · intro x hx
    split at hx
    · simp at hx
      rw [hx]
      show a + 1 + (secs b.length : Int) ≠ _
      omega
    · cases hx
theorem pre_next (f : Int → Sec) (a en : Int) (b : List UInt8) (h : a + 1 + secs b.length < en) : DS.put f (pre a en b) (a + 1 + secs b.length) = zeros := by
  unfold pre
  rw [if_pos h, put_app]
  show (if _ = _ then _ else _) = _
  rw [if_pos rfl]
  rfl
end Go.Proofs.Ytdlokmlcdlcfaaa

/- wal, without a program in sight: what a disk's steps make. -/
import Derived.Test.YtdlokmlcdlcfaaaWb9
set_option linter.unusedVariables false
set_option linter.unusedSimpArgs false
namespace Go.Proofs.Ytdlokmlcdlcfaaa
abbrev Wr := List (Int × Sec)
structure Live (f : Int → Sec) (L : Wr) (d : DS) : Prop where
  down : d.down = false
  firm : d.firm = f
  loose : d.loose = L
structure Dead (f : Int → Sec) (L : Wr) (d : DS) : Prop where
  down : d.down = true
  loose : d.loose = []
  firm : ∀ i, d.firm i = f i ∨ (i, d.firm i) ∈ L
theorem Dead.mono {f : Int → Sec} {L L' : Wr} {d : DS} (h : Dead f L d) (hs : ∀ x ∈ L, x ∈ L') : Dead f L' d := ⟨h.down, h.loose, fun i => (h.firm i).imp id fun h => hs _ h⟩
/-- A step: it goes well, or the disk crashes. -/
def Did (d : DS) (f : Int → Sec) (L : Wr) (f' : Int → Sec) (L' : Wr) (r : Int × DS) : Prop :=
  r.2.n = d.n ∧ ((r.1 = 0 ∧ Live f' L' r.2 ∧ (d.left = 0 → r.2.left = 0)) ∨ (r.1 = 6 ∧ d.left ≠ 0 ∧ Dead f L r.2))
theorem burns_did {d : DS} {f : Int → Sec} {L : Wr} (h : Live f L d) : d.burns.2.n = d.n ∧ ((d.burns.1 = false ∧ Live f L d.burns.2 ∧ (d.left = 0 → d.burns.2.left = 0)) ∨ (d.burns.1 = true ∧ d.left ≠ 0 ∧ Dead f L d.burns.2)) := by
  obtain ⟨h1, h2, h3⟩ := h
  unfold DS.burns
  by_cases e0 : d.left = 0
  · rw [if_pos e0]
    exact ⟨rfl, .inl ⟨rfl, ⟨h1, h2, h3⟩, fun h => h⟩⟩
  · rw [if_neg e0]
    by_cases e1 : 0 < d.left - 1
    · rw [if_pos e1]
      exact ⟨rfl, .inl ⟨rfl, ⟨h1, h2, h3⟩, fun h => absurd h e0⟩⟩
    · rw [if_neg e1]
      have : ({ d with left := d.left - 1 } : DS).crash d.keep = { d with firm := DS.put d.firm (DS.kept d.loose d.keep), loose := [], down := true, left := 0, keep := [] } := by
        unfold DS.crash
        rw [if_neg (by show ¬d.down = true; rw [h1]; simp)]
      rw [this]
      refine ⟨rfl, .inr ⟨rfl, e0, rfl, rfl, fun i => ?_⟩⟩
      rw [← h2, ← h3]
      exact firm_after i
theorem write_did {d : DS} {f : Int → Sec} {L : Wr} (h : Live f L d) {i : Int} (hi : 0 ≤ i ∧ i < d.n) {b : List UInt8} (hb : b.length ≤ 512) : Did d f (L ++ [(i, pad b)]) f (L ++ [(i, pad b)]) (d.write i b) := by
  have ha := at_ok h.down hi
  have hbu := burns_did h
  unfold DS.write
  rw [if_neg (by rw [ha]; simp), if_neg (by omega)]
  generalize d.burns = p at hbu
  obtain ⟨x, q⟩ := p
  cases x
  · obtain ⟨hn, hbu⟩ := hbu
    obtain ⟨-, h1, h2⟩ := hbu.resolve_right (fun h => by cases h.1)
    refine ⟨hn, .inl ⟨rfl, ⟨h1.down, h1.firm, ?_⟩, h2⟩⟩
    show q.loose ++ _ = _
    rw [h1.loose]
  · obtain ⟨hn, hbu⟩ := hbu
    obtain ⟨-, h1, h2⟩ := hbu.resolve_left (fun h => by cases h.1)
    exact ⟨hn, .inr ⟨rfl, h1, h2.mono fun x hx => List.mem_append_left _ hx⟩⟩
theorem barrier_did {d : DS} {f : Int → Sec} {L : Wr} (h : Live f L d) : Did d f L (DS.put f L) [] d.barrier := by
  have hbu := burns_did h
  unfold DS.barrier
  rw [if_neg (by rw [h.down]; simp)]
  generalize d.burns = p at hbu
  obtain ⟨x, q⟩ := p
  cases x
  · obtain ⟨hn, hbu⟩ := hbu
    obtain ⟨-, h1, h2⟩ := hbu.resolve_right (fun h => by cases h.1)
    refine ⟨hn, .inl ⟨rfl, ⟨h1.down, ?_, rfl⟩, h2⟩⟩
    show DS.put q.firm q.loose = _
    rw [h1.loose, h1.firm]
  · obtain ⟨hn, hbu⟩ := hbu
    obtain ⟨-, h1, h2⟩ := hbu.resolve_left (fun h => by cases h.1)
    exact ⟨hn, .inr ⟨rfl, h1, h2⟩⟩
/-- The writes of so many chunks. -/
def wr (a : Int) (l : List UInt8) : Nat → Wr
  | 0 => []
  | k + 1 => wr a l k ++ [(a + k, pad (chunk l k))]
theorem wr_mono (a : Int) (l : List UInt8) (k : Nat) : ∀ j, ∀ x ∈ wr a l k, x ∈ wr a l (k + j)
  | 0, x, hx => hx
  | j + 1, x, hx => List.mem_append_left _ (wr_mono a l k j x hx)
theorem wr_le {a : Int} {l : List UInt8} {k n : Nat} (h : k ≤ n) : ∀ x ∈ wr a l k, x ∈ wr a l n := by
  obtain ⟨j, rfl⟩ := Nat.exists_eq_add_of_le h
  exact wr_mono a l k j
theorem chunk_len (l : List UInt8) (k : Nat) : (chunk l k).length ≤ 512 := by unfold chunk; rw [List.length_take]; omega
theorem putK_did {d : DS} {f : Int → Sec} {L : Wr} (h : Live f L d) {a : Int} {l : List UInt8} (n : Nat) (ha : 0 ≤ a ∧ a + n ≤ d.n) : ∀ k, k ≤ n → Did d f (L ++ wr a l k) f (L ++ wr a l k) (d.putK a l k)
  | 0, _ => ⟨rfl, .inl ⟨rfl, by rw [show L ++ wr a l 0 = L from List.append_nil L]; exact h, fun h => h⟩⟩
  | k + 1, hk => by
    obtain ⟨hn, h1⟩ := putK_did h n ha k (by omega)
    rw [DS.putK]
    rcases h1 with ⟨h1, h2, h3⟩ | ⟨h1, h2, h3⟩
    · rw [if_pos h1]
      obtain ⟨hn2, h4⟩ := write_did h2 (i := a + k) (by rw [hn]; omega) (chunk_len l k)
      refine ⟨hn2.trans hn, ?_⟩
      rw [wr, ← List.append_assoc]
      rcases h4 with ⟨h4, h5, h6⟩ | ⟨h4, h5, h6⟩
      · exact .inl ⟨h4, h5, fun h => h6 (h3 h)⟩
      · exact .inr ⟨h4, fun h => h5 (h3 h), h6⟩
    · rw [if_neg (by omega)]
      exact ⟨hn, .inr ⟨h1, h2, h3.mono fun x hx => by
        rw [wr, ← List.append_assoc]
        exact List.mem_append_left _ hx⟩⟩
theorem puts_did {d : DS} {f : Int → Sec} {L : Wr} (h : Live f L d) {a : Int} {l : List UInt8} (ha : 0 ≤ a ∧ a + secs l.length ≤ d.n) : Did d f (L ++ wr a l (secs l.length)) f (L ++ wr a l (secs l.length)) (d.puts a l) := putK_did h _ ha _ (Nat.le_refl _)
theorem Did.left {d : DS} {f f' : Int → Sec} {L L' : Wr} {r : Int × DS} (h : Did d f L f' L' r) (h0 : d.left = 0) : r.1 = 0 := by
  rcases h.2 with h | h
  · exact h.1
  · exact absurd h0 h.2.1
theorem Did.then {d : DS} {f f1 f2 : Int → Sec} {L L1 L2 : Wr} {r s : Int × DS} (h : Did d f L f1 L1 r) (hs : r.1 = 0 → Did r.2 f L f2 L2 s) (h6 : r.1 ≠ 0 → s = r) : Did d f L f2 L2 s := by
  obtain ⟨hn, h⟩ := h
  rcases h with ⟨h1, h2, h3⟩ | ⟨h1, h2, h3⟩
  · obtain ⟨hn2, h4⟩ := hs h1
    refine ⟨hn2.trans hn, ?_⟩
    rcases h4 with ⟨h4, h5, h6⟩ | ⟨h4, h5, h6⟩
    · exact .inl ⟨h4, h5, fun h => h6 (h3 h)⟩
    · exact .inr ⟨h4, fun h => h5 (h3 h), h6⟩
  · rw [h6 (by omega)]
    exact ⟨hn, .inr ⟨h1, h2, h3⟩⟩
theorem firmly_did {d : DS} {f : Int → Sec} {L : Wr} (h : Live f L d) {a : Int} {l : List UInt8} (ha : 0 ≤ a ∧ a + secs l.length ≤ d.n) : Did d f (L ++ wr a l (secs l.length)) (DS.put f (L ++ wr a l (secs l.length))) [] (d.firmly a l) := by
  have h1 := puts_did h ha
  refine h1.then (fun h0 => ?_) fun h0 => ?_
  · rw [DS.firmly, if_pos h0]
    exact barrier_did ((h1.2.resolve_right fun h => by omega).2.1)
  · rw [DS.firmly, if_neg h0]
end Go.Proofs.Ytdlokmlcdlcfaaa

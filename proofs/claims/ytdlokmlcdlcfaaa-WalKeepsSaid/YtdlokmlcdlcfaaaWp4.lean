/- wal, without a program in sight: Save, Load. -/
import Derived.Test.YtdlokmlcdlcfaaaWp3
set_option linter.unusedVariables false
set_option linter.unusedSimpArgs false
namespace Go.Proofs.Ytdlokmlcdlcfaaa
def sAt (k : Nat) : Int := 4 + 5 * (k : Int)
structure Full (f : Int → Sec) (k g : Nat) (b : List UInt8) : Prop where
  head : f (sAt k) = pad (headS slot4 g 0 b)
  data : ∀ j, j < secs b.length → f (sAt k + 1 + j) = pad (chunk b j)
  fit : secs b.length ≤ 4
  gen : 1 ≤ g ∧ g ≤ 1000 ∧ g % 2 = k
def Empty (f : Int → Sec) (k : Nat) : Prop := f (sAt k) = zeros
theorem Full.congr {f h : Int → Sec} {k g : Nat} {b : List UInt8} (hF : Full f k g b) (he : ∀ i, sAt k ≤ i → i < sAt k + 5 → h i = f i) : Full h k g b :=
  ⟨(he _ (by omega) (by omega)).trans hF.head, fun j hj => (he _ (by omega) (by have := hF.fit; omega)).trans (hF.data j hj), hF.fit, hF.gen⟩
theorem step_empty {f : Int → Sec} {k : Nat} (h : Empty f k) (p : Nat × List UInt8) : loadStep f 4 5 k p = p := by
  have hg : genOf f (4 + 5 * (k : Int)) = 0 := by
    unfold genOf
    rw [show f (4 + 5 * (k : Int)) = zeros from h]
    kernel_rfl
  unfold loadStep
  rw [hg, if_pos (.inl (by decide))]
theorem step_full {f : Int → Sec} {k g : Nat} {b : List UInt8} (h : Full f k g b) (p : Nat × List UInt8) : loadStep f 4 5 k p = if g ≤ p.1 then p else (g, b) := by
  have h1 := h.gen
  have hg : genOf f (4 + 5 * (k : Int)) = g := by
    unfold genOf
    rw [show f (4 + 5 * (k : Int)) = _ from h.head]
    exact head_gen rfl g 0 b (by omega)
  have hb : behindS f (4 + 5 * (k : Int)) slot4 g 0 ((512 * (5 - 1) : Int)).toNat = some b :=
    behind_ok rfl (by have := secs_le b.length; have := h.fit; show _ ≤ 2048; omega) (by decide) h.head h.data
  unfold loadStep
  rw [hg]
  by_cases e : g ≤ p.1
  · rw [if_pos (.inr (.inr (.inr e))), if_pos e]
  · rw [if_neg (fun h => h.elim (by omega) fun h => h.elim (by omega) fun h => h.elim (fun h => h h1.2.2) e), if_neg e, hb]
/-- How two slots stand. -/
def SOK (f : Int → Sec) (n : Nat) (l : List (List UInt8)) : Prop :=
  (n = 0 ∧ Empty f 0 ∧ Empty f 1) ∨ (1 ≤ n ∧ ∃ b, l[n - 1]? = some b ∧ Full f (n % 2) n b ∧ (Empty f ((n + 1) % 2) ∨ (2 ≤ n ∧ ∃ b', Full f ((n + 1) % 2) (n - 1) b')))
theorem SOK.load {f : Int → Sec} {n : Nat} {l : List (List UInt8)} (h : SOK f n l) : (n = 0 ∧ loadK f 4 5 2 = (0, [])) ∨ (1 ≤ n ∧ ∃ b, l[n - 1]? = some b ∧ loadK f 4 5 2 = (n, b)) := by
  show (n = 0 ∧ loadStep f 4 5 1 (loadStep f 4 5 0 (0, [])) = _) ∨ (_ ∧ ∃ b, _ ∧ loadStep f 4 5 1 (loadStep f 4 5 0 (0, [])) = _)
  rcases h with ⟨h1, h2, h3⟩ | ⟨h1, b, h2, h3, h4⟩
  · refine .inl ⟨h1, ?_⟩
    rw [step_empty h2, step_empty h3]
  · refine .inr ⟨h1, b, h2, ?_⟩
    rcases (by omega : n % 2 = 0 ∧ (n + 1) % 2 = 1 ∨ n % 2 = 1 ∧ (n + 1) % 2 = 0) with ⟨e1, e2⟩ | ⟨e1, e2⟩
    · rw [e1] at h3
      rw [e2] at h4
      rw [step_full h3, if_neg (by show ¬n ≤ 0; omega)]
      rcases h4 with h4 | ⟨h5, b', h4⟩
      · rw [step_empty h4]
      · rw [step_full h4, if_pos (by show n - 1 ≤ n; omega)]
    · rw [e1] at h3
      rw [e2] at h4
      rcases h4 with h4 | ⟨h5, b', h4⟩
      · rw [step_empty h4, step_full h3, if_neg (by show ¬n ≤ 0; omega)]
      · rw [step_full h4, if_neg (by show ¬n - 1 ≤ 0; omega), step_full h3, if_neg (by show ¬n ≤ n - 1; omega)]
theorem pad_zero : pad [0] = zeros := by kernel_rfl
def Saved (d : DS) (n : Nat) (l : List (List UInt8)) (r : Int × DS) : Prop :=
  r.2.n = d.n ∧ ((r.1 = 0 ∧ ∃ f', Live f' [] r.2 ∧ (∀ i, (f' i).length = 512) ∧ SOK f' (n + 1) l) ∨ (r.1 = 6 ∧ r.2.down = true ∧ r.2.loose = [] ∧ (SOK r.2.firm n l ∨ SOK r.2.firm (n + 1) l)))
theorem sav_did {d : DS} {f : Int → Sec} (h : Live f [] d) (hf : ∀ i, (f i).length = 512) {n : Nat} {l : List (List UInt8)} (hS : SOK f n l) {b : List UInt8} (hb : l[n]? = some b) (hl : b.length ≤ 2048) (hn : d.n = 20) (hn2 : n < 900) : Saved d n l (d.sav (sAt ((n + 1) % 2)) (n + 1) b) := by
  have hs4 : secs b.length ≤ 4 := by unfold secs; omega
  obtain ⟨q, hq⟩ : ∃ q, (n + 1) % 2 = q := ⟨_, rfl⟩
  obtain ⟨p, hp⟩ : ∃ p, n % 2 = p := ⟨_, rfl⟩
  have hpq : q < 2 ∧ p < 2 ∧ p ≠ q := by omega
  obtain ⟨a, haa⟩ : ∃ a, sAt q = a := ⟨_, rfl⟩
  have hap : ∀ i, sAt p ≤ i → i < sAt p + 5 → ¬(a ≤ i ∧ i < a + 5) := fun i h1 h2 h3 => by rw [← haa] at h3; unfold sAt at *; omega
  have ha : 4 ≤ a ∧ a ≤ 9 := by rw [← haa]; unfold sAt; omega
  rw [hq, haa]
  have keep2 : ∀ g : Int → Sec, g a = zeros → (∀ i, ¬(a ≤ i ∧ i < a + 5) → g i = f i) → SOK g n l := fun g h1 h2 => by
    have h3 : Empty g q := by show g (sAt q) = _; rw [haa]; exact h1
    rcases hS with ⟨e, e0, e1⟩ | ⟨e, c, e0, e1, e2⟩
    · refine .inl ⟨e, ?_⟩
      have hg : Empty g p := (h2 _ (hap _ (by omega) (by omega))).trans (by subst e; obtain rfl : p = 0 := by omega
                                                                            exact e0)
      rcases (by omega : p = 0 ∧ q = 1 ∨ p = 1 ∧ q = 0) with ⟨rfl, rfl⟩ | ⟨rfl, rfl⟩
      · exact ⟨hg, h3⟩
      · exact ⟨h3, hg⟩
    · refine .inr ⟨e, c, e0, ?_, .inl (by rw [hq]; exact h3)⟩
      rw [hp] at e1 ⊢
      exact e1.congr fun i hi hj => h2 i (hap i hi hj)
  have new : ∀ g : Int → Sec, g a = pad (headS slot4 (n + 1) 0 b) → (∀ j : Nat, j < secs b.length → g (a + 1 + j) = pad (chunk b j)) → (∀ i, ¬(a ≤ i ∧ i < a + 5) → g i = f i) → SOK g (n + 1) l := fun g h1 h2 h3 => by
    refine .inr ⟨by omega, b, by simpa using hb, ⟨?_, ?_, hs4, by omega⟩, ?_⟩
    · rw [hq, haa]; exact h1
    · rw [hq, haa]; exact h2
    · rw [show (n + 1 + 1) % 2 = p by omega]
      rcases hS with ⟨e, e0, e1⟩ | ⟨e, c, e0, e1, e2⟩
      · refine .inl ((h3 _ (hap _ (by omega) (by omega))).trans ?_)
        subst e
        obtain rfl : p = 0 := by omega
        exact e0
      · refine .inr ⟨by omega, c, ?_⟩
        rw [hp] at e1
        exact e1.congr fun i hi hj => h3 i (hap i hi hj)
  have keep1 : ∀ g : Int → Sec, (g a = f a ∨ g a = zeros) → (∀ i, i ≠ a → g i = f i) → SOK g n l := fun g h1 h2 => by
    rcases h1 with h1 | h1
    · have : g = f := funext fun i => by
        by_cases e : i = a
        · rw [e, h1]
        · exact h2 i e
      rw [this]
      exact hS
    · exact keep2 g h1 fun i hi => h2 i fun e => hi (by omega)
  have hz : wr a [0] 1 = [(a, zeros)] := by
    show [(a + ((0 : Nat) : Int), pad (chunk [0] 0))] = _
    rw [show chunk [0] 0 = [0] from rfl, pad_zero, show a + ((0 : Nat) : Int) = a by omega]
  have s1 := firmly_did h (a := a) (l := [0]) (by rw [show secs [(0 : UInt8)].length = 1 from rfl, hn]; omega)
  rw [show secs [(0 : UInt8)].length = 1 from rfl, hz, List.nil_append] at s1
  have hF1 : ∀ i, DS.put f [(a, zeros)] i = if i = a then zeros else f i := fun i => rfl
  obtain ⟨F1, hF1e⟩ : ∃ F1, DS.put f [(a, zeros)] = F1 := ⟨_, rfl⟩
  rw [hF1e] at s1 hF1
  obtain ⟨n1, s1⟩ := s1
  unfold DS.sav DS.sav2 DS.sav1
  rcases s1 with ⟨t1, t2, t3⟩ | ⟨t1, t2, t3⟩
  · rw [if_pos t1]
    have s2 := firmly_did t2 (a := a + 1) (l := b) (by rw [n1, hn]; omega)
    rw [List.nil_append] at s2
    obtain ⟨F2, hF2⟩ : ∃ F2, DS.put F1 (wr (a + 1) b (secs b.length)) = F2 := ⟨_, rfl⟩
    have hF2a : ∀ i, i < a + 1 ∨ a + 1 + secs b.length ≤ i → F2 i = F1 i := fun i hi => by rw [← hF2]; exact wr_out F1 (a + 1) b _ i hi
    have hF2d : ∀ j : Nat, j < secs b.length → F2 (a + 1 + j) = pad (chunk b j) := fun j hj => by rw [← hF2]; exact wr_in F1 (a + 1) b _ j hj
    rw [hF2] at s2
    obtain ⟨n2, s2⟩ := s2
    rcases s2 with ⟨u1, u2, u3⟩ | ⟨u1, u2, u3⟩
    · rw [if_pos u1]
      obtain ⟨hw1, hw2⟩ := wr_head (s := slot4) rfl a (n + 1) 0 b
      have s3 := firmly_did u2 (a := a) (l := headS slot4 (n + 1) 0 b) (by rw [hw1, n2, n1, hn]; omega)
      rw [hw1, hw2, List.nil_append] at s3
      obtain ⟨n3, s3⟩ := s3
      refine ⟨n3.trans (n2.trans n1), ?_⟩
      have base : ∀ g : Int → Sec, (∀ i, i ≠ a → g i = F2 i) → (∀ j : Nat, j < secs b.length → g (a + 1 + j) = pad (chunk b j)) ∧ ∀ i, ¬(a ≤ i ∧ i < a + 5) → g i = f i := fun g hg =>
        ⟨fun j hj => by rw [hg _ (by omega)]; exact hF2d j hj, fun i hi => by rw [hg i (by omega), hF2a i (by omega), hF1, if_neg (by omega)]⟩
      rcases s3 with ⟨v1, v2, v3⟩ | ⟨v1, v2, v3⟩
      · refine .inl ⟨v1, _, v2, ?_, ?_⟩
        · refine put_len2 (fun i => ?_) fun x hx => ?_
          · rw [← hF2]
            refine put_len2 (fun i => ?_) (fun x hx => ?_) i
            · rw [hF1]; split
              · exact List.length_replicate
              · exact hf i
            · obtain ⟨j, -, rfl⟩ := wr_mem hx
              exact pad_len _ (chunk_len b j)
          · simp at hx
            rw [hx]
            exact pad_len _ (by rw [head_len _ rfl]; decide)
        · have hoff : ∀ i, i ≠ a → DS.put F2 [(a, pad (headS slot4 (n + 1) 0 b))] i = F2 i := fun i hi => by
            show (if _ = _ then _ else _) = _
            rw [if_neg hi]
          obtain ⟨b1, b2⟩ := base _ hoff
          exact new _ (by show (if _ = _ then _ else _) = _; rw [if_pos rfl]) b1 b2
      · refine .inr ⟨v1, v3.down, v3.loose, ?_⟩
        have hoff : ∀ i, i ≠ a → (((d.firmly a [0]).2.firmly (a + 1) b).2.firmly a (headS slot4 (n + 1) 0 b)).2.firm i = F2 i := fun i hi => (v3.firm i).resolve_right fun h => by
          simp at h
          exact hi h.1
        obtain ⟨b1, b2⟩ := base _ hoff
        rcases v3.firm a with e | e
        · refine .inl (keep2 _ ?_ b2)
          rw [e, hF2a a (by omega), hF1, if_pos rfl]
        · simp at e
          exact .inr (new _ e b1 b2)
    · rw [if_neg (by omega)]
      refine ⟨n2.trans n1, .inr ⟨u1, u3.down, u3.loose, .inl (keep2 _ ?_ fun i hi => ?_)⟩⟩
      · rw [(u3.firm a).resolve_right fun h => by obtain ⟨j, -, e⟩ := wr_mem h; have := congrArg Prod.fst e; have e2 : a = a + 1 + (j : Int) := this; omega, hF1, if_pos rfl]
      · rw [(u3.firm i).resolve_right fun h => by obtain ⟨j, h1, e⟩ := wr_mem h; have := congrArg Prod.fst e; have e2 : i = a + 1 + (j : Int) := this; omega, hF1, if_neg (by omega)]
  · have t1n : ¬(d.firmly a [0]).1 = 0 := by omega
    rw [if_neg t1n, if_neg t1n]
    refine ⟨n1, .inr ⟨t1, t3.down, t3.loose, .inl (keep1 _ ((t3.firm a).imp id fun h => ?_) fun i hi => ?_)⟩⟩
    · simp at h
      exact h
    · refine (t3.firm i).resolve_right fun h => ?_
      simp at h
      exact hi h.1
end Go.Proofs.Ytdlokmlcdlcfaaa

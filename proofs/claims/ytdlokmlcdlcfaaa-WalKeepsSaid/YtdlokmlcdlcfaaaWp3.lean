/- wal, without a program in sight: Append. -/
import Derived.Test.YtdlokmlcdlcfaaaWp2
set_option linter.unusedVariables false
set_option linter.unusedSimpArgs false
namespace Go.Proofs.Ytdlokmlcdlcfaaa
theorem Did.mono {d : DS} {f f' : Int → Sec} {L L1 L' : Wr} {r : Int × DS} (h : Did d f L f' L' r) (hs : ∀ x ∈ L, x ∈ L1) : Did d f L1 f' L' r :=
  ⟨h.1, h.2.imp id fun ⟨h1, h2, h3⟩ => ⟨h1, h2, h3.mono hs⟩⟩
theorem app2_did {d : DS} {f : Int → Sec} (h : Live f [] d) {a en : Int} {b : List UInt8} (ha : 0 ≤ a) (hr : 1 + (secs b.length : Int) ≤ en - a) (hen : en ≤ d.n) : Did d f (pre a en b) f (pre a en b) (d.app2 a en b) := by
  have h1 : Did d f (pre a en b) f (wr (a + 1) b (secs b.length)) (d.app1 a b) := (puts_did h (a := a + 1) (l := b) ⟨by omega, by omega⟩).mono fun x hx => List.mem_append_left _ hx
  refine h1.then (fun h0 => ?_) fun h0 => ?_
  · have h2 := (h1.2.resolve_right fun h => by omega).2.1
    unfold DS.app2 pre
    by_cases e : a + 1 + secs b.length < en
    · rw [if_pos e, if_pos ⟨h0, e⟩]
      exact write_did h2 (by rw [h1.1]; omega) (by decide)
    · rw [if_neg e, if_neg (fun h => e h.2), List.append_nil]
      exact ⟨rfl, .inl ⟨h0, h2, fun h => h⟩⟩
  · unfold DS.app2
    rw [if_neg (fun h => h0 h.1)]
theorem app3_did {d : DS} {f : Int → Sec} (h : Live f [] d) {a en : Int} {b : List UInt8} (ha : 0 ≤ a) (hr : 1 + (secs b.length : Int) ≤ en - a) (hen : en ≤ d.n) : Did d f (pre a en b) (DS.put f (pre a en b)) [] (d.app3 a en b) := by
  have h1 := app2_did h ha hr hen
  refine h1.then (fun h0 => ?_) fun h0 => ?_
  · have h2 := (h1.2.resolve_right fun h => by omega).2.1
    unfold DS.app3
    rw [if_pos h0]
    exact barrier_did h2
  · unfold DS.app3
    rw [if_neg h0]
theorem put_len2 {f : Int → Sec} (hf : ∀ i, (f i).length = 512) {L : Wr} (hL : ∀ x ∈ L, x.2.length = 512) (i : Int) : (DS.put f L i).length = 512 := by
  rcases DS.put_mem f L i with h | h
  · rw [h]; exact hf i
  · exact hL _ h
theorem pre_len {a en : Int} {b : List UInt8} : ∀ x ∈ pre a en b, x.2.length = 512 := by
  intro x hx
  rcases List.mem_append.1 hx with h | h
  · obtain ⟨j, -, rfl⟩ := wr_mem h
    exact pad_len _ (chunk_len b j)
  · split at h
    · simp at h
      rw [h]
      exact pad_len [] (by decide)
    · cases h
/-- What an Append leaves. -/
def Apped (d : DS) (en : Int) (ep : Nat) (a0 a : Int) (l : List (List UInt8)) (b : List UInt8) (r : Int × DS) : Prop :=
  r.2.n = d.n ∧ ((r.1 = 0 ∧ (d.left = 0 → r.2.left = 0) ∧ ∃ f', Live f' [] r.2 ∧ (∀ i, (f' i).length = 512) ∧ JOK f' en ep a0 (l ++ [b]) (a + 1 + secs b.length)) ∨
    (r.1 = 6 ∧ d.left ≠ 0 ∧ r.2.down = true ∧ r.2.loose = [] ∧ ∃ l' a', (l' = l ∧ a' = a ∨ l' = l ++ [b] ∧ a' = a + 1 + secs b.length) ∧ JOK r.2.firm en ep a0 l' a'))
theorem app_did {d : DS} {f : Int → Sec} (h : Live f [] d) (hf : ∀ i, (f i).length = 512) {a0 a en : Int} {ep : Nat} {l : List (List UInt8)} {b : List UInt8} (hj : JOK f en ep a0 l a) (h0 : 0 ≤ a0) (hb : b.length ≤ 2048) (hr : 1 + (secs b.length : Int) ≤ en - a) (hen : en ≤ d.n) : Apped d en ep a0 a l b (d.app a en ep l.length b) := by
  have hle := hj.recs.le.1
  have ha : 0 ≤ a := by omega
  have h3 := app3_did h ha hr hen
  obtain ⟨F, hF⟩ : ∃ F, DS.put f (pre a en b) = F := ⟨_, rfl⟩
  rw [hF] at h3
  have hF0 : ∀ i, i ≤ a → F i = f i := fun i hi => by rw [← hF]; exact put_out fun x hx => by have := pre_mem hx; omega
  have hFd : ∀ k : Nat, k < secs b.length → F (a + 1 + k) = pad (chunk b k) := fun k hk => by rw [← hF]; exact pre_data f a en b k hk
  have hFn : a + 1 + secs b.length < en → F (a + 1 + secs b.length) = zeros := fun hk => by rw [← hF]; exact pre_next f a en b hk
  have hFl : ∀ i, (F i).length = 512 := by rw [← hF]; exact put_len2 hf pre_len
  have hnh : NH (f a) jrnl ep l.length := hj.next.resolve_left (by omega)
  have same : ∀ g : Int → Sec, (∀ i, i ≤ a → g i = f i) → JOK g en ep a0 l a := fun g hg =>
    ⟨hj.recs.congr hf fun i _ hi => hg i (by omega), .inr (by rw [hg a (Int.le_refl _)]; exact hnh)⟩
  have more : ∀ g : Int → Sec, g a = pad (headS jrnl ep l.length b) → (∀ i, i ≠ a → g i = F i) → JOK g en ep a0 (l ++ [b]) (a + 1 + secs b.length) := fun g h1 h2 => by
    refine ⟨?_, ?_⟩
    · rw [List.length_append]
      refine (hj.recs.congr hf fun i _ hi => by rw [h2 i (by omega), hF0 i (by omega)]).snoc (by omega) (behind_ok rfl ?_ (by unfold most; omega) h1 fun k hk => by rw [h2 _ (by omega)]; exact hFd k hk)
      have := secs_le b.length
      unfold most
      omega
    · by_cases e : a + 1 + secs b.length < en
      · refine .inr ?_
        rw [h2 _ (by omega), hFn e]
        exact zeros_nh
      · exact .inl (by omega)
  unfold DS.app
  obtain ⟨hn, h3⟩ := h3
  rcases h3 with ⟨e3, h3, h4⟩ | ⟨e3, h3, h4⟩
  · rw [if_pos e3]
    obtain ⟨hw1, hw2⟩ := wr_head (s := jrnl) rfl a ep l.length b
    have h5 := firmly_did h3 (a := a) (l := headS jrnl ep l.length b) (by rw [hw1, hn]; omega)
    rw [hw1, hw2, List.nil_append] at h5
    obtain ⟨hn5, h5⟩ := h5
    refine ⟨hn5.trans hn, ?_⟩
    rcases h5 with ⟨e5, h5, h6⟩ | ⟨e5, h5, h6⟩
    · refine .inl ⟨e5, fun h => h6 (h4 h), _, h5, ?_, ?_⟩
      · refine put_len2 hFl fun x hx => ?_
        simp at hx
        rw [hx]
        exact pad_len _ (by rw [head_len _ rfl]; decide)
      · refine more _ ?_ fun i hi => ?_
        · show (if _ = _ then _ else _) = _
          rw [if_pos rfl]
        · show (if _ = _ then _ else _) = _
          rw [if_neg hi]
    · refine .inr ⟨e5, fun h => h5 (h4 h), h6.down, h6.loose, ?_⟩
      have hoff : ∀ i, i ≠ a → ((d.app3 a en b).2.firmly a (headS jrnl ep l.length b)).2.firm i = F i := fun i hi => (h6.firm i).resolve_right fun h => by
        simp at h
        exact hi h.1
      rcases h6.firm a with e | e
      · refine ⟨l, a, .inl ⟨rfl, rfl⟩, same _ fun i hi => ?_⟩
        by_cases hia : i = a
        · rw [hia, e, hF0 a (Int.le_refl _)]
        · rw [hoff i hia, hF0 i hi]
      · simp at e
        exact ⟨l ++ [b], _, .inr ⟨rfl, rfl⟩, more _ e hoff⟩
  · rw [if_neg (by omega)]
    refine ⟨hn, .inr ⟨e3, h3, h4.down, h4.loose, l, a, .inl ⟨rfl, rfl⟩, same _ fun i hi => ?_⟩⟩
    exact (h4.firm i).resolve_right fun h => by have := pre_mem h; show False; exact absurd this (by show ¬a < i; omega)
end Go.Proofs.Ytdlokmlcdlcfaaa

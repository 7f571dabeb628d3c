/- wal: a journal in memory and what stands on its disk; shown. -/
import Derived.Test.YtdlokmlcdlcfaaaWp4
set_option linter.unusedVariables false
set_option linter.unusedSimpArgs false
namespace Go.Proofs.Ytdlokmlcdlcfaaa
open Go.RowKit Go.MapKept Go.Shelf
structure JS (w0 w : World) (D J : Nat) (F : Nat → Prop) (d : DS) (en : Int) (ep : Nat) (a0 : Int) (l : List (List UInt8)) (a : Int) : Prop where
  jr : Jr w0 w D J F d a en ep l.length false
  down : d.down = false
  loose : d.loose = []
  ok : JOK d.firm en ep a0 l a
theorem JS.over {w0 w w' : World} {D J : Nat} {F : Nat → Prop} {d : DS} {en : Int} {ep : Nat} {a0 : Int} {l : List (List UInt8)} {a : Int} (h : JS w0 w D J F d en ep a0 l a) (hb : Below w.heap.size w w') : JS w0 w' D J F d en ep a0 l a := ⟨h.jr.over hb, h.down, h.loose, h.ok⟩
theorem DS.app_len (d : DS) (a en : Int) (ep nx : Nat) (b : List UInt8) : (d.app a en ep nx b).2.keep.length ≤ d.keep.length := by
  have h1 := DS.app3_len d a en b
  unfold DS.app
  split
  · have h2 := DS.firmly_len (d.app3 a en b).2 a (headS jrnl ep nx b)
    omega
  · exact h1.2
def AppL (w0 w : World) (D J : Nat) (F : Nat → Prop) (d : DS) (en : Int) (ep : Nat) (a0 : Int) (l : List (List UInt8)) (a : Int) (b : List UInt8) (e : Ending) (w' : World) : Prop :=
  (e = .returned (.int .i64 0) ∧ ∃ G d', JS w0 w' D J G d' en ep a0 (l ++ [b]) (a + 1 + secs b.length) ∧ d'.n = d.n ∧ (d.left = 0 → d'.left = 0) ∧ d'.keep.length ≤ d.keep.length ∧ Chg (fun k => F k ∨ k = J) w w' ∧ ∀ k, G k → F k ∨ w.heap.size ≤ k) ∨
  (e = .returned (.int .i64 6) ∧ d.left ≠ 0 ∧ ∃ G d' l' a', Jr w0 w' D J G d' a en ep l.length true ∧ d'.n = d.n ∧ d'.down = true ∧ d'.loose = [] ∧ (l' = l ∧ a' = a ∨ l' = l ++ [b] ∧ a' = a + 1 + secs b.length) ∧ JOK d'.firm en ep a0 l' a' ∧ Chg (fun k => F k ∨ k = J) w w' ∧ ∀ k, G k → F k ∨ w.heap.size ≤ k)
theorem js_append {w0 w : World} {D J : Nat} {F : Nat → Prop} {d : DS} {en : Int} {ep : Nat} {a0 : Int} {l : List (List UInt8)} {a : Int} (h : JS w0 w D J F d en ep a0 l a) (hk : d.keep.length ≤ 140737488355328) (h0 : 0 ≤ a0) (hen : en ≤ d.n) (hll : l.length ≤ 10000) (hep : ep ≤ 1000000)
    (v : Value) (b : List UInt8) (hv : Sl w v (cel b)) (hvF : 0 < b.length → ∀ q, v.ownBlock = some q → ¬F q ∧ q ≠ J) (hb : b.length ≤ 2048) (hr : 1 + (secs b.length : Int) ≤ en - a) :
    Calls Try.prog 25 #[.pointer (some ⟨J, 0, none⟩), v] w (AppL w0 w D J F d en ep a0 l a b) := by
  have hn := h.jr.own.disk.ok.n
  have hle := h.ok.recs.le.1
  have hd := app_did (d := d) (f := d.firm) ⟨h.down, rfl, h.loose⟩ h.jr.own.disk.ok.firm h.ok h0 hb hr hen
  have hkl := DS.app_len d a en ep l.length b
  refine (append_calls h.jr (by rw [h.loose]; decide) hk ⟨by omega, by omega⟩ (by omega) (by omega) hep v b hv hvF hb hr).mono ?_
  rintro e w' ⟨rfl, h1, h2⟩
  obtain ⟨hn', hd⟩ := hd
  rcases hd with ⟨e1, e2, f', e3, e4, e5⟩ | ⟨e1, e2, e3, e4, l', a', e5, e6⟩
  · obtain ⟨G, g1, g2, g3⟩ := h1 e1
    refine .inl ⟨by rw [e1], G, _, ⟨?_, e3.down, e3.loose, ?_⟩, hn', e2, hkl, g2, g3⟩
    · rw [List.length_append]; exact g1
    · rw [e3.firm]; exact e5
  · obtain ⟨G, g1, g2, g3⟩ := h2 (by omega)
    exact .inr ⟨by rw [e1], e2, G, _, l', a', g1, hn', e3, e4, e5, e6, g2, g3⟩
def OpnL (w0 w : World) (D : Nat) (F : Nat → Prop) (d : DS) (en : Int) (ep : Nat) (a0 : Int) (l : List (List UInt8)) (a : Int) (e : Ending) (w' : World) : Prop :=
  ∃ J A c xs, e = .returned (.tuple #[.pointer (some ⟨J, 0, none⟩), .slice A l.length c, .int .i64 0]) ∧ JS w0 w' D J F d en ep a0 l a ∧ w.heap.size ≤ J ∧ w'.ownsRow w.heap.size 30 1 (.slice A l.length c) l.length xs ∧ Rows w' (Value.slice A l.length c).ownBlock J xs l ∧ Below w.heap.size w w'
theorem js_open {w0 w : World} {D : Nat} {F : Nat → Prop} {d : DS} (h : Own w0 w D F d) (hd : d.down = false) (hl : d.loose = []) (fr sz : Int) (hfr : 0 ≤ fr) (hsz : 0 ≤ sz) (hfs : fr + sz ≤ d.n) (en : Int) (hen : fr + sz = en) (ep : Nat) (hep : ep ≤ 1000000) (l : List (List UInt8)) (hll : l.length ≤ 5000) (a : Int) (hj : JOK d.firm en ep fr l a) :
    Calls Try.prog 24 #[.pointer (some ⟨D, 0, none⟩), .int .i64 fr, .int .i64 sz, .int .i64 (ep : Int)] w (OpnL w0 w D F d en ep fr l a) := by
  subst hen
  have hlk : d.look = d.firm := by funext i; unfold DS.look; rw [hl]; rfl
  refine (open_calls h (by rw [hl]; decide) hd fr sz hfr hsz hfs ep hep l hll a l.length (by rw [hlk]; exact hj.recs) (by rw [hlk]; exact hj.stop)).mono ?_
  rintro e w' ⟨J, v, xs, rfl, h1, h2, h3, h4, h5⟩
  obtain ⟨A, c, rfl⟩ := row_form h3
  exact ⟨J, A, c, xs, rfl, ⟨h1, hd, hl, hj⟩, h2, h3, h4, h5⟩
theorem jok_new (n en : Int) (ep : Nat) (a0 : Int) : JOK (DS.new n).firm en ep a0 [] a0 := ⟨.nil _ _, .inr zeros_nh⟩
theorem made_zeros (n : Nat) : (madeCells (Value.int .u8 0).cells (n * 1)).toList = cel (List.replicate n 0) := by
  unfold madeCells cel
  rw [Array.toList_map, Array.toList_range, Nat.mul_one, List.map_replicate]
  refine List.eq_replicate_iff.2 ⟨by simp, fun v hv => ?_⟩
  obtain ⟨x, -, rfl⟩ := List.mem_map.1 hv
  show (Value.int .u8 0).cells[x % 1]! = _
  rw [Nat.mod_one]
  rfl
/-- An element of a row. -/
theorem Rows.get {w : World} {base J : Nat} {A : Option Addr} {n c : Nat} {xs : List Value} {l : List (List UInt8)} (h : Rows w (Value.slice A n c).ownBlock J xs l) (ho : w.ownsRow base 30 1 (.slice A n c) n xs) {k : Nat} {b : List UInt8} (hk : l[k]? = some b) :
    ∃ g x, A = some ⟨g, 0, none⟩ ∧ w.cell? ⟨g, k, none⟩ = some x ∧ Sl w x (cel b) := by
  obtain ⟨x, h1, h2, -⟩ := h.2 k b hk
  have hl : 0 < n := by
    have := h.1
    have h3 := (List.getElem?_eq_some_iff.1 hk).1
    have h4 := ho.1
    omega
  obtain ⟨g, cap, e, -⟩ := ho.form hl
  injection e with e1 e2 e3
  subst e1
  have := ho.cells (g := g) rfl k x h1
  rw [Addr.add_lit] at this
  exact ⟨g, x, rfl, by simpa using this, h2⟩
set_option maxRecDepth 100000 in
set_option maxHeartbeats 8000000 in
theorem wshown_calls (w : World) : Calls Try.prog 23 #[] w fun e w' => e = .returned (.bool true) ∧ Below w.heap.size w w' := by
  obtain ⟨i0, hi, hz0, hz1, hz2⟩ := info_parts inf1
  go_enter Try.func23, Try.ntmps23
  go_wp2_with (go_at_call 10; refine (own_new w w (Below.refl _ w) 8 (by omega)).mono ?_; rintro e w1 ⟨D, F0, rfl, h0, hB0, -⟩)
  refine (js_open h0 rfl rfl 1 3 (by decide) (by decide) (by decide) 4 (by decide) 7 (by decide) [] (by decide) 1 (jok_new 8 4 7 1)).mono ?_
  rintro e w2 ⟨J, A1, c1, xs1, rfl, hj2, hJ2, -, -, hB2⟩
  go_wp2_with (at_make; refine wpList_make_full _ rfl _ _ 30 rfl _ 5 i0 (.int .u8 0) 1 Try.underlying30 hi hz0 hz1 _ _ _ _ 10 rfl rfl rfl rfl (by rw [hz2]; omega) (by simp only [maxLen]; omega) (Nat.le_refl _) ?_; intro w3 hown hgr)
  have hB3 : Below w2.heap.size w2 w3 := (Below.refl _ w2).grown hgr (Nat.le_refl _) (by intro k hk; cases hk)
  have hj3 := hj2.over hB3
  rw [made_zeros] at hown
  have hz : Sl w3 (.slice (some ⟨w2.heap.size, 0, none⟩) 10 10) (cel (List.replicate 10 0)) := Sl.own hown
  obtain ⟨z10, hz10⟩ : ∃ z10 : List UInt8, List.replicate 10 0 = z10 := ⟨_, rfl⟩
  have hzl : z10.length = 10 := by rw [← hz10]; rfl
  rw [hz10] at hz
  clear hown hz10
  have hs1 : secs z10.length = 1 := by rw [hzl]; rfl
  have a1 := js_append hj3 (by decide) (by decide) (by decide) (by decide) (by decide) _ z10 hz (fun _ q hq => by
    obtain rfl : w2.heap.size = q := by simpa [Value.ownBlock] using hq
    exact ⟨fun hF => by have := hj2.jr.own.disk.lt _ hF; omega, by have := hj2.jr.lt; omega⟩) (by omega) (by rw [hs1]; decide)
  unfold AppL at a1
  rw [hs1] at a1
  refine a1.mono ?_
  rintro e w4 (⟨rfl, G4, d4, hj4, n4, l4, k4, k5, g4⟩ | ⟨-, h6, -⟩)
  · replace hj4 : JS w w4 D J G4 d4 4 7 1 [z10] 3 := hj4
    have n4 : d4.n = 8 := n4
    have l4 : d4.left = 0 := l4 rfl
    have k4 : d4.keep.length ≤ 0 := k4
    have r4 := room_calls hj4.jr (by omega) (by omega)
    clear a1 hj3 hj2 h0 hz
    go_wp2_with fail
    refine r4.mono ?_
    rintro e w5 ⟨rfl, hw5⟩
    subst hw5
    have hj5 := hj4.over ((Below.refl _ w4).drew)
    have a2 := js_append hj5 (by omega) (by decide) (by omega) (show 1 ≤ 10000 by decide) (by decide) (.slice none 0 0) [] (Sl.nil _) (fun h => absurd h (by decide)) (by decide) (by decide)
    unfold AppL at a2
    clear r4
    go_wp2_with fail
    refine a2.mono ?_
    rintro e w6 (⟨rfl, G6, d6, hj6, n6, l6, k6, k7, g6⟩ | ⟨-, h6, -⟩)
    · replace hj6 : JS w w6 D J G6 d6 4 7 1 [z10, []] 4 := hj6
      have l6 : d6.left = 0 := l6 l4
      have a3 := append_full hj6.jr (by omega) (by omega) none 0 0 (by decide) (by decide)
      clear a2
      go_wp2_with fail
      refine a3.mono ?_
      rintro e w7 ⟨rfl, hw7⟩
      subst hw7
      have hj7 := hj6.over ((Below.refl _ w6).drew)
      clear a3
      go_wp2_with fail
      refine (js_open hj7.jr.own hj7.down hj7.loose 1 3 (by decide) (by decide) (by omega) 4 (by decide) 7 (by decide) [z10, []] (show 2 ≤ 5000 by decide) 4 hj7.ok).mono ?_
      rintro e w8 ⟨J8, A8, c8, xs8, rfl, hj8, hJ8, ho8, hr8, hB8⟩
      have hj9 := hj7.jr.over hB8
      have r9 := room_calls hj9 (by omega) (by omega)
      obtain ⟨g8, x8, rfl, hc8, hx8⟩ := hr8.get ho8 (k := 0) (b := z10) rfl
      obtain ⟨b0, o0, cc, hxx, -⟩ := hx8.some_form (by rw [cel_length]; omega)
      rw [cel_length, hzl] at hxx
      rw [hxx] at hc8
      clear hr8 ho8 hx8
      go_wp2_with (go_at_call 26; refine r9.mono ?_; rintro e w9 ⟨rfl, hw9⟩; subst hw9)
      go_ret
      exact ⟨rfl, hj8.jr.own.below.drew⟩
    · exact absurd l4 h6
  · exact absurd rfl h6
end Go.Proofs.Ytdlokmlcdlcfaaa

/- hairlinelaw21.WalSlots: the walk. -/
import Derived.Deep.QuietTactic
import Derived.BigQuiet
import Derived.Deep.CutBlock
import Derived.Test.YtdlokmlcdlcfaaaWq1
set_option linter.unusedVariables false
set_option linter.unusedSimpArgs false
namespace Go.Proofs.Ytdlokmlcdlcfaaa
open Go.RowKit Go.MapKept Go.Shelf
/-- Slices in a slice that came in. -/
def Lst (w : World) (v : Value) (l : List (List UInt8)) : Prop := ∃ xs, Sl w v xs ∧ xs.length = l.length ∧ ∀ (k : Nat) (b : List UInt8), l[k]? = some b → ∃ x, xs[k]? = some x ∧ Sl w x (cel b)
theorem Lst.form {w : World} {v : Value} {l : List (List UInt8)} (h : Lst w v l) : ∃ A c, v = .slice A l.length c := by
  obtain ⟨xs, ⟨A, c, rfl, -⟩, h1, -⟩ := h
  exact ⟨A, c, by rw [h1]⟩
theorem Lst.get {w : World} {A : Option Addr} {n c : Nat} {l : List (List UInt8)} (h : Lst w (.slice A n c) l) {k : Nat} {b : List UInt8} (hk : l[k]? = some b) : ∃ g o x, A = some ⟨g, o, none⟩ ∧ g < w.heap.size ∧ w.cell? ⟨g, o + k, none⟩ = some x ∧ Sl w x (cel b) := by
  obtain ⟨xs, ⟨A', c', e, -, -, -, hat⟩, h1, h2⟩ := h
  obtain ⟨x, h3, h4⟩ := h2 k b hk
  obtain ⟨g, o, rfl, h5, h6⟩ := hat (by have := (List.getElem?_eq_some_iff.1 h3).1; omega)
  injection e with e1
  exact ⟨g, o, x, e1, h5, h6 k x h3, h4⟩
theorem i64_and127 (n : Int) : bits .and .i64 n 127 = n % 128 := by
  have h1 : (BitVec.ofInt 64 127).toNat = 2 ^ 7 - 1 := by decide
  have key : (BitVec.ofInt 64 n &&& BitVec.ofInt 64 127).toNat = (n % ((2 ^ 64 : Nat) : Int)).toNat % 2 ^ 7 := by
    rw [BitVec.toNat_and, BitVec.toNat_ofInt, h1, Nat.and_two_pow_sub_one_eq_mod]
  show IntKind.i64.wrap ((BitVec.ofInt 64 n &&& BitVec.ofInt 64 127).toNat : Nat) = n % 128
  rw [key, IntKind.wrap_i64]
  omega
theorem sav_len (d : DS) (a : Int) (gen : Nat) (b : List UInt8) : (d.sav a gen b).2.keep.length ≤ d.keep.length := by
  have h1 := DS.firmly_len d a [0]
  have h2 := DS.firmly_len (d.sav1 a).2 (a + 1) b
  have h3 := DS.firmly_len (d.sav2 a b).2 a (headS slot4 gen 0 b)
  have h1' : (d.sav1 a).2.keep.length ≤ d.keep.length := h1.2
  have h4 : (d.sav2 a b).2.keep.length ≤ d.keep.length := by
    unfold DS.sav2
    split
    · omega
    · exact h1'
  unfold DS.sav
  split
  · omega
  · exact h4
/-- Old slices are not a call's own disk's. -/
theorem old_not {w0 w : World} {D : Nat} {F : Nat → Prop} {d : DS} (h : Own w0 w D F d) {v : Value} {us : List Value} (hs : Sl w0 v us) (h0 : 0 < us.length) : ∀ q, v.ownBlock = some q → ¬F q := fun q hq hF => by
  have h1 := h.ge q hF
  have h2 := hs.block_lt h0 q hq
  omega
set_option maxRecDepth 100000 in
set_option maxHeartbeats 8000000 in
theorem slots_calls (w : World) (v : Value) (l : List (List UInt8)) (hv : Lst w v l) (hll : l.length ≤ 140737488351232) (n : Int) (kv : Value) (ks : List Bool) (hks : Sl w kv (ks.map Value.bool)) (hkl : ks.length ≤ 140737488351232) (hel : ∀ b ∈ l, b.length ≤ 140737488351232) :
    Calls Try.prog 8 #[v, .int .i64 n, kv] w fun e w' => e = .returned (.bool true) ∧ Below w.heap.size w w' := by
  obtain ⟨A, c, rfl⟩ := hv.form
  obtain ⟨kA, kn, kc, rfl⟩ : ∃ A m c, kv = .slice A m c := by
    obtain ⟨A, c, e, -⟩ := hks
    exact ⟨_, _, _, e⟩
  go_enter Try.func8, Try.ntmps8
  go_wp2_with (first | (go_at_call 23; refine (wshown_calls _).mono ?_; rintro e w1 ⟨rfl, hB1⟩) | (go_at_call 10; refine (own_new w w1 hB1 20 (by omega)).mono ?_; rintro e w2 ⟨D, F0, rfl, h0, hB0, -⟩))
  rw [i64_and127]
  obtain ⟨q, hq⟩ : ∃ q : Int, n % 128 = q := ⟨_, rfl⟩
  have hq0 : 0 ≤ q ∧ q ≤ 127 := by omega
  rw [hq]
  clear hq
  refine (own_arm h0 q (by omega) _ ks (hks.over h0.below) (by omega)).mono ?_
  rintro e w3 ⟨rfl, F1, h1, -, -⟩
  go_upto_block 0 with (fail)
  have hkeep : ((DS.new 20).arm q ks).keep.length ≤ 140737488351232 := hkl
  have hS0 : SOK ((DS.new 20).arm q ks).firm 0 l := .inl ⟨rfl, rfl, rfl⟩
  have hn0 : ((DS.new 20).arm q ks).n = 20 := rfl
  have hl0 : ((DS.new 20).arm q ks).loose = [] := rfl
  have hd0 : ((DS.new 20).arm q ks).down = false := rfl
  obtain ⟨d1, hd1⟩ : ∃ d1, (DS.new 20).arm q ks = d1 := ⟨_, rfl⟩
  rw [hd1] at h1 hkeep hS0 hn0 hl0 hd0
  clear hd1 h0
  go_cut [9] (fun x wx => ∃ (k m : Nat) (G : Nat → Prop) (d : DS), x = .int .i64 (k : Int) ∧ k ≤ 20 ∧ (m = k ∨ m = k + 1) ∧ Own w wx D G d ∧ d.loose = [] ∧ d.n = 20 ∧ SOK d.firm m l)
  case first =>
    go_wp2_with fail
    go_loopw [9] (fun x wr => ∃ (k : Nat) (G : Nat → Prop) (d : DS), x = .int .i64 (k : Int) ∧ k ≤ 20 ∧ Own w wr D G d ∧ d.down = false ∧ d.loose = [] ∧ d.n = 20 ∧ d.keep.length ≤ 140737488351232 ∧ SOK d.firm k l) (fun x _ => 20 - (intOf x).toNat)
    case atStart => exact ⟨0, F1, d1, rfl, by omega, h1, hd0, hl0, hn0, hkeep, hS0⟩
    case round =>
      clear hd0 hl0 hn0 hkeep hS0 h1
      obtain ⟨k, G, d, rfl, hk2, hO, hdd, hdl, hdn, hdk, hS⟩ := hrel
      have hk0 : (0 : Int) ≤ (k : Int) := by omega
      have hk2i : (k : Int) ≤ 20 := by omega
      by_cases hk1 : k < l.length ∧ k < 20
      · obtain ⟨b, hb⟩ : ∃ b, l[k]? = some b := ⟨_, List.getElem?_eq_getElem hk1.1⟩
        obtain ⟨g, o, x, rfl, hg, hc, hx⟩ := hv.get hb
        obtain ⟨xA, xc, hxe, -⟩ := id hx
        rw [cel_length] at hxe
        subst hxe
        have hc' : wr.cell? ⟨g, o + k, none⟩ = some (.slice xA b.length xc) := (hO.below.cell (p := ⟨g, o + k, none⟩) hg).trans hc
        have hx' : Sl wr (.slice xA b.length xc) (cel b) := hx.over hO.below
        have hkli : (k : Int) < (l.length : Int) := by omega
        have hk2j : (k : Int) < 20 := by omega
        have hbl : b.length ≤ 140737488351232 := hel b (List.mem_of_getElem? hb)
        obtain ⟨m, hm⟩ : ∃ m, b.length = m := ⟨_, rfl⟩
        by_cases hl2 : m ≤ 2000
        · have hl2i : ¬(2000 : Int) < (m : Int) := by omega
          have hsv := sav_did (d := d) (f := d.firm) ⟨hdd, rfl, hdl⟩ hO.disk.ok.firm hS hb (by omega) hdn (by omega)
          have hsl := sav_len d (sAt ((k + 1) % 2)) (k + 1) b
          have hsc := save_calls hO (by rw [hdl]; decide) (by omega) 4 5 (by decide) (by decide) (by rw [hdn]; decide) (k + 1) (by omega) _ b hx' (fun h0 => old_not hO hx (by rw [cel_length]; exact h0)) (by omega) (by unfold secs; omega)
          rw [show (4 : Int) + 5 * (((k + 1 : Nat) : Int) % 2) = sAt ((k + 1) % 2) by unfold sAt; omega] at hsc
          obtain ⟨r, hr⟩ : ∃ r, d.sav (sAt ((k + 1) % 2)) (k + 1) b = r := ⟨_, rfl⟩
          rw [hr] at hsv hsl hsc
          rw [hm] at hc' hsc
          rw [show (((k + 1 : Nat)) : Int) = (k : Int) + 1 from rfl] at hsc
          clear hr hx hx' hc hm
          obtain ⟨rn, hsv⟩ := hsv
          rcases hsv with ⟨e1, f', e2, e3, e4⟩ | ⟨e1, e2, e3, e4⟩
          · rw [e1] at hsc
            go_wp2_with fail
            refine hsc.mono ?_
            rintro e w5 ⟨rfl, G5, g5, -, -⟩
            go_wp2_with fail
            exact ⟨⟨k + 1, G5, r.2, rfl, by omega, g5, e2.down, e2.loose, rn.trans hdn, by omega, by rw [e2.firm]; exact e4⟩, by simp only [intOf]; omega⟩
          · rw [e1] at hsc
            go_wp2_with fail
            refine hsc.mono ?_
            rintro e w5 ⟨rfl, G5, g5, -, -⟩
            go_wp2_with fail
            go_meet
            rcases e4 with e4 | e4
            · exact ⟨k, k, G5, r.2, rfl, hk2, .inl rfl, g5, e3, rn.trans hdn, e4⟩
            · exact ⟨k, k + 1, G5, r.2, rfl, hk2, .inr rfl, g5, e3, rn.trans hdn, e4⟩
        · have hl2i : (2000 : Int) < (m : Int) := by omega
          have hmi : (m : Int) ≤ 140737488351232 := by omega
          rw [hm] at hc'
          clear hm hx hx' hc
          go_wp2_with fail
          go_ret
          exact ⟨rfl, hO.below⟩
      · by_cases hk3 : k < l.length
        · have hkli : (k : Int) < (l.length : Int) := by omega
          have hk2j : ¬(k : Int) < 20 := by omega
          go_wp2_with fail
          go_meet
          exact ⟨k, k, G, d, rfl, hk2, .inl rfl, hO, hdl, hdn, hS⟩
        · have hkli : ¬(k : Int) < (l.length : Int) := by omega
          go_wp2_with fail
          go_meet
          exact ⟨k, k, G, d, rfl, hk2, .inl rfl, hO, hdl, hdn, hS⟩
  case rest =>
    clear hd0 hl0 hn0 hkeep hS0 h1
    obtain ⟨k, m, G, d, rfl, hk2, hmk, hO, hdl, hdn, hS⟩ := hcut
    go_wp2_with fail
    refine (own_arm hO 0 (by decide) _ [] (Sl.nil _) (by decide)).mono ?_
    rintro e w5 ⟨rfl, G5, g5, -, -⟩
    go_wp2_with fail
    refine (own_start g5).mono ?_
    rintro e w6 ⟨rfl, G6, g6, -, -⟩
    have hlk : ((d.arm 0 []).start).look = d.firm := by funext i; unfold DS.look; rw [show ((d.arm 0 []).start).loose = [] from hdl]; rfl
    have hld := load_calls g6 (by rw [show ((d.arm 0 []).start).loose = [] from hdl]; decide) rfl 4 5 (by decide) (by decide) (by rw [show ((d.arm 0 []).start).n = 20 from hdn]; decide) (by decide)
    rw [hlk] at hld
    rcases hS.load with ⟨hm0, hl0⟩ | ⟨hm1, b, hb, hl1⟩
    · rw [hl0] at hld
      obtain rfl : k = 0 := by omega
      go_wp2_with fail
      refine hld.mono ?_
      rintro e w7 ⟨v7, rfl, hs7, hB7⟩
      obtain ⟨vA, vc, rfl, -⟩ := id hs7
      rw [show (cel ([] : List UInt8)).length = 0 from rfl]
      have hlli : (0 : Int) ≤ (l.length : Int) := by omega
      go_wp2_with fail
      refine wp_region_held_drew (S := fun w' => w' = w7.drew) (by kernel_rfl) rfl (fun hHeld => ?_)
      refine wpAnyH_take (i := 0) (oi := ⟨_, _, _, _, _, _⟩) (v := .int .i64 0) rfl (by kernel_rfl) (by kernel_rfl) (by kernel_rfl) (fun _ _ _ h => h) (Or.inl ⟨by rfl, ?_⟩) (by assumption) ?_
      · intro w' hS
        subst hS
        go_simp
      try simp only [Act.put, List.setIfInBounds_toArray, List.set_cons_zero, List.set_cons_succ]
      refine wpAnyH_take (i := 1) (oi := ⟨_, _, _, _, _, _⟩) (v := .bool true) rfl (by kernel_rfl) (by kernel_rfl) (by kernel_rfl) (fun _ _ _ h => h) (Or.inl ⟨by rfl, ?_⟩) (by assumption) ?_
      · intro w' hS
        subst hS
        go_simp
      try simp only [Act.put, List.setIfInBounds_toArray, List.set_cons_zero, List.set_cons_succ]
      refine wpAnyH_take (i := 2) (oi := ⟨_, _, _, _, _, _⟩) (v := .bool true) rfl (by kernel_rfl) (by kernel_rfl) (by kernel_rfl) (fun _ _ _ h => h) (Or.inl ⟨by rfl, ?_⟩) (by assumption) ?_
      · intro w' hS
        subst hS
        go_simp
      try simp only [Act.put, List.setIfInBounds_toArray, List.set_cons_zero, List.set_cons_succ]
      refine wpAnyH_take (i := 3) (oi := ⟨_, _, _, _, _, _⟩) (v := .slice vA 0 vc) rfl (by kernel_rfl) (by kernel_rfl) (by kernel_rfl) (fun _ _ _ h => h) (Or.inl ⟨by rfl, ?_⟩) (by assumption) ?_
      · intro w' hS
        subst hS
        go_simp
      try simp only [Act.put, List.setIfInBounds_toArray, List.set_cons_zero, List.set_cons_succ]
      refine wpAnyH_take (i := 4) (oi := ⟨_, _, _, _, _, _⟩) (v := .int .i64 0) rfl (by kernel_rfl) (by kernel_rfl) (by kernel_rfl) (fun _ _ _ h => h) (Or.inl ⟨by rfl, ?_⟩) (by assumption) ?_
      · intro w' hS
        subst hS
        go_simp
      try simp only [Act.put, List.setIfInBounds_toArray, List.set_cons_zero, List.set_cons_succ]
      refine wpAnyH_take (i := 5) (oi := ⟨_, _, _, _, _, _⟩) (v := .bool true) rfl (by kernel_rfl) (by kernel_rfl) (by kernel_rfl) (fun _ _ _ h => h) (Or.inl ⟨by rfl, ?_⟩) (by assumption) ?_
      · intro w' hS
        subst hS
        go_simp
      try simp only [Act.put, List.setIfInBounds_toArray, List.set_cons_zero, List.set_cons_succ]
      refine wpAnyH_take (i := 6) (oi := ⟨_, _, _, _, _, _⟩) (v := .bool true) rfl (by kernel_rfl) (by kernel_rfl) (by kernel_rfl) (fun _ _ _ h => h) (Or.inl ⟨by rfl, ?_⟩) (by assumption) ?_
      · intro w' hS
        subst hS
        go_simp
      try simp only [Act.put, List.setIfInBounds_toArray, List.set_cons_zero, List.set_cons_succ]
      refine wpAnyH_take (i := 7) (oi := ⟨_, _, _, _, _, _⟩) (v := .bool true) rfl (by kernel_rfl) (by kernel_rfl) (by kernel_rfl) (fun _ _ _ h => h) (Or.inl ⟨by rfl, ?_⟩) (by assumption) ?_
      · intro w' hS
        subst hS
        go_simp
      try simp only [Act.put, List.setIfInBounds_toArray, List.set_cons_zero, List.set_cons_succ]
      refine wpAnyH_take (i := 8) (oi := ⟨_, _, _, _, _, _⟩) (v := undef) rfl (by kernel_rfl) (by kernel_rfl) (by kernel_rfl) (fun _ _ _ h => h) (Or.inr ⟨by rfl, rfl⟩) (by assumption) ?_
      try simp only [Act.put, List.setIfInBounds_toArray, List.set_cons_zero, List.set_cons_succ]
      refine wpAnyH_take (i := 9) (oi := ⟨_, _, _, _, _, _⟩) (v := undef) rfl (by kernel_rfl) (by kernel_rfl) (by kernel_rfl) (fun _ _ _ h => h) (Or.inr ⟨by rfl, rfl⟩) (by assumption) ?_
      try simp only [Act.put, List.setIfInBounds_toArray, List.set_cons_zero, List.set_cons_succ]
      refine wpAnyH_take (i := 10) (oi := ⟨_, _, _, _, _, _⟩) (v := undef) rfl (by kernel_rfl) (by kernel_rfl) (by kernel_rfl) (fun _ _ _ h => h) (Or.inr ⟨by rfl, rfl⟩) (by assumption) ?_
      try simp only [Act.put, List.setIfInBounds_toArray, List.set_cons_zero, List.set_cons_succ]
      refine wpAnyH_take (i := 11) (oi := ⟨_, _, _, _, _, _⟩) (v := undef) rfl (by kernel_rfl) (by kernel_rfl) (by kernel_rfl) (fun _ _ _ h => h) (Or.inr ⟨by rfl, rfl⟩) (by assumption) ?_
      try simp only [Act.put, List.setIfInBounds_toArray, List.set_cons_zero, List.set_cons_succ]
      refine wpAnyH_take (i := 12) (oi := ⟨_, _, _, _, _, _⟩) (v := undef) rfl (by kernel_rfl) (by kernel_rfl) (by kernel_rfl) (fun _ _ _ h => h) (Or.inr ⟨by rfl, rfl⟩) (by assumption) ?_
      try simp only [Act.put, List.setIfInBounds_toArray, List.set_cons_zero, List.set_cons_succ]
      refine wpAnyH_take (i := 13) (oi := ⟨_, _, _, _, _, _⟩) (v := undef) rfl (by kernel_rfl) (by kernel_rfl) (by kernel_rfl) (fun _ _ _ h => h) (Or.inr ⟨by rfl, rfl⟩) (by assumption) ?_
      try simp only [Act.put, List.setIfInBounds_toArray, List.set_cons_zero, List.set_cons_succ]
      refine wpAnyH_take (i := 14) (oi := ⟨_, _, _, _, _, _⟩) (v := undef) rfl (by kernel_rfl) (by kernel_rfl) (by kernel_rfl) (fun _ _ _ h => h) (Or.inr ⟨by rfl, rfl⟩) (by assumption) ?_
      try simp only [Act.put, List.setIfInBounds_toArray, List.set_cons_zero, List.set_cons_succ]
      refine wpAnyH_take (i := 15) (oi := ⟨_, _, _, _, _, _⟩) (v := undef) rfl (by kernel_rfl) (by kernel_rfl) (by kernel_rfl) (fun _ _ _ h => h) (Or.inr ⟨by rfl, rfl⟩) (by assumption) ?_
      try simp only [Act.put, List.setIfInBounds_toArray, List.set_cons_zero, List.set_cons_succ]
      refine wpAnyH_take (i := 16) (oi := ⟨_, _, _, _, _, _⟩) (v := undef) rfl (by kernel_rfl) (by kernel_rfl) (by kernel_rfl) (fun _ _ _ h => h) (Or.inr ⟨by rfl, rfl⟩) (by assumption) ?_
      try simp only [Act.put, List.setIfInBounds_toArray, List.set_cons_zero, List.set_cons_succ]
      refine wpAnyH_take (i := 17) (oi := ⟨_, _, _, _, _, _⟩) (v := undef) rfl (by kernel_rfl) (by kernel_rfl) (by kernel_rfl) (fun _ _ _ h => h) (Or.inr ⟨by rfl, rfl⟩) (by assumption) ?_
      try simp only [Act.put, List.setIfInBounds_toArray, List.set_cons_zero, List.set_cons_succ]
      refine wpAnyH_take (i := 18) (oi := ⟨_, _, _, _, _, _⟩) (v := undef) rfl (by kernel_rfl) (by kernel_rfl) (by kernel_rfl) (fun _ _ _ h => h) (Or.inr ⟨by rfl, rfl⟩) (by assumption) ?_
      try simp only [Act.put, List.setIfInBounds_toArray, List.set_cons_zero, List.set_cons_succ]
      refine wpAnyH_take (i := 19) (oi := ⟨_, _, _, _, _, _⟩) (v := undef) rfl (by kernel_rfl) (by kernel_rfl) (by kernel_rfl) (fun _ _ _ h => h) (Or.inr ⟨by rfl, rfl⟩) (by assumption) ?_
      try simp only [Act.put, List.setIfInBounds_toArray, List.set_cons_zero, List.set_cons_succ]
      refine wpAnyH_take (i := 20) (oi := ⟨_, _, _, _, _, _⟩) (v := undef) rfl (by kernel_rfl) (by kernel_rfl) (by kernel_rfl) (fun _ _ _ h => h) (Or.inr ⟨by rfl, rfl⟩) (by assumption) ?_
      try simp only [Act.put, List.setIfInBounds_toArray, List.set_cons_zero, List.set_cons_succ]
      refine wpAnyH_take (i := 21) (oi := ⟨_, _, _, _, _, _⟩) (v := .bool true) rfl (by kernel_rfl) (by kernel_rfl) (by kernel_rfl) (fun _ _ _ h => h) (Or.inl ⟨by rfl, ?_⟩) (by assumption) ?_
      · intro w' hS
        subst hS
        go_simp
      try simp only [Act.put, List.setIfInBounds_toArray, List.set_cons_zero, List.set_cons_succ]
      refine wpAnyH_take (i := 22) (oi := ⟨_, _, _, _, _, _⟩) (v := .bool true) rfl (by kernel_rfl) (by kernel_rfl) (by kernel_rfl) (fun _ _ _ h => h) (Or.inl ⟨by rfl, ?_⟩) (by assumption) ?_
      · intro w' hS
        subst hS
        go_simp
      try simp only [Act.put, List.setIfInBounds_toArray, List.set_cons_zero, List.set_cons_succ]
      refine wpAnyH_done (by kernel_rfl) ?_ _
      go_wp2_with fail
      go_ret
      exact ⟨rfl, ((g6.over hB7).below).drew⟩
    · rw [hl1] at hld
      have hml : m ≤ l.length := by have := (List.getElem?_eq_some_iff.1 hb).1; omega
      have hmli : (m : Int) ≤ (l.length : Int) := by omega
      obtain ⟨g, o, x, rfl, hg, hc, hx⟩ := hv.get hb
      have hm1i : (1 : Int) ≤ (m : Int) := by omega
      have hnz : ((m : Int) == 0) = false := by rw [beq_eq_false_iff_ne]; omega
      have hpos : (0 : Int) < (m : Int) := by omega
      have hposn : 0 < m := hm1
      have hw1 : IntKind.i64.wrap ((m : Int) - 1) = ((m - 1 : Nat) : Int) := by rw [IntWalk.i64_in _ (by omega)]; omega
      have hix : ((m - 1 : Nat) : Int) < (l.length : Int) := by omega
      have hix0 : (0 : Int) ≤ ((m - 1 : Nat) : Int) := by omega
      have hmb : (m : Int) ≤ 21 := by omega
      obtain ⟨xA, xc, hxe, -⟩ := id hx
      subst hxe
      rcases hmk with hmk | hmk
      · have hq1 : ((m : Int) != (k : Int)) = false := by rw [bne_eq_false_iff_eq]; omega
        clear hmk
        go_wp2_with fail
        refine hld.mono ?_
        rintro e w7 ⟨v7, rfl, hs7, hB7⟩
        have hO7 := g6.over hB7
        have hcu := conv_any (P := Try.prog) w7.drew 30 5 Try.underlying30 Try.underlying5 _ b hs7 _ Try.underlying9
        have hcv := conv_any (P := Try.prog) w7.drew 30 5 Try.underlying30 Try.underlying5 _ b (hx.over (w' := w7.drew) hO7.below.drew) _ Try.underlying9
        have hc7 := (hO7.below.cell (p := ⟨g, o + (m - 1), none⟩) hg).trans hc
        obtain ⟨vA, vc, rfl, -⟩ := id hs7
        obtain ⟨M, hM⟩ : ∃ M, (cel b).length = M := ⟨_, rfl⟩
        have hMi : (0 : Int) ≤ (M : Int) := by omega
        rw [hM] at hcu hcv hc7 ⊢
        have hbe : ((bstr b).toList == (bstr b).toList) = true := by simp
        clear hs7 hx hM hc hlk
        go_wp2_with fail
        refine wp_region_held_drew (S := fun w' => w' = w7.drew) (by kernel_rfl) rfl (fun hHeld => ?_)
        refine wpAnyH_take (i := 0) (oi := ⟨_, _, _, _, _, _⟩) (v := .int .i64 (m : Int)) rfl (by kernel_rfl) (by kernel_rfl) (by kernel_rfl) (fun _ _ _ h => h) (Or.inl ⟨by rfl, ?_⟩) (by assumption) ?_
        · intro w' hS
          subst hS
          go_simp
        try simp only [Act.put, List.setIfInBounds_toArray, List.set_cons_zero, List.set_cons_succ]
        refine wpAnyH_take (i := 1) (oi := ⟨_, _, _, _, _, _⟩) (v := .bool false) rfl (by kernel_rfl) (by kernel_rfl) (by kernel_rfl) (fun _ _ _ h => h) (Or.inl ⟨by rfl, ?_⟩) (by assumption) ?_
        · intro w' hS
          subst hS
          go_simp
        try simp only [Act.put, List.setIfInBounds_toArray, List.set_cons_zero, List.set_cons_succ]
        refine wpAnyH_take (i := 2) (oi := ⟨_, _, _, _, _, _⟩) (v := .bool false) rfl (by kernel_rfl) (by kernel_rfl) (by kernel_rfl) (fun _ _ _ h => h) (Or.inl ⟨by rfl, ?_⟩) (by assumption) ?_
        · intro w' hS
          subst hS
          go_simp
        try simp only [Act.put, List.setIfInBounds_toArray, List.set_cons_zero, List.set_cons_succ]
        refine wpAnyH_take (i := 3) (oi := ⟨_, _, _, _, _, _⟩) (v := undef) rfl (by kernel_rfl) (by kernel_rfl) (by kernel_rfl) (fun _ _ _ h => h) (Or.inr ⟨by rfl, rfl⟩) (by assumption) ?_
        try simp only [Act.put, List.setIfInBounds_toArray, List.set_cons_zero, List.set_cons_succ]
        refine wpAnyH_take (i := 4) (oi := ⟨_, _, _, _, _, _⟩) (v := undef) rfl (by kernel_rfl) (by kernel_rfl) (by kernel_rfl) (fun _ _ _ h => h) (Or.inr ⟨by rfl, rfl⟩) (by assumption) ?_
        try simp only [Act.put, List.setIfInBounds_toArray, List.set_cons_zero, List.set_cons_succ]
        refine wpAnyH_take (i := 5) (oi := ⟨_, _, _, _, _, _⟩) (v := undef) rfl (by kernel_rfl) (by kernel_rfl) (by kernel_rfl) (fun _ _ _ h => h) (Or.inr ⟨by rfl, rfl⟩) (by assumption) ?_
        try simp only [Act.put, List.setIfInBounds_toArray, List.set_cons_zero, List.set_cons_succ]
        refine wpAnyH_take (i := 6) (oi := ⟨_, _, _, _, _, _⟩) (v := .bool false) rfl (by kernel_rfl) (by kernel_rfl) (by kernel_rfl) (fun _ _ _ h => h) (Or.inl ⟨by rfl, ?_⟩) (by assumption) ?_
        · intro w' hS
          subst hS
          go_simp
        try simp only [Act.put, List.setIfInBounds_toArray, List.set_cons_zero, List.set_cons_succ]
        refine wpAnyH_take (i := 7) (oi := ⟨_, _, _, _, _, _⟩) (v := .bool false) rfl (by kernel_rfl) (by kernel_rfl) (by kernel_rfl) (fun _ _ _ h => h) (Or.inl ⟨by rfl, ?_⟩) (by assumption) ?_
        · intro w' hS
          subst hS
          go_simp
        try simp only [Act.put, List.setIfInBounds_toArray, List.set_cons_zero, List.set_cons_succ]
        refine wpAnyH_take (i := 8) (oi := ⟨_, _, _, _, _, _⟩) (v := .int .i64 (m : Int)) rfl (by kernel_rfl) (by kernel_rfl) (by kernel_rfl) (fun _ _ _ h => h) (Or.inl ⟨by rfl, ?_⟩) (by assumption) ?_
        · intro w' hS
          subst hS
          go_simp
        try simp only [Act.put, List.setIfInBounds_toArray, List.set_cons_zero, List.set_cons_succ]
        refine wpAnyH_take (i := 9) (oi := ⟨_, _, _, _, _, _⟩) (v := .bool true) rfl (by kernel_rfl) (by kernel_rfl) (by kernel_rfl) (fun _ _ _ h => h) (Or.inl ⟨by rfl, ?_⟩) (by assumption) ?_
        · intro w' hS
          subst hS
          go_simp
        try simp only [Act.put, List.setIfInBounds_toArray, List.set_cons_zero, List.set_cons_succ]
        refine wpAnyH_take (i := 10) (oi := ⟨_, _, _, _, _, _⟩) (v := .bool true) rfl (by kernel_rfl) (by kernel_rfl) (by kernel_rfl) (fun _ _ _ h => h) (Or.inl ⟨by rfl, ?_⟩) (by assumption) ?_
        · intro w' hS
          subst hS
          go_simp
        try simp only [Act.put, List.setIfInBounds_toArray, List.set_cons_zero, List.set_cons_succ]
        refine wpAnyH_take (i := 11) (oi := ⟨_, _, _, _, _, _⟩) (v := .slice vA M vc) rfl (by kernel_rfl) (by kernel_rfl) (by kernel_rfl) (fun _ _ _ h => h) (Or.inl ⟨by rfl, ?_⟩) (by assumption) ?_
        · intro w' hS
          subst hS
          go_simp
        try simp only [Act.put, List.setIfInBounds_toArray, List.set_cons_zero, List.set_cons_succ]
        refine wpAnyH_take (i := 12) (oi := ⟨_, _, _, _, _, _⟩) (v := .string (bstr b)) rfl (by kernel_rfl) (by kernel_rfl) (by kernel_rfl) (fun _ _ _ h => h) (Or.inl ⟨by rfl, ?_⟩) (by assumption) ?_
        · intro w' hS
          subst hS
          go_simp
        try simp only [Act.put, List.setIfInBounds_toArray, List.set_cons_zero, List.set_cons_succ]
        refine wpAnyH_take (i := 13) (oi := ⟨_, _, _, _, _, _⟩) (v := .slice (some ⟨g, o, none⟩) l.length c) rfl (by kernel_rfl) (by kernel_rfl) (by kernel_rfl) (fun _ _ _ h => h) (Or.inl ⟨by rfl, ?_⟩) (by assumption) ?_
        · intro w' hS
          subst hS
          go_simp
        try simp only [Act.put, List.setIfInBounds_toArray, List.set_cons_zero, List.set_cons_succ]
        refine wpAnyH_take (i := 14) (oi := ⟨_, _, _, _, _, _⟩) (v := .int .i64 (m : Int)) rfl (by kernel_rfl) (by kernel_rfl) (by kernel_rfl) (fun _ _ _ h => h) (Or.inl ⟨by rfl, ?_⟩) (by assumption) ?_
        · intro w' hS
          subst hS
          go_simp
        try simp only [Act.put, List.setIfInBounds_toArray, List.set_cons_zero, List.set_cons_succ]
        refine wpAnyH_take (i := 15) (oi := ⟨_, _, _, _, _, _⟩) (v := .int .i64 ((m - 1 : Nat) : Int)) rfl (by kernel_rfl) (by kernel_rfl) (by kernel_rfl) (fun _ _ _ h => h) (Or.inl ⟨by rfl, ?_⟩) (by assumption) ?_
        · intro w' hS
          subst hS
          go_simp
        try simp only [Act.put, List.setIfInBounds_toArray, List.set_cons_zero, List.set_cons_succ]
        refine wpAnyH_take (i := 16) (oi := ⟨_, _, _, _, _, _⟩) (v := .pointer (some ⟨g, o + (m - 1), none⟩)) rfl (by kernel_rfl) (by kernel_rfl) (by kernel_rfl) (fun _ _ _ h => h) (Or.inl ⟨by rfl, ?_⟩) (by assumption) ?_
        · intro w' hS
          subst hS
          go_simp
        try simp only [Act.put, List.setIfInBounds_toArray, List.set_cons_zero, List.set_cons_succ]
        refine wpAnyH_take (i := 17) (oi := ⟨_, _, _, _, _, _⟩) (v := .slice xA M xc) rfl (by kernel_rfl) (by kernel_rfl) (by kernel_rfl) (fun _ _ _ h => h) (Or.inl ⟨by rfl, ?_⟩) (by assumption) ?_
        · intro w' hS
          subst hS
          go_simp
        try simp only [Act.put, List.setIfInBounds_toArray, List.set_cons_zero, List.set_cons_succ]
        refine wpAnyH_take (i := 18) (oi := ⟨_, _, _, _, _, _⟩) (v := .string (bstr b)) rfl (by kernel_rfl) (by kernel_rfl) (by kernel_rfl) (fun _ _ _ h => h) (Or.inl ⟨by rfl, ?_⟩) (by assumption) ?_
        · intro w' hS
          subst hS
          go_simp
        try simp only [Act.put, List.setIfInBounds_toArray, List.set_cons_zero, List.set_cons_succ]
        refine wpAnyH_take (i := 19) (oi := ⟨_, _, _, _, _, _⟩) (v := .bool true) rfl (by kernel_rfl) (by kernel_rfl) (by kernel_rfl) (fun _ _ _ h => h) (Or.inl ⟨by rfl, ?_⟩) (by assumption) ?_
        · intro w' hS
          subst hS
          go_simp
        try simp only [Act.put, List.setIfInBounds_toArray, List.set_cons_zero, List.set_cons_succ]
        refine wpAnyH_take (i := 20) (oi := ⟨_, _, _, _, _, _⟩) (v := .bool true) rfl (by kernel_rfl) (by kernel_rfl) (by kernel_rfl) (fun _ _ _ h => h) (Or.inl ⟨by rfl, ?_⟩) (by assumption) ?_
        · intro w' hS
          subst hS
          go_simp
        try simp only [Act.put, List.setIfInBounds_toArray, List.set_cons_zero, List.set_cons_succ]
        refine wpAnyH_take (i := 21) (oi := ⟨_, _, _, _, _, _⟩) (v := .bool true) rfl (by kernel_rfl) (by kernel_rfl) (by kernel_rfl) (fun _ _ _ h => h) (Or.inl ⟨by rfl, ?_⟩) (by assumption) ?_
        · intro w' hS
          subst hS
          go_simp
        try simp only [Act.put, List.setIfInBounds_toArray, List.set_cons_zero, List.set_cons_succ]
        refine wpAnyH_take (i := 22) (oi := ⟨_, _, _, _, _, _⟩) (v := .bool true) rfl (by kernel_rfl) (by kernel_rfl) (by kernel_rfl) (fun _ _ _ h => h) (Or.inl ⟨by rfl, ?_⟩) (by assumption) ?_
        · intro w' hS
          subst hS
          go_simp
        try simp only [Act.put, List.setIfInBounds_toArray, List.set_cons_zero, List.set_cons_succ]
        refine wpAnyH_done (by kernel_rfl) ?_ _
        go_wp2_with fail
        go_ret
        exact ⟨rfl, hO7.below.drew⟩
      · have hq1 : ((m : Int) != (k : Int)) = true := by rw [bne_iff_ne]; omega
        have hq2 : ((m : Int) != (k : Int) + 1) = false := by rw [bne_eq_false_iff_eq]; omega
        clear hmk
        go_wp2_with fail
        refine hld.mono ?_
        rintro e w7 ⟨v7, rfl, hs7, hB7⟩
        have hO7 := g6.over hB7
        have hcu := conv_any (P := Try.prog) w7.drew 30 5 Try.underlying30 Try.underlying5 _ b hs7 _ Try.underlying9
        have hcv := conv_any (P := Try.prog) w7.drew 30 5 Try.underlying30 Try.underlying5 _ b (hx.over (w' := w7.drew) hO7.below.drew) _ Try.underlying9
        have hc7 := (hO7.below.cell (p := ⟨g, o + (m - 1), none⟩) hg).trans hc
        obtain ⟨vA, vc, rfl, -⟩ := id hs7
        obtain ⟨M, hM⟩ : ∃ M, (cel b).length = M := ⟨_, rfl⟩
        have hMi : (0 : Int) ≤ (M : Int) := by omega
        rw [hM] at hcu hcv hc7 ⊢
        have hbe : ((bstr b).toList == (bstr b).toList) = true := by simp
        clear hs7 hx hM hc hlk
        go_wp2_with fail
        refine wp_region_held_drew (S := fun w' => w' = w7.drew) (by kernel_rfl) rfl (fun hHeld => ?_)
        refine wpAnyH_take (i := 0) (oi := ⟨_, _, _, _, _, _⟩) (v := .int .i64 (m : Int)) rfl (by kernel_rfl) (by kernel_rfl) (by kernel_rfl) (fun _ _ _ h => h) (Or.inl ⟨by rfl, ?_⟩) (by assumption) ?_
        · intro w' hS
          subst hS
          go_simp
        try simp only [Act.put, List.setIfInBounds_toArray, List.set_cons_zero, List.set_cons_succ]
        refine wpAnyH_take (i := 1) (oi := ⟨_, _, _, _, _, _⟩) (v := .bool false) rfl (by kernel_rfl) (by kernel_rfl) (by kernel_rfl) (fun _ _ _ h => h) (Or.inl ⟨by rfl, ?_⟩) (by assumption) ?_
        · intro w' hS
          subst hS
          go_simp
        try simp only [Act.put, List.setIfInBounds_toArray, List.set_cons_zero, List.set_cons_succ]
        refine wpAnyH_take (i := 2) (oi := ⟨_, _, _, _, _, _⟩) (v := .bool false) rfl (by kernel_rfl) (by kernel_rfl) (by kernel_rfl) (fun _ _ _ h => h) (Or.inl ⟨by rfl, ?_⟩) (by assumption) ?_
        · intro w' hS
          subst hS
          go_simp
        try simp only [Act.put, List.setIfInBounds_toArray, List.set_cons_zero, List.set_cons_succ]
        refine wpAnyH_take (i := 3) (oi := ⟨_, _, _, _, _, _⟩) (v := undef) rfl (by kernel_rfl) (by kernel_rfl) (by kernel_rfl) (fun _ _ _ h => h) (Or.inr ⟨by rfl, rfl⟩) (by assumption) ?_
        try simp only [Act.put, List.setIfInBounds_toArray, List.set_cons_zero, List.set_cons_succ]
        refine wpAnyH_take (i := 4) (oi := ⟨_, _, _, _, _, _⟩) (v := undef) rfl (by kernel_rfl) (by kernel_rfl) (by kernel_rfl) (fun _ _ _ h => h) (Or.inr ⟨by rfl, rfl⟩) (by assumption) ?_
        try simp only [Act.put, List.setIfInBounds_toArray, List.set_cons_zero, List.set_cons_succ]
        refine wpAnyH_take (i := 5) (oi := ⟨_, _, _, _, _, _⟩) (v := undef) rfl (by kernel_rfl) (by kernel_rfl) (by kernel_rfl) (fun _ _ _ h => h) (Or.inr ⟨by rfl, rfl⟩) (by assumption) ?_
        try simp only [Act.put, List.setIfInBounds_toArray, List.set_cons_zero, List.set_cons_succ]
        refine wpAnyH_take (i := 6) (oi := ⟨_, _, _, _, _, _⟩) (v := .bool false) rfl (by kernel_rfl) (by kernel_rfl) (by kernel_rfl) (fun _ _ _ h => h) (Or.inl ⟨by rfl, ?_⟩) (by assumption) ?_
        · intro w' hS
          subst hS
          go_simp
        try simp only [Act.put, List.setIfInBounds_toArray, List.set_cons_zero, List.set_cons_succ]
        refine wpAnyH_take (i := 7) (oi := ⟨_, _, _, _, _, _⟩) (v := .bool false) rfl (by kernel_rfl) (by kernel_rfl) (by kernel_rfl) (fun _ _ _ h => h) (Or.inl ⟨by rfl, ?_⟩) (by assumption) ?_
        · intro w' hS
          subst hS
          go_simp
        try simp only [Act.put, List.setIfInBounds_toArray, List.set_cons_zero, List.set_cons_succ]
        refine wpAnyH_take (i := 8) (oi := ⟨_, _, _, _, _, _⟩) (v := .int .i64 (m : Int)) rfl (by kernel_rfl) (by kernel_rfl) (by kernel_rfl) (fun _ _ _ h => h) (Or.inl ⟨by rfl, ?_⟩) (by assumption) ?_
        · intro w' hS
          subst hS
          go_simp
        try simp only [Act.put, List.setIfInBounds_toArray, List.set_cons_zero, List.set_cons_succ]
        refine wpAnyH_take (i := 9) (oi := ⟨_, _, _, _, _, _⟩) (v := .bool true) rfl (by kernel_rfl) (by kernel_rfl) (by kernel_rfl) (fun _ _ _ h => h) (Or.inl ⟨by rfl, ?_⟩) (by assumption) ?_
        · intro w' hS
          subst hS
          go_simp
        try simp only [Act.put, List.setIfInBounds_toArray, List.set_cons_zero, List.set_cons_succ]
        refine wpAnyH_take (i := 10) (oi := ⟨_, _, _, _, _, _⟩) (v := .bool true) rfl (by kernel_rfl) (by kernel_rfl) (by kernel_rfl) (fun _ _ _ h => h) (Or.inl ⟨by rfl, ?_⟩) (by assumption) ?_
        · intro w' hS
          subst hS
          go_simp
        try simp only [Act.put, List.setIfInBounds_toArray, List.set_cons_zero, List.set_cons_succ]
        refine wpAnyH_take (i := 11) (oi := ⟨_, _, _, _, _, _⟩) (v := .slice vA M vc) rfl (by kernel_rfl) (by kernel_rfl) (by kernel_rfl) (fun _ _ _ h => h) (Or.inl ⟨by rfl, ?_⟩) (by assumption) ?_
        · intro w' hS
          subst hS
          go_simp
        try simp only [Act.put, List.setIfInBounds_toArray, List.set_cons_zero, List.set_cons_succ]
        refine wpAnyH_take (i := 12) (oi := ⟨_, _, _, _, _, _⟩) (v := .string (bstr b)) rfl (by kernel_rfl) (by kernel_rfl) (by kernel_rfl) (fun _ _ _ h => h) (Or.inl ⟨by rfl, ?_⟩) (by assumption) ?_
        · intro w' hS
          subst hS
          go_simp
        try simp only [Act.put, List.setIfInBounds_toArray, List.set_cons_zero, List.set_cons_succ]
        refine wpAnyH_take (i := 13) (oi := ⟨_, _, _, _, _, _⟩) (v := .slice (some ⟨g, o, none⟩) l.length c) rfl (by kernel_rfl) (by kernel_rfl) (by kernel_rfl) (fun _ _ _ h => h) (Or.inl ⟨by rfl, ?_⟩) (by assumption) ?_
        · intro w' hS
          subst hS
          go_simp
        try simp only [Act.put, List.setIfInBounds_toArray, List.set_cons_zero, List.set_cons_succ]
        refine wpAnyH_take (i := 14) (oi := ⟨_, _, _, _, _, _⟩) (v := .int .i64 (m : Int)) rfl (by kernel_rfl) (by kernel_rfl) (by kernel_rfl) (fun _ _ _ h => h) (Or.inl ⟨by rfl, ?_⟩) (by assumption) ?_
        · intro w' hS
          subst hS
          go_simp
        try simp only [Act.put, List.setIfInBounds_toArray, List.set_cons_zero, List.set_cons_succ]
        refine wpAnyH_take (i := 15) (oi := ⟨_, _, _, _, _, _⟩) (v := .int .i64 ((m - 1 : Nat) : Int)) rfl (by kernel_rfl) (by kernel_rfl) (by kernel_rfl) (fun _ _ _ h => h) (Or.inl ⟨by rfl, ?_⟩) (by assumption) ?_
        · intro w' hS
          subst hS
          go_simp
        try simp only [Act.put, List.setIfInBounds_toArray, List.set_cons_zero, List.set_cons_succ]
        refine wpAnyH_take (i := 16) (oi := ⟨_, _, _, _, _, _⟩) (v := .pointer (some ⟨g, o + (m - 1), none⟩)) rfl (by kernel_rfl) (by kernel_rfl) (by kernel_rfl) (fun _ _ _ h => h) (Or.inl ⟨by rfl, ?_⟩) (by assumption) ?_
        · intro w' hS
          subst hS
          go_simp
        try simp only [Act.put, List.setIfInBounds_toArray, List.set_cons_zero, List.set_cons_succ]
        refine wpAnyH_take (i := 17) (oi := ⟨_, _, _, _, _, _⟩) (v := .slice xA M xc) rfl (by kernel_rfl) (by kernel_rfl) (by kernel_rfl) (fun _ _ _ h => h) (Or.inl ⟨by rfl, ?_⟩) (by assumption) ?_
        · intro w' hS
          subst hS
          go_simp
        try simp only [Act.put, List.setIfInBounds_toArray, List.set_cons_zero, List.set_cons_succ]
        refine wpAnyH_take (i := 18) (oi := ⟨_, _, _, _, _, _⟩) (v := .string (bstr b)) rfl (by kernel_rfl) (by kernel_rfl) (by kernel_rfl) (fun _ _ _ h => h) (Or.inl ⟨by rfl, ?_⟩) (by assumption) ?_
        · intro w' hS
          subst hS
          go_simp
        try simp only [Act.put, List.setIfInBounds_toArray, List.set_cons_zero, List.set_cons_succ]
        refine wpAnyH_take (i := 19) (oi := ⟨_, _, _, _, _, _⟩) (v := .bool true) rfl (by kernel_rfl) (by kernel_rfl) (by kernel_rfl) (fun _ _ _ h => h) (Or.inl ⟨by rfl, ?_⟩) (by assumption) ?_
        · intro w' hS
          subst hS
          go_simp
        try simp only [Act.put, List.setIfInBounds_toArray, List.set_cons_zero, List.set_cons_succ]
        refine wpAnyH_take (i := 20) (oi := ⟨_, _, _, _, _, _⟩) (v := .bool true) rfl (by kernel_rfl) (by kernel_rfl) (by kernel_rfl) (fun _ _ _ h => h) (Or.inl ⟨by rfl, ?_⟩) (by assumption) ?_
        · intro w' hS
          subst hS
          go_simp
        try simp only [Act.put, List.setIfInBounds_toArray, List.set_cons_zero, List.set_cons_succ]
        refine wpAnyH_take (i := 21) (oi := ⟨_, _, _, _, _, _⟩) (v := .bool true) rfl (by kernel_rfl) (by kernel_rfl) (by kernel_rfl) (fun _ _ _ h => h) (Or.inl ⟨by rfl, ?_⟩) (by assumption) ?_
        · intro w' hS
          subst hS
          go_simp
        try simp only [Act.put, List.setIfInBounds_toArray, List.set_cons_zero, List.set_cons_succ]
        refine wpAnyH_take (i := 22) (oi := ⟨_, _, _, _, _, _⟩) (v := .bool true) rfl (by kernel_rfl) (by kernel_rfl) (by kernel_rfl) (fun _ _ _ h => h) (Or.inl ⟨by rfl, ?_⟩) (by assumption) ?_
        · intro w' hS
          subst hS
          go_simp
        try simp only [Act.put, List.setIfInBounds_toArray, List.set_cons_zero, List.set_cons_succ]
        refine wpAnyH_done (by kernel_rfl) ?_ _
        go_wp2_with fail
        go_ret
        exact ⟨rfl, hO7.below.drew⟩
end Go.Proofs.Ytdlokmlcdlcfaaa

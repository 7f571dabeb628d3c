/- A certificate is written in one way: without a program in sight. hairlinelaw22.righted. -/
import Derived.Test.YtnkihnggghfioaaGreatCf0
set_option linter.unusedVariables false
set_option linter.unusedSimpArgs false
namespace Go.Proofs.YtnkihnggghfioaaGreat
section
section
open Go.RowKit Go.Shelf
def St {α : Type} (f : List UInt8 → Option (α × List UInt8)) : Prop := ∀ l x t z, f l = some (x, t) → f (l ++ z) = some (x, t ++ z)
theorem St.get {α β : Type} {f : List UInt8 → Option (α × List UInt8)} (h : St f) {l : List UInt8} {k : α × List UInt8 → Option β} {r : β} (z : List UInt8) (e : (f l).bind k = some r) :
    ∃ x t, f l = some (x, t) ∧ k (x, t) = some r ∧ ∀ {γ : Type} (k' : α × List UInt8 → Option γ), (f (l ++ z)).bind k' = k' (x, t ++ z) := by
  cases h1 : f l with
  | none => rw [h1] at e; cases e
  | some p =>
    obtain ⟨x, t⟩ := p; rw [h1] at e; exact ⟨x, t, rfl, e, fun k' => by rw [h l x t z h1]; rfl⟩
theorem jlj (n : Nat) : St (pNum n) := by
  intro l x t z h; unfold pNum at h ⊢
  split at h
  · rename_i hl
    injection h with h
    injection h with h1 h2
    rw [if_pos (by rw [List.length_append]; omega), List.take_append_of_le_length hl, List.drop_append_of_le_length hl, h1, h2]
  · cases h
theorem jeh (n most : Nat) : St (pBelow n most) := by
  intro l x t z h; unfold pBelow at h ⊢; obtain ⟨y, u, -, hk, he⟩ := (jlj n).get z h; rw [he]
  change (if most < y then none else some (y, u)) = some (x, t) at hk
  show (if most < y then none else some (y, u ++ z)) = some (x, t ++ z)
  split at hk
  · cases hk
  · rename_i hy
    injection hk with hk
    injection hk with h1 h2
    rw [if_neg hy, h1, h2]
theorem jn1 : ∀ k, St (pMags k)
  | 0 => by
    intro l x t z h; injection h with h
    injection h with h1 h2
    rw [← h1, ← h2]
    rfl
  | k + 1 => by
    intro l x t z h; rw [pMags] at h ⊢; obtain ⟨y, u, -, hk, he⟩ := (jn1 k).get z h; rw [he]
    change (pNum 8 u).map _ = _ at hk
    show (pNum 8 (u ++ z)).map _ = _
    cases e : pNum 8 u with
    | none => rw [e] at hk; cases hk
    | some q =>
      obtain ⟨q1, q2⟩ := q; rw [e] at hk; injection hk with hk
      injection hk with h1 h2
      rw [jlj 8 u q1 q2 z e, ← h1, ← h2]
      rfl
theorem jn2 (most : Nat) : St (pInt most) := by
  intro l x t z h; unfold pInt at h ⊢; obtain ⟨s, u, -, h, he⟩ := (jeh 1 1).get z h; rw [he]; obtain ⟨n, u, -, h, he⟩ := (jeh 2 most).get z h
  change (pBelow 2 most (_ ++ z)).bind _ = _
  rw [he]; obtain ⟨m, u, -, h, he⟩ := (jn1 n).get z h
  change (pMags n (_ ++ z)).bind _ = _
  rw [he]
  change (if (n = 0 ∧ s = 1) ∨ (0 < n ∧ m.getLast? = some 0) then none else some ((decide (s = 1), m), u)) = _ at h
  show (if (n = 0 ∧ s = 1) ∨ (0 < n ∧ m.getLast? = some 0) then none else some ((decide (s = 1), m), u ++ z)) = _
  split at h
  · cases h
  · rename_i hc
    injection h with h
    injection h with h1 h2
    rw [if_neg hc, h1, h2]
theorem st_dyad : St pDyad := by
  intro l x t z h; unfold pDyad at h ⊢; obtain ⟨m, u, -, h, he⟩ := (jn2 65535).get z h; rw [he]; obtain ⟨e, u, -, h, he⟩ := (jlj 4).get z h
  change (pNum 4 (_ ++ z)).bind _ = _
  rw [he]
  change (if dOk m.1 m.2 ((e : Int) - 65536) = true then some ((m.1, m.2, (e : Int) - 65536), u) else none) = _ at h
  show (if dOk m.1 m.2 ((e : Int) - 65536) = true then some ((m.1, m.2, (e : Int) - 65536), u ++ z) else none) = _
  split at h
  · rename_i hc
    injection h with h
    injection h with h1 h2
    rw [if_pos hc, h1, h2]
  · cases h
theorem jvc : St pHit := by
  intro l x t z h; unfold pHit at h ⊢; obtain ⟨a, u, -, h, he⟩ := (jlj 8).get z h; rw [he]; obtain ⟨a, u, -, h, he⟩ := (jeh 4 131071).get z h
  change (pBelow 4 131071 (_ ++ z)).bind _ = _
  rw [he]; obtain ⟨a, u, -, h, he⟩ := (jeh 4 2048).get z h
  change (pBelow 4 2048 (_ ++ z)).bind _ = _
  rw [he]; obtain ⟨a, u, -, h, he⟩ := (jn2 64).get z h
  change (pInt 64 (_ ++ z)).bind _ = _
  rw [he]
  change (pInt 64 u).map _ = _ at h
  show (pInt 64 (u ++ z)).map _ = _
  cases e : pInt 64 u with
  | none => rw [e] at h; cases h
  | some q =>
    obtain ⟨q1, q2⟩ := q; rw [e] at h; injection h with h
    injection h with h1 h2
    rw [jn2 64 u q1 q2 z e, ← h2]
    rfl
theorem jlk : ∀ (k : Nat) (l t z : List UInt8), pHits k l = some t → pHits k (l ++ z) = some (t ++ z)
  | 0, l, t, z, h => by
    injection h with h
    rw [← h]
    rfl
  | k + 1, l, t, z, h => by
    rw [pHits] at h ⊢
    cases e : pHits k l with
    | none => rw [e] at h; cases h
    | some p =>
      rw [e] at h; rw [jlk k l p z e]
      change (pHit p).map _ = _ at h
      show (pHit (p ++ z)).map _ = _
      cases e2 : pHit p with
      | none => rw [e2] at h; cases h
      | some q =>
        obtain ⟨q1, q2⟩ := q; rw [e2] at h; injection h with h
        rw [jvc p q1 q2 z e2, ← h]
        rfl
theorem jn3 {l : List UInt8} {r : Nat × Dy × Dy} (h : pBody l = some r) (y : UInt8) : pBody (l ++ [y]) = none := by
  unfold pBody at h ⊢; obtain ⟨n, u, -, h, he⟩ := (jeh 4 2048).get [y] h; rw [he]
  change (pHits n u).bind _ = _ at h
  show (pHits n (u ++ [y])).bind _ = _
  cases e : pHits n u with
  | none => rw [e] at h; cases h
  | some p =>
    rw [e] at h; rw [jlk n u p [y] e]
    change pTail n p = _ at h
    show pTail n (p ++ [y]) = _
    unfold pTail at h ⊢; obtain ⟨a, u, -, h, he⟩ := st_dyad.get [y] h; rw [he]; obtain ⟨b, u, -, h, he⟩ := st_dyad.get [y] h
    change (pDyad (_ ++ [y])).bind _ = _
    rw [he]
    show (if 0 < (u ++ [y]).length then none else some (n, a, b)) = none
    rw [if_pos (by simp)]
theorem jti {h : BitVec 64} {b c : UInt8} (e : bone h b = bone h c) : b = c := by
  have h1 := jli e; have h2 := congrArg (h ^^^ ·) h1; simp only [← BitVec.xor_assoc, BitVec.xor_self, BitVec.zero_xor] at h2; have h3 := congrArg BitVec.toNat h2; have hb := b.toNat_lt; have hc := c.toNat_lt; rw [BitVec.toNat_ofNat, BitVec.toNat_ofNat, Nat.mod_eq_of_lt (by omega), Nat.mod_eq_of_lt (by omega)] at h3; exact UInt8.toNat_inj.1 h3
theorem jn4 {h g : BitVec 64} {b : UInt8} (e : bone h b = bone g b) : h = g := by
  have h1 := jli e; have h2 := congrArg (· ^^^ BitVec.ofNat 64 b.toNat) h1
  simpa only [BitVec.xor_assoc, BitVec.xor_self, BitVec.xor_zero] using h2
theorem jha (l : List UInt8) : ∀ h : Int, BitVec.ofInt 64 (l.foldl wone h) = l.foldl bone (BitVec.ofInt 64 h) := by
  induction l with
  | nil => intro h; rfl
  | cons b l ih => intro h; rw [List.foldl_cons, ih, jtg, List.foldl_cons]
theorem jn5 (l : List UInt8) : ∀ {h g : BitVec 64}, l.foldl bone h = l.foldl bone g → h = g := by
  induction l with
  | nil => intro h g e; exact e
  | cons b l ih => intro h g e; exact jn4 (ih e)
theorem jqy {l : List UInt8} {i : Nat} {x : UInt8} (hi : i < l.length) (h : csum (l.set i x) = csum l) : l[i]? = some x := by
  have h0 := congrArg (BitVec.ofInt 64) h; unfold csum at h0; rw [jha, jha] at h0; have e1 : l = l.take i ++ l[i] :: l.drop (i + 1) := by rw [← List.drop_eq_getElem_cons hi, List.take_append_drop]
  have e2 : l.set i x = l.take i ++ x :: l.drop (i + 1) := List.set_eq_take_append_cons_drop ▸ by rw [if_pos hi]
  rw [e2] at h0
  conv at h0 => rhs; rw [e1]
  rw [List.foldl_append, List.foldl_append, List.foldl_cons, List.foldl_cons] at h0; have h1 := jti (jn5 _ h0); rw [List.getElem?_eq_getElem hi, h1]
theorem jsd : ∀ (a b : List UInt8), a.length = b.length → le a = le b → a = b
  | [], [], _, _ => rfl
  | [], _ :: _, h, _ => by cases h
  | _ :: _, [], h, _ => by cases h
  | x :: a, y :: b, h, e => by
    have hx := x.toNat_lt; have hy := y.toNat_lt; have e' : x.toNat + 256 * le a = y.toNat + 256 * le b := e; have h1 : x.toNat = y.toNat := by omega
    have h2 : le a = le b := by omega
    rw [UInt8.toNat_inj.1 h1, jsd a b (by simpa using h) h2]
theorem jdh {l : List UInt8} {r : Nat × Dy × Dy} (h : certP l = some r) : 68 ≤ l.length ∧ nums (l.take 8) = hcL ∧ (le (l.drop (l.length - 8)) : Int) = csum (l.take (l.length - 8)) ∧ jobOk ((l.drop 8).take 48) ∧ pBody ((l.take (l.length - 8)).drop 56) = some r := by
  unfold certP at h
  split at h
  · rename_i hc
    exact ⟨hc.1, hc.2.1, hc.2.2.1, hc.2.2.2, h⟩
  · cases h
theorem jn6 {l : List UInt8} {r : Nat × Dy × Dy} (h : certP l = some r) {i : Nat} {x : UInt8} (hi : i < l.length) (hx : l[i]? ≠ some x) : certP (l.set i x) = none := by
  obtain ⟨h68, -, hs, -, -⟩ := jdh h
  cases e : certP (l.set i x) with
  | none => rfl
  | some r2 =>
    obtain ⟨-, -, hs2, -, -⟩ := jdh e; rw [List.length_set] at hs2
    by_cases hi8 : i < l.length - 8
    · exfalso
      rw [List.drop_set_of_lt hi8, hs, List.take_set] at hs2; have := jqy (l := l.take (l.length - 8)) (by rw [List.length_take]; omega) hs2.symm; rw [List.getElem?_take, if_pos hi8] at this; exact hx this
    · exfalso
      rw [List.take_set_of_le (by omega), ← hs] at hs2; have h2 := jsd _ _ (by simp) (by omega : le ((l.set i x).drop (l.length - 8)) = le (l.drop (l.length - 8))); have h3 := congrArg (fun z => z[i - (l.length - 8)]?) h2; simp only [List.getElem?_drop] at h3; rw [show l.length - 8 + (i - (l.length - 8)) = i by omega, List.getElem?_set_self hi] at h3; exact hx h3.symm
def rgt (l : List UInt8) : List UInt8 := if l.length < 8 then l else l.take (l.length - 8) ++ numk (csum (l.take (l.length - 8))).toNat 8
theorem jm7 {l : List UInt8} {r : Nat × Dy × Dy} (h : certP l = some r) (y : UInt8) : certP (rgt (l ++ [y])) = none := by
  obtain ⟨h68, h8, hs, hj, hb⟩ := jdh h; obtain ⟨m, hm⟩ : ∃ m, l.length = m + 8 := ⟨l.length - 8, by omega⟩; obtain ⟨a, ha⟩ : ∃ a, l.take (m + 1) = a := ⟨_, rfl⟩
  have e1 : rgt (l ++ [y]) = a ++ numk (csum a).toNat 8 := by
    unfold rgt; rw [if_neg (by rw [List.length_append]; omega), List.length_append, List.length_singleton, hm, show m + 8 + 1 - 8 = m + 1 by omega, List.take_append_of_le_length (by omega), ha]
  have hal : a.length = m + 1 := by rw [← ha, List.length_take]; omega
  cases e : certP (rgt (l ++ [y])) with
  | none => rfl
  | some r2 =>
    exfalso
    obtain ⟨-, -, -, -, hb2⟩ := jdh e; rw [e1, List.length_append, ja9, Nat.add_sub_cancel, List.take_left' rfl] at hb2; obtain ⟨z, hz⟩ : ∃ z, l[m]? = some z := ⟨_, List.getElem?_eq_getElem (by omega)⟩; have e2 : a = l.take m ++ [z] := by rw [← ha, List.take_add_one, hz]; rfl
    rw [hm, Nat.add_sub_cancel] at hb; rw [e2, List.drop_append_of_le_length (by rw [List.length_take]; omega), jn3 hb z] at hb2
    cases hb2
end
end
section
section
open Go.RowKit Go.Shelf
attribute [local go_sem] Oper.semAt_some
theorem jkb (l : List UInt8) : 0 ≤ csum l ∧ csum l < 18446744073709551616 := jnt l _ (by decide)
theorem jn7 {l : List UInt8} {k : Nat} {x : UInt8} (hx : l[k]? = some x) : csum (l.take (k + 1)) = wone (csum (l.take k)) x := by
  unfold csum; rw [List.take_add_one, hx]; simp
set_option maxRecDepth 100000 in
set_option maxHeartbeats 4000000 in
theorem jei (w : World) (v : Value) (l : List UInt8) (hv : Sl w v (cel l)) (hl : l.length ≤ 100000) :
    Calls Tryz.prog 5 #[v] w fun e w' => ∃ v', e = .returned v' ∧ Sl w' v' (cel (rgt l)) ∧ Below w.heap.size w w' ∧ (8 ≤ l.length → ∀ b, v'.ownBlock = some b → w.heap.size ≤ b) := by
  obtain ⟨i0, hi, hz0, hz1, hz2⟩ := info_parts inf1; have hv0 := hv; obtain ⟨A, c, rfl, hv1, hv2, hv3, hv4⟩ := hv; rw [jad] at hv0 hv1 hv3 hv4 ⊢; obtain ⟨L, hL⟩ : ∃ L, l.length = L := ⟨_, rfl⟩; rw [hL] at hv0 hv1 hv3 hv4 hl ⊢
  by_cases h8 : L < 8
  · have h8i : (L : Int) < 8 := by omega
    have hR : rgt l = l := by unfold rgt; rw [if_pos (by omega)]
    go_enter Tryz.func5, Tryz.ntmps5
    go_wp2_with fail
    go_ret
    exact ⟨_, rfl, by rw [hR]; exact hv0, Below.refl _ _, fun h => absurd h (by omega)⟩
  · obtain ⟨m, hm⟩ : ∃ m, L = m + 8 := ⟨L - 8, by omega⟩
    have h8i : ¬(L : Int) < 8 := by omega
    have hlm : (L : Int) - 8 = (m : Int) := by omega
    have hLc : (L : Int) ≤ (c : Int) := by omega
    have hmc : (m : Int) ≤ (c : Int) := by omega
    have hm0 : (0 : Int) ≤ (m : Int) := by omega
    have hLb : (L : Int) ≤ 100000 := by omega
    have hmb : (m : Int) ≤ 100000 := by omega
    have htl : (l.take m).length = m := by rw [List.length_take]; omega
    have hsl0 : Sl w (.slice A m c) (cel (l.take m)) := by
      have := hv0.first m (by rw [jad]; omega)
      rwa [show (cel l).take m = cel (l.take m) by unfold cel; rw [List.map_take]] at this
    have hR : rgt l = l.take m ++ numk (csum (l.take m)).toNat 8 := by
      unfold rgt; rw [if_neg (by omega), hL, hm, Nat.add_sub_cancel]
    have hnn := jkb (l.take m); obtain ⟨y, hy⟩ : ∃ y, (csum (l.take m)).toNat = y := ⟨_, rfl⟩; have hyi : csum (l.take m) = (y : Int) := by omega
    have hyb : (y : Int) < 18446744073709551616 := by omega
    have hy0 : (0 : Int) ≤ (y : Int) := by omega
    rw [hy] at hR; obtain ⟨q, hq⟩ : ∃ q, l.take m = q := ⟨_, rfl⟩; rw [hq] at hR hyi hsl0 htl; have HM := hideK hm; clear hm hv4 hv3 hnn hy
    go_enter Tryz.func5, Tryz.ntmps5
    go_wp2_with (at_builtin; refine jcq rfl _ _ 22 rfl w.heap.size 5 i0 (.int .u8 0) 1 Tryz.underlying22 hi hz0 hz1 hz2 rfl _ 0 [] rfl (World.ownsRow_made w #[] 0 (Nat.le_refl _) (Nat.zero_le _) rfl) _ (cel q) rfl (hsl0.over (jac w _)) (jd7 _) ?c5 ?c6 ?c7 ?_)
    case c5 => simp only [maxLen, jad]; omega
    case c6 => rw [jad]; omega
    intro v1 w1 hown hgrow hnil; have hlt := hown.lt
    have hB1 : Below w.heap.size w w1 := (jac w _).grown hgrow (by rw [World.size_alloc]; omega) (fun b hb => (by
      obtain rfl : w.heap.size = b := by simpa [Value.ownBlock] using hb
      exact Nat.le_refl _))
    have hsq : Sl w1 v1 (cel q) := Sl.own hown; rw [jad, htl] at hown; obtain ⟨A1, c1, rfl⟩ := jbn hown; have hql : (cel q).length = m := by rw [jad, htl]
    obtain ⟨A2, c2, he, hw1, hw2, hw3, hw4⟩ := hsq; rw [hql] at he hw1 hw3 hw4
    cases he
    clear hgrow hnil hw3 hsl0 hv0 hv1 hv2
    go_wp2_with fail
    go_loopw [4, 5] (fun a b wr => ∃ k : Nat, k ≤ m ∧ a = .int .u64 (csum (q.take k)) ∧ b = .int .i64 (k : Int) ∧ wr = w1) (fun _ b _ => m - (intOf b).toNat)
    case atStart => exact ⟨0, Nat.zero_le _, rfl, rfl, rfl⟩
    case round =>
      obtain ⟨k, hk, rfl, rfl, rfl⟩ := hrel; have hk0 : (0 : Int) ≤ (k : Int) := by omega
      by_cases hkl : k < m
      · have hki : (k : Int) < (m : Int) := by omega
        have hkb : (k : Int) ≤ 100000 := by omega
        obtain ⟨b, o, rfl, hb, hr⟩ := hw4 (by omega); obtain ⟨x, hx⟩ : ∃ x, q[k]? = some x := ⟨_, List.getElem?_eq_getElem (by omega)⟩; have hc : wr.cell? ⟨b, o + k, none⟩ = some (.int .u8 (x.toNat : Int)) := hr k _ (by unfold cel; rw [List.getElem?_map, hx]; rfl); have hstep := jn7 hx; obtain ⟨h, hh⟩ : ∃ h, csum (q.take k) = h := ⟨_, rfl⟩; rw [hh] at hstep ⊢; unfold wone at hstep; clear hh hx hr hR hyi htl hlm
        go_wp2_with fail
        refine ⟨⟨k + 1, by omega, ?_, rfl, trivial⟩, by simp only [intOf]; omega⟩; rw [hstep]
      · obtain rfl : k = m := by omega
        have hki : ¬(k : Int) < (k : Int) := by omega
        rw [List.take_of_length_le (Nat.le_of_eq htl), hyi]; have HY := hideK hyi; clear hyi hw4 hw1 hw2
        go_wp2_with fail
        go_loopw [3, 6] (fun a i wr2 => ∃ j : Nat, j ≤ 8 ∧ wr2.ownsRow w.heap.size 5 1 a (q ++ numk y j).length (cel (q ++ numk y j)) ∧ i = .int .i64 (j : Int) ∧ Below w.heap.size w wr2) (fun _ i _ => 8 - (intOf i).toNat)
        case atStart => exact ⟨0, Nat.zero_le _, by simpa [numk, htl] using hown, rfl, hB1⟩
        case round =>
          obtain ⟨j, hj, hrow, rfl, hB⟩ := hrel; have hj0 : (0 : Int) ≤ (j : Int) := by omega
          have hjb : (j : Int) ≤ 8 := by omega
          obtain ⟨A, c, rfl⟩ := jbn hrow
          by_cases hjl : j < 8
          · have hji : (j : Int) < 8 := by omega
            have hlt := hrow.lt; have hnl := ja9 y j; obtain ⟨N, hN⟩ : ∃ N, (q ++ numk y j).length = N := ⟨_, rfl⟩; have hN2 : N ≤ 1000008 := by rw [← hN, List.length_append, hnl]; omega
            rw [hN] at hrow hlt ⊢; obtain ⟨z, hz⟩ : ∃ z, UInt8.ofNat (y / 2 ^ (8 * j)) = z := ⟨_, rfl⟩; have hzv : (z.toNat : Int) = (y : Int) / 2 ^ (8 * j) % 256 := by rw [← hz, UInt8.toNat_ofNat']; simp
            have hsl := jj8 wr z _ hzv (0, 0); have hrow2 := jaf (w' := wr.alloc (.cells #[.int .u8 ((y : Int) / 2 ^ (8 * j) % 256)] 5)) hrow fun b hb => Below.heap_alloc _ _ _ (hlt b hb).2
            have hnx : numk y (j + 1) = numk y j ++ [z] := by rw [numk, hz]
            clear hzv hz hnl hki
            go_wp2_with (at_builtin; refine jcq rfl _ _ 22 rfl w.heap.size 5 i0 (.int .u8 0) 1 Tryz.underlying22 hi hz0 hz1 hz2 rfl _ N (cel (q ++ numk y j)) rfl hrow2 _ (cel [z]) rfl hsl (jd7 _) ?q1 ?q2 ?q3 ?_)
            case q1 => rw [jad]; simp only [maxLen, List.length_singleton]; omega
            case q2 => rw [jad]; simp only [List.length_singleton]; omega
            case q3 => have := hB.size; simp; omega
            intro v' w3 hown1 hgrow hnil; have hB3 : Below w.heap.size w w3 := (hB.alloc (by have := hB.size; omega) _).grown hgrow (by have := hB.size; simp; omega) (fun b hb => (hlt b hb).1)
            go_wp2_with fail
            refine ⟨⟨j + 1, by omega, ?_, rfl, hB3⟩, by simp only [intOf]; omega⟩; rw [hnx, ← List.append_assoc]; have e1 : ((q ++ numk y j) ++ [z]).length = N + (cel [z]).length := by rw [List.length_append, hN, jad]
            have e2 : cel ((q ++ numk y j) ++ [z]) = cel (q ++ numk y j) ++ cel [z] := by unfold cel; rw [List.map_append]
            rw [e1, e2]; exact hown1
          · obtain rfl : j = 8 := by omega
            clear hown hki
            go_wp2_with fail
            go_ret
            exact ⟨_, rfl, by rw [hR]; exact Sl.own hrow, hB, fun _ b hb => (hrow.lt b hb).1⟩
end
end
end Go.Proofs.YtnkihnggghfioaaGreat
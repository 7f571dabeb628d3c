/- append, conversion, slices.Clone: of whatever came in. -/
import Derived.Test.YtdlokmlcdlcfaaaDk1
import Derived.Laws.AppendOwn
import Derived.Laws.AppendOwnNone
import Derived.OwnWalk
import Derived.WalkKit
import Derived.Lib.Slices
import Derived.Lib.SliceRun
set_option linter.unusedVariables false
set_option linter.unusedSimpArgs false
namespace Go.Proofs.Ytdlokmlcdlcfaaa
open Go.RowKit
theorem grownBy_refl (w : World) (row : Option Nat) : w.grownBy w row := ⟨rfl, rfl, rfl, Nat.le_refl _, fun _ _ _ => rfl⟩
theorem add_block (a : Addr) (j : Nat) : (a.add j).block = a.block := by unfold Addr.add; split <;> rfl
/-- append of whatever came in to what is the call's own. -/
theorem append_any {P : Program} {w : World} {ops : Array Oper} {rest : List Oper} {o : Oper} {a : Act} {Q : Exit → Act → World → Prop} (hgd : o.guard = none) (s x : Operand) (t : TypeId)
    (ho : o.op = .call { callee := .builtin .append, args := #[s, x], argTypes := #[t, t] })
    (base : Nat) (e : TypeId) (i : TypeInfo) (z : Value) (bytes : Nat) (ht : P.underlying t = some (.slice e)) (hi : P.info? e = some i) (hz : i.zero = some z)
    (hsize : i.size = 1) (hby : i.bytes = bytes) (hzs : z.cells.size = 1)
    (v : Value) (n : Nat) (xs : List Value) (hs : a.eval s = v) (hown : w.ownsRow base e 1 v n xs)
    (x' : Value) (news : List Value) (hx : a.eval x = x') (hsl : Sl w x' news) (h1 : ∀ u ∈ news, u.oneCell' = true)
    (h63 : n + news.length ≤ maxLen) (hbytes : (n + news.length) * bytes ≤ 140737488355328) (hbase : base ≤ w.heap.size)
    (h : ∀ v' w', w'.ownsRow base e 1 v' (n + news.length) (xs ++ news) → w.grownBy w' v.ownBlock → (v' = .slice none 0 0 ↔ v = .slice none 0 0 ∧ news.length = 0) → wpList P ops Q rest (a.put o.dst v') w') : wpList P ops Q (o :: rest) a w := by
  obtain ⟨A, c, rfl, hc1, hc2, hno, hat⟩ := hsl
  cases A with
  | some ad =>
    refine wpList_append_own w hgd s x t ho base e i z 1 bytes ht hi hz hsize hby hzs (by decide) v n xs hs hown ad news.length c news hx (Nat.mul_one _).symm (fun j u hu => ?_) h1 h63 hbytes hbase h
    obtain ⟨b, o, e, -, hr⟩ := hat (Nat.lt_of_le_of_lt (Nat.zero_le _) (List.getElem?_eq_some_iff.1 hu).1)
    cases e
    rw [Addr.add_lit]
    exact hr j u hu
  | none =>
    obtain ⟨h0, rfl⟩ := hno rfl
    have hn : news = [] := List.eq_nil_of_length_eq_zero h0
    subst hn
    exact wpList_append_own_none hgd s x t ho base e i 1 ht hi v n xs hs hown hx (h v w (by simpa using hown) (grownBy_refl _ _) (by simp))
def bstr (l : List UInt8) : ByteArray := ⟨l.toArray⟩
theorem cel_ints (l : List UInt8) : cel l = (l.map fun b => (b.toNat : Int)).map (Value.int .u8) := by
  unfold cel
  rw [List.map_map]
  rfl
theorem strOfNums_cel (l : List UInt8) : strOfNums (l.map fun b => (b.toNat : Int)) = bstr l := by
  unfold strOfNums bstr
  rw [List.map_map]
  congr 1
  congr 1
  conv => rhs; rw [← List.map_id l]
  refine List.map_congr_left fun b _ => ?_
  simp
theorem conv_any {P : Program} (w : World) (src e : TypeId) (hs : P.underlying src = some (.slice e)) (he : P.underlying e = some (.int .u8)) (v : Value) (l : List UInt8) (h : Sl w v (cel l)) :
    ∀ dst, P.underlying dst = some .string → (convert src dst v).run P w = .ok (.string (bstr l)) w := by
  intro dst hd
  obtain ⟨A, c, rfl, hc1, hc2, hno, hat⟩ := h
  rw [← strOfNums_cel]
  by_cases h0 : 0 < (cel l).length
  · obtain ⟨b, o, rfl, -, hr⟩ := hat h0
    have hl : (loadCells ⟨b, o, none⟩ (cel l).length).run P w = .ok ((l.map fun b => (b.toNat : Int)).map (Value.int .u8)).toArray w := by
      rw [← cel_ints]
      exact run_loadCells_list (P := P) w ⟨b, o, none⟩ (cel l) (fun j v hv => by rw [Addr.add_lit]; exact hr j v hv)
    rw [run_convert_bytes_string w src dst e _ _ c hs he hd, run_bytesToString w _ _ c _ hl, foldl_push_bytes]
    simp [strOfNums, ByteArray.empty, ByteArray.emptyWithCapacity]
    rfl
  · have hz : (cel l).length = 0 := by omega
    have hl0 : l = [] := List.eq_nil_of_length_eq_zero (by rwa [cel_length] at hz)
    subst hl0
    cases A with
    | none => exact run_convert_bytes_nil w src e hs he 0 c dst hd
    | some ad =>
      have hl : (loadCells ad 0).run P w = .ok (([] : List Int).map (Value.int .u8)).toArray w := rfl
      show (convert src dst (.slice (some ad) 0 c)).run P w = _
      rw [run_convert_bytes_string w src dst e _ 0 c hs he hd, run_bytesToString w ad 0 c [] hl]
      rfl
/-- What is the call's own can be read. -/
theorem Sl.own {w : World} {base : Nat} {e : TypeId} {v : Value} {n : Nat} {us : List Value} (h : w.ownsRow base e 1 v n us) : Sl w v us := by
  have hl : us.length = n := by have := h.1; omega
  rcases h.2 with ⟨rfl, rfl⟩ | ⟨g, cap, cur, rfl, hb, hg, hnc, hcm, hcs, ht⟩
  · have hn : us = [] := List.eq_nil_of_length_eq_zero hl
    subst hn
    exact Sl.nil w
  · refine ⟨some ⟨g, 0, none⟩, cap, by rw [hl], by omega, hcm, fun h => (by cases h), fun h0 => ⟨g, 0, rfl, (Array.getElem?_eq_some_iff.1 hg).1, fun j u hu => ?_⟩⟩
    have := h.cells (g := g) rfl j u hu
    rwa [Addr.add_lit] at this
theorem own_frozen {w : World} {base : Nat} {e : TypeId} {v : Value} {n : Nat} {us : List Value} (h : w.ownsRow base e 1 v n us) : ∀ b, v.ownBlock = some b → ∀ o, w.frozen? ⟨b, o, none⟩ = false := by
  intro b hb o
  rcases h.2 with ⟨rfl, rfl⟩ | ⟨g, cap, cur, rfl, -, hg, -⟩
  · cases hb
  · obtain rfl : g = b := by simpa [Value.ownBlock] using hb
    exact frozen_row hg o
theorem inf1 : (Try.prog.info? 5).map (fun i => (i.zero, i.size, i.bytes)) = some (some (.int .u8 0), 1, 1) := by kernel_rfl
theorem infb : (Try.prog.info? 4).map (fun i => (i.zero, i.size, i.bytes)) = some (some (.bool false), 1, 1) := by kernel_rfl
/-- What a clone is. -/
def Cloned (w : World) (us : List Value) (e : Ending) (w' : World) : Prop := ∃ v, e = .returned v ∧ Sl w' v us ∧ (∃ A n c, v = .slice A n c) ∧ (∀ b, v.ownBlock = some b → w.heap.size ≤ b ∧ b < w'.heap.size ∧ ∀ o, w'.frozen? ⟨b, o, none⟩ = false) ∧ Below w.heap.size w w'
set_option maxHeartbeats 2000000 in
set_option maxRecDepth 100000 in
theorem clone_bytes (w : World) (v : Value) (l : List UInt8) (h : Sl w v (cel l)) (hl : l.length ≤ 140737488355328) :
    Calls Try.prog 39 #[v] w (Cloned w (cel l)) := by
  obtain ⟨i0, hi, hz0, hz1, hz2⟩ := info_parts inf1
  have q22 : ∀ (w : World) (a : Option Addr) (n c n' c' : Nat), (binOp .eql 30 (.slice a n c) (.slice none n' c')).run Try.prog w = .ok (.bool a.isNone) w := fun w a n c n' c' => Lib.run_eql_slice_nil w _ _ a n c n' c' Try.underlying30
  have hcl := cel_length l
  obtain ⟨A, c, hv, h1, h2, h3, h4⟩ := id h
  subst hv
  cases A with
  | none =>
    have h0 := (h3 rfl).1
    have hl0 : l = [] := List.eq_nil_of_length_eq_zero (by omega)
    subst hl0
    go_enter Try.func39, Try.ntmps39
    go_wp2
    go_ret
    exact ⟨_, rfl, Sl.nil _, ⟨_, _, _, rfl⟩, fun b hb => (by cases hb), Below.refl _ _⟩
  | some ad =>
    have hw1 : Sl (w.alloc (.cells #[] 5)) (.slice (some ad) (cel l).length c) (cel l) := h.of (by simp) fun h0 b hb => by
      obtain ⟨b', o, e, hb', -⟩ := h4 h0
      cases e
      obtain rfl : b' = b := by simpa [Value.ownBlock] using hb
      exact Below.heap_alloc _ _ _ hb'
    obtain ⟨N, hN⟩ : ∃ N, (cel l).length = N := ⟨_, rfl⟩
    rw [hN] at hw1 ⊢
    go_enter Try.func39, Try.ntmps39
    go_wp2_with (at_builtin; refine append_any rfl _ _ 30 rfl w.heap.size 5 i0 (.int .u8 0) 1 Try.underlying30 hi hz0 hz1 hz2 rfl _ 0 [] rfl (World.ownsRow_made w #[] 0 (Nat.le_refl _) (Nat.zero_le _) rfl) _ (cel l) rfl hw1 (cel_one l) ?q1 ?q2 ?q3 ?_)
    case q1 => simp only [maxLen]; omega
    case q2 => omega
    case q3 => simp
    intro v' w1 hown hgrow hnil
    have hB : Below w.heap.size w w1 := ((Below.refl _ w).alloc (Nat.le_refl _) _).grown hgrow (by simp) (by intro k hk; simp [Value.ownBlock] at hk; omega)
    have hlt := hown.lt
    go_wp2
    go_ret
    refine ⟨v', rfl, Sl.own hown, ?_, fun b hb => ⟨(hlt b hb).1, (hlt b hb).2, own_frozen hown b hb⟩, hB⟩
    rcases hown.2 with ⟨rfl, -⟩ | ⟨g, cap, cur, rfl, -⟩ <;> exact ⟨_, _, _, rfl⟩
set_option maxHeartbeats 2000000 in
set_option maxRecDepth 100000 in
theorem clone_bools (w : World) (v : Value) (l : List Bool) (h : Sl w v (l.map Value.bool)) (hl : l.length ≤ 140737488355328) :
    Calls Try.prog 30 #[v] w (Cloned w (l.map Value.bool)) := by
  obtain ⟨i0, hi, hz0, hz1, hz2⟩ := info_parts infb
  have q22 : ∀ (w : World) (a : Option Addr) (n c n' c' : Nat), (binOp .eql 22 (.slice a n c) (.slice none n' c')).run Try.prog w = .ok (.bool a.isNone) w := fun w a n c n' c' => Lib.run_eql_slice_nil w _ _ a n c n' c' Try.underlying22
  obtain ⟨us, hus⟩ : ∃ us, us = l.map Value.bool := ⟨_, rfl⟩
  have hone : ∀ u ∈ us, u.oneCell' = true := by
    intro u hu
    rw [hus] at hu
    obtain ⟨x, -, rfl⟩ := List.mem_map.1 hu
    rfl
  have hcl : us.length = l.length := by rw [hus, List.length_map]
  rw [← hus] at h ⊢
  clear hus
  obtain ⟨A, c, hv, h1, h2, h3, h4⟩ := id h
  subst hv
  cases A with
  | none =>
    have h0 := (h3 rfl).1
    have hl0 : us = [] := List.eq_nil_of_length_eq_zero (by omega)
    subst hl0
    go_enter Try.func30, Try.ntmps30
    go_wp2
    go_ret
    exact ⟨_, rfl, Sl.nil _, ⟨_, _, _, rfl⟩, fun b hb => (by cases hb), Below.refl _ _⟩
  | some ad =>
    have hw1 : Sl (w.alloc (.cells #[] 4)) (.slice (some ad) us.length c) us := h.of (by simp) fun h0 b hb => by
      obtain ⟨b', o, e, hb', -⟩ := h4 h0
      cases e
      obtain rfl : b' = b := by simpa [Value.ownBlock] using hb
      exact Below.heap_alloc _ _ _ hb'
    obtain ⟨N, hN⟩ : ∃ N, us.length = N := ⟨_, rfl⟩
    rw [hN] at hw1 ⊢
    go_enter Try.func30, Try.ntmps30
    go_wp2_with (at_builtin; refine append_any rfl _ _ 22 rfl w.heap.size 4 i0 (.bool false) 1 Try.underlying22 hi hz0 hz1 hz2 rfl _ 0 [] rfl (World.ownsRow_made w #[] 0 (Nat.le_refl _) (Nat.zero_le _) rfl) _ us rfl hw1 hone ?q1 ?q2 ?q3 ?_)
    case q1 => simp only [maxLen]; omega
    case q2 => omega
    case q3 => simp
    intro v' w1 hown hgrow hnil
    have hB : Below w.heap.size w w1 := ((Below.refl _ w).alloc (Nat.le_refl _) _).grown hgrow (by simp) (by intro k hk; simp [Value.ownBlock] at hk; omega)
    have hlt := hown.lt
    go_wp2
    go_ret
    refine ⟨v', rfl, Sl.own hown, ?_, fun b hb => ⟨(hlt b hb).1, (hlt b hb).2, own_frozen hown b hb⟩, hB⟩
    rcases hown.2 with ⟨rfl, -⟩ | ⟨g, cap, cur, rfl, -⟩ <;> exact ⟨_, _, _, rfl⟩
end Go.Proofs.Ytdlokmlcdlcfaaa

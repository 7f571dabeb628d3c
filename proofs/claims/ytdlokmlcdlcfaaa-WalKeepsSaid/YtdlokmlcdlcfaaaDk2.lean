/- The disk: New, at, Size, Loose, Down, Start. -/
import Derived.Test.YtdlokmlcdlcfaaaDk1
import Derived.WalkKit
set_option linter.unusedVariables false
set_option linter.unusedSimpArgs false
namespace Go.Proofs.Ytdlokmlcdlcfaaa
open Go.RowKit Go.MapKept
theorem at_calls {w : World} {D M : Nat} {lv kv : Value} {m : Int → Option Value} {d : DS} (h : DiskM w D M lv kv m d) (i : Int) :
    Calls Try.prog 32 #[.pointer (some ⟨D, 0, none⟩), .int .i64 i] w fun e w' => e = .returned (.int .i64 (d.at_ i)) ∧ w' = w := by
  obtain ⟨c0, c1, c2, c3, c4, c5⟩ := h.cell
  unfold DS.at_
  clear h
  obtain ⟨n, firm, loose, down, left, keep⟩ := d
  dsimp only at *
  cases down
  · by_cases h0 : i < 0
    · go_enter Try.func32, Try.ntmps32
      go_wp2
      go_ret
      exact ⟨rfl, rfl⟩
    · by_cases h1 : n ≤ i
      · go_enter Try.func32, Try.ntmps32
        go_wp2
        go_ret
        exact ⟨rfl, rfl⟩
      · go_enter Try.func32, Try.ntmps32
        go_wp2
        go_ret
        exact ⟨rfl, rfl⟩
  · go_enter Try.func32, Try.ntmps32
    go_wp2
    go_ret
    exact ⟨rfl, rfl⟩
theorem size_calls {w : World} {D : Nat} {F : Nat → Prop} {d : DS} (h : DiskAt w D F d) :
    Calls Try.prog 21 #[.pointer (some ⟨D, 0, none⟩)] w fun e w' => e = .returned (.int .i64 d.n) ∧ w' = w := by
  obtain ⟨M, lv, kv, m, hM, -⟩ := h
  obtain ⟨c0, c1, c2, c3, c4, c5⟩ := hM.cell
  clear hM
  go_enter Try.func21, Try.ntmps21
  go_wp2
  go_ret
  exact ⟨rfl, rfl⟩
theorem down_calls {w : World} {D : Nat} {F : Nat → Prop} {d : DS} (h : DiskAt w D F d) :
    Calls Try.prog 20 #[.pointer (some ⟨D, 0, none⟩)] w fun e w' => e = .returned (.bool d.down) ∧ w' = w := by
  obtain ⟨M, lv, kv, m, hM, -⟩ := h
  obtain ⟨c0, c1, c2, c3, c4, c5⟩ := hM.cell
  clear hM
  go_enter Try.func20, Try.ntmps20
  go_wp2
  go_ret
  exact ⟨rfl, rfl⟩
theorem row_form {w : World} {base : Nat} {e : TypeId} {size n : Nat} {v : Value} {xs : List Value} (h : w.ownsRow base e size v n xs) : ∃ A c, v = .slice A n c := by
  rcases h.2 with ⟨rfl, rfl⟩ | ⟨g, cap, cur, rfl, -⟩
  · exact ⟨_, _, rfl⟩
  · exact ⟨_, _, rfl⟩
theorem loose_calls {w : World} {D : Nat} {F : Nat → Prop} {d : DS} (h : DiskAt w D F d) :
    Calls Try.prog 19 #[.pointer (some ⟨D, 0, none⟩)] w fun e w' => e = .returned (.int .i64 (d.loose.length : Int)) ∧ w' = w := by
  obtain ⟨M, lv, kv, m, hM, -⟩ := h
  obtain ⟨c0, c1, c2, c3, c4, c5⟩ := hM.cell
  obtain ⟨A, c, rfl⟩ := row_form hM.row
  clear hM
  go_enter Try.func19, Try.ntmps19
  go_wp2
  go_ret
  exact ⟨rfl, rfl⟩
/-- One cell of the disk's own block is set. -/
theorem box_set {w : World} {b o : Nat} {cs : Array Value} {t : TypeId} {fr : Nat × Nat} {v : Value} (h : w.heap[b]? = some (.cells cs t fr)) : (w.setCell ⟨b, o, none⟩ v).heap[b]? = some (.cells (cs.setIfInBounds o v) t fr) := by
  simp [World.setCell, Array.getElem?_modify, h]
theorem chg_set {w : World} {b o : Nat} {v : Value} {F : Nat → Prop} (hb : F b) : Chg F w (w.setCell ⟨b, o, none⟩ v) :=
  ⟨rfl, rfl, rfl, by simp [World.setCell], fun k hk hf => Below.heap_setCell _ _ _ _ (fun e : k = b => hf (e ▸ hb))⟩
theorem size_set {w : World} {a : Addr} {v : Value} : (w.setCell a v).heap.size = w.heap.size := by simp [World.setCell]
theorem start_calls {w : World} {D : Nat} {F : Nat → Prop} {d : DS} (h : DiskAt w D F d) :
    Calls Try.prog 14 #[.pointer (some ⟨D, 0, none⟩)] w fun e w' => e = .returned (.tuple #[]) ∧ Leaves F w w' D d.start := by
  obtain ⟨M, lv, kv, m, hM, ho, fD, fM, fl, fk, hlt⟩ := h
  obtain ⟨c0, c1, c2, c3, c4, c5⟩ := hM.cell
  have z3 := frozen_row hM.box 3
  have hP : Leaves F w (w.setCell ⟨D, 3, none⟩ (.bool false)) D d.start := by
    have hb := box_set (o := 3) (v := .bool false) hM.box
    have oth : ∀ k, k ≠ D → (w.setCell ⟨D, 3, none⟩ (.bool false)).heap[k]? = w.heap[k]? := fun k hk => Below.heap_setCell _ _ _ _ hk
    refine ⟨⟨M, lv, kv, m, ⟨hb, hM.map.of (oth M hM.neM), hM.firm, ownsRow_of hM.row fun b hb => oth b (hM.neL b hb), hM.keep.of (by rw [size_set]; exact Nat.le_refl _) fun h0 b hb => oth b (hM.neK (by intro e; rw [e] at h0; exact absurd h0 (Nat.lt_irrefl 0)) b hb).1, hM.neM, hM.neL, hM.neK⟩,
      ⟨ho.n, ho.left, ho.loose, ho.firm⟩, .of fD, .of fM, fun b hb => .of (fl b hb), fun h0 b hb => .of (fk h0 b hb), ?_⟩, chg_set fD⟩
    rintro k (hk | ⟨-, hk⟩)
    · rw [size_set]; exact hlt k hk
    · exact hk
  clear hM
  go_enter Try.func14, Try.ntmps14
  go_wp2
  go_end0
  exact ⟨rfl, hP⟩
theorem zero_sec (w : World) : (zeroValue 71).run Try.prog w = .ok (secV zeros) w := by kernel_rfl
set_option maxRecDepth 100000 in
theorem new_calls (w : World) (n : Int) (h : 1 ≤ n ∧ n ≤ 4096) :
    Calls Try.prog 10 #[.int .i64 n] w fun e w' => e = .returned (.pointer (some ⟨w.heap.size + 1, 0, none⟩)) ∧ DiskAt w' (w.heap.size + 1) (Grow (fun _ => False) w w') (DS.new n) ∧ Below w.heap.size w w' := by
  have hmm := @run_makeMap Try.prog
  go_enter Try.func10, Try.ntmps10
  go_wp2
  go_ret
  have hB : Below w.heap.size w ((w.alloc (.map #[] 0)).alloc (.cells #[.int .i64 n, .map (some w.heap.size), .slice none 0 0, .bool false, .int .i64 0, .slice none 0 0] 69)) := ((Below.refl _ w).alloc (Nat.le_refl _) _).alloc (by rw [World.size_alloc]; omega) _
  have hbx := heap_alloc_new (w.alloc (.map #[] 0)) (.cells #[.int .i64 n, .map (some w.heap.size), .slice none 0 0, .bool false, .int .i64 0, .slice none 0 0] 69)
  rw [World.size_alloc] at hbx
  have hmp := (MapR.made w).of (w' := (w.alloc (.map #[] 0)).alloc (.cells #[.int .i64 n, .map (some w.heap.size), .slice none 0 0, .bool false, .int .i64 0, .slice none 0 0] 69)) (b' := w.heap.size) (Below.heap_alloc _ _ _ (by rw [World.size_alloc]; omega))
  refine ⟨rfl, ⟨w.heap.size, .slice none 0 0, .slice none 0 0, _, ⟨hbx, hmp, fun _ => rfl, World.ownsRow_nil _ _ _ _, Sl.nil _, by omega, fun b hb => (by cases hb), fun h0 => absurd rfl h0⟩,
    ⟨h, ⟨Int.le_refl _, show (0 : Int) ≤ 9223372036854775807 by decide⟩, fun x hx => (by cases hx), fun i => List.length_replicate ..⟩, .inr ⟨by omega, by rw [World.size_alloc, World.size_alloc]; omega⟩, .inr ⟨Nat.le_refl _, by rw [World.size_alloc, World.size_alloc]; omega⟩, fun b hb => (by cases hb), fun h0 => absurd rfl h0, ?_⟩, hB⟩
  rintro k (hk | ⟨-, hk⟩)
  · exact hk.elim
  · exact hk
theorem new_none (w : World) (n : Int) (h : n < 1 ∨ 4096 < n) :
    Calls Try.prog 10 #[.int .i64 n] w fun e w' => e = .returned (.pointer none) ∧ w' = w := by
  rcases h with h | h
  · go_enter Try.func10, Try.ntmps10
    go_wp2
    go_ret
    exact ⟨rfl, rfl⟩
  · by_cases h1 : n < 1
    · omega
    · go_enter Try.func10, Try.ntmps10
      go_wp2
      go_ret
      exact ⟨rfl, rfl⟩
end Go.Proofs.Ytdlokmlcdlcfaaa

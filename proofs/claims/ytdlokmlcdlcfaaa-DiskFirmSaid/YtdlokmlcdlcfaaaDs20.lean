/- hairlinelaw20: first, shown. -/
import Derived.Test.YtdlokmlcdlcfaaaDl1
import Derived.Lib.SlBytesConst
set_option linter.unusedVariables false
set_option linter.unusedSimpArgs false
namespace Go.Proofs.Ytdlokmlcdlcfaaa
open Go.RowKit Go.MapKept
set_option maxRecDepth 100000 in
set_option maxHeartbeats 2000000 in
theorem first_calls {w : World} {D : Nat} {F : Nat → Prop} {d : DS} (h : DiskAt w D F d) (hn : d.loose.length ≤ 1000000) (i : Int) (ha : d.at_ i = 0) (b : UInt8) (hb : (d.look i)[0]? = some b) (x : Int) (hx : (b.toNat : Int) = x) :
    Calls Try.prog 29 #[.pointer (some ⟨D, 0, none⟩), .int .i64 i] w fun e w' => e = .returned (.int .u8 x) ∧ Below w.heap.size w w' := by
  subst hx
  have hr := read_ok h hn i ha
  go_enter Try.func29, Try.ntmps29
  go_wp2_with fail
  refine hr.mono ?_
  rintro e w1 ⟨v, rfl, hv, ⟨A, n, c, rfl⟩, hvb, hB⟩
  obtain ⟨A', c', e, h1, h2, h3, h4⟩ := hv
  injection e with e1 e2 e3
  have hl : 0 < (cel (d.look i)).length := by
    rw [cel_length]
    exact (List.getElem?_eq_some_iff.1 hb).1
  obtain ⟨g, o, e4, hg, hr2⟩ := h4 hl
  subst e1 e3
  rw [e4]
  have hc : w1.cell? ⟨g, o, none⟩ = some (oct b) := by
    have := hr2 0 (oct b) (by unfold cel; rw [List.getElem?_map, hb]; rfl)
    simpa using this
  have hn0 : (0 : Int) < (n : Int) := by omega
  have hne : ((n : Int) == 0) = false := by simp; omega
  have hB := hB
  clear hr2
  unfold oct at hc
  go_wp2_with fail
  go_ret
  exact ⟨rfl, hB⟩
theorem fits_of {d : DS} (h : (Nat.ble d.loose.length 1000000 && Nat.ble d.keep.length 1000) = true) : Fits d := by
  simp only [Bool.and_eq_true, Nat.ble_eq] at h
  exact ⟨h.1, by omega⟩
theorem sl_bools (w : World) : Sl (w.alloc (.cells #[.bool false, .bool true] 4)) (.slice (some ⟨w.heap.size, 0, none⟩) 2 2) ([false, true].map Value.bool) := by
  refine ⟨some ⟨w.heap.size, 0, none⟩, 2, rfl, Nat.le_refl _, by simp [maxLen], fun h => (by cases h), fun _ => ⟨_, 0, rfl, by simp, fun j u hj => ?_⟩⟩
  rw [Nat.zero_add, cell_of_row _ w.heap.size j _ _ _ (heap_alloc_new w _)]
  simpa using hj
def ds1 : DS := (DS.new 4).write 1 [97] |>.2
def ds2 : DS := ds1.barrier.2
def ds3 : DS := (ds2.write 1 [98]).2
def ds4 : DS := (ds3.write 2 [99]).2
def ds5 : DS := ds4.crash [false, true]
def ds6 : DS := ds5.start
def ds7 : DS := ds6.arm 1 []
def ds8 : DS := (ds7.write 3 [100]).2
def ds9 : DS := ds8.start
set_option maxRecDepth 100000 in
set_option maxHeartbeats 4000000 in
theorem shown_calls (w : World) : Calls Try.prog 9 #[] w fun e w' => e = .returned (.bool true) ∧ Below w.heap.size w w' := by
  go_enter Try.func9, Try.ntmps9
  go_wp2_with fail
  refine (own_new w w (Below.refl _ _) 4 (by omega)).mono ?_
  rintro e w1 ⟨D, F0, rfl, h0, hB0, -⟩
  go_wp2_with fail
  refine (new_none _ 0 (.inl (by omega))).mono ?_
  rintro e w2 ⟨rfl, e2⟩
  subst e2
  go_wp2_with fail
  have hsz : Calls Try.prog 21 #[.pointer (some ⟨D, 0, none⟩)] w2 fun e w' => e = .returned (.int .i64 4) ∧ w' = w2 := size_calls h0.disk
  refine hsz.mono ?_
  clear hsz
  rintro e w3 ⟨rfl, e2⟩
  subst e2
  go_wp2_with fail
  rw [Lib.run_convert_bytes_const (P := Try.prog) _ 30 5 #[.int .u8 97] 1 1 Try.underlying30 Try.underlying5]
  simp only [Result.andThen]
  rw [Oper.upon_value]
  go_wp2_with fail
  refine (own_write (h0.over (below_alloc _ _)) (fits_of (by kernel_rfl)) 1 _ [97] (sl_byte _ 97 97 (by decide) (1, 2)) (fun b hb hf => by have := h0.disk.lt b hf; simp [Value.ownBlock] at hb; omega) (by decide)).mono ?_
  rintro e x1 ⟨rfl, F1, g1, -, -⟩
  have h1 : Own w x1 D F1 ds1 := g1
  go_wp2_with fail
  refine (own_barrier h1 (fits_of (by kernel_rfl))).mono ?_
  rintro e x2 ⟨rfl, F2, g2, -, -⟩
  have h2 : Own w x2 D F2 ds2 := g2
  go_wp2_with fail
  rw [Lib.run_convert_bytes_const (P := Try.prog) _ 30 5 #[.int .u8 98] 1 1 Try.underlying30 Try.underlying5]
  simp only [Result.andThen]
  rw [Oper.upon_value]
  go_wp2_with fail
  refine (own_write (h2.over (below_alloc _ _)) (fits_of (by kernel_rfl)) 1 _ [98] (sl_byte _ 98 98 (by decide) (1, 2)) (fun b hb hf => by have := h2.disk.lt b hf; simp [Value.ownBlock] at hb; omega) (by decide)).mono ?_
  rintro e x3 ⟨rfl, F3, g3, -, -⟩
  have h3 : Own w x3 D F3 ds3 := g3
  go_wp2_with fail
  rw [Lib.run_convert_bytes_const (P := Try.prog) _ 30 5 #[.int .u8 99] 1 1 Try.underlying30 Try.underlying5]
  simp only [Result.andThen]
  rw [Oper.upon_value]
  go_wp2_with fail
  refine (own_write (h3.over (below_alloc _ _)) (fits_of (by kernel_rfl)) 2 _ [99] (sl_byte _ 99 99 (by decide) (1, 2)) (fun b hb hf => by have := h3.disk.lt b hf; simp [Value.ownBlock] at hb; omega) (by decide)).mono ?_
  rintro e x4 ⟨rfl, F4, g4, -, -⟩
  have h4 : Own w x4 D F4 ds4 := g4
  go_wp2_with fail
  refine (own_crash (h4.over (below_alloc _ _)) (fits_of (by kernel_rfl)) _ [false, true] (sl_bools _) (by decide)).mono ?_
  rintro e x5 ⟨rfl, F5, g5, -, -⟩
  have h5 : Own w x5 D F5 ds5 := g5
  go_wp2_with fail
  refine (own_start h5).mono ?_
  rintro e x6 ⟨rfl, F6, g6, -, -⟩
  have h6 : Own w x6 D F6 ds6 := g6
  go_wp2_with fail
  refine (own_arm h6 1 (by decide) _ [] (Sl.nil _) (by decide)).mono ?_
  rintro e x7 ⟨rfl, F7, g7, -, -⟩
  have h7 : Own w x7 D F7 ds7 := g7
  go_wp2_with fail
  rw [Lib.run_convert_bytes_const (P := Try.prog) _ 30 5 #[.int .u8 100] 1 1 Try.underlying30 Try.underlying5]
  simp only [Result.andThen]
  rw [Oper.upon_value]
  go_wp2_with fail
  refine (own_write (h7.over (below_alloc _ _)) (fits_of (by kernel_rfl)) 3 _ [100] (sl_byte _ 100 100 (by decide) (1, 2)) (fun b hb hf => by have := h7.disk.lt b hf; simp [Value.ownBlock] at hb; omega) (by decide)).mono ?_
  rintro e x8 ⟨rfl, F8, g8, -, -⟩
  have h8 : Own w x8 D F8 ds8 := g8
  go_wp2_with fail
  refine (own_start h8).mono ?_
  rintro e x9 ⟨rfl, F9, g9, -, -⟩
  have h9 : Own w x9 D F9 ds9 := g9
  go_wp2_with fail
  refine (first_calls h9.disk (by decide) 1 (by kernel_rfl) 97 (by kernel_rfl) 97 (by decide)).mono ?_
  rintro e y1 ⟨rfl, hy1⟩
  have h10 := h9.over hy1
  go_wp2_with fail
  refine (first_calls h10.disk (by decide) 2 (by kernel_rfl) 99 (by kernel_rfl) 99 (by decide)).mono ?_
  rintro e y2 ⟨rfl, hy2⟩
  have h11 := h10.over hy2
  go_wp2_with fail
  refine (first_calls h11.disk (by decide) 3 (by kernel_rfl) 0 (by kernel_rfl) 0 (by decide)).mono ?_
  rintro e y3 ⟨rfl, hy3⟩
  have h12 := h11.over hy3
  go_wp2_with fail
  go_ret
  exact ⟨rfl, h12.below⟩
end Go.Proofs.Ytdlokmlcdlcfaaa

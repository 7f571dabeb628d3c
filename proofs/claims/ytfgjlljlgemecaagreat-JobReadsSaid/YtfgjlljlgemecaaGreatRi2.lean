/- hairlineref18.Read. -/
import Derived.Test.YtfgjlljlgemecaaGreatRp2
set_option linter.unusedVariables false
set_option linter.unusedSimpArgs false
namespace Go.Proofs.YtfgjlljlgemecaaGreat
open Go.RowKit Go.Shelf
def letters : ByteArray := ⟨#[72, 65, 73, 82, 74, 79, 66, 49]⟩
def numS (s : ByteArray) (j : Nat) : Int := g8 (byteAt s) (8 + 8 * j) 8
theorem get_callsI (w : World) (s : ByteArray) (z : Int) (h : 0 ≤ z ∧ z + 8 ≤ s.size) (hs : s.size ≤ 1000) :
    Calls Tryz.prog 12 #[.string s, .int .i64 z] w fun e w' => e = .returned (.int .u64 (g8 (byteAt s) z.toNat 8)) ∧ w' = w := by
  have := get_calls w s z.toNat (by omega) hs
  rwa [show ((z.toNat : Nat) : Int) = z by omega] at this
structure Hd (p : Prop) : Prop where
  out : p
theorem get_hd (w : World) (s : ByteArray) (z : Int) (h : 0 ≤ z ∧ z + 8 ≤ s.size) (hs : s.size ≤ 1000) :
    Calls Tryz.prog 12 #[.string s, .int .i64 z] w fun e w' => ∃ n, Hd (n = g8 (byteAt s) z.toNat 8) ∧ e = .returned (.int .u64 n) ∧ w' = w :=
  (get_callsI w s z h hs).mono fun e w' ⟨h1, h2⟩ => ⟨_, ⟨rfl⟩, h1, h2⟩
def badV : Value := .tuple #[.agg jobC, .int .i64 7]
def okV (n0 n1 n2 n3 n4 : Int) : Value := .tuple #[.agg #[.int .i64 (wrap64 n0), .int .i64 (wrap64 (wrap64 n1 - 64)), .int .u64 n2, .int .u64 n3, .int .i64 (wrap64 n4)], .int .i64 0]
/-- What the document's answers. -/
def refOut (s : ByteArray) : Value :=
  if s.size = 48 ∧ ((s.extract 0 8).toList == [72, 65, 73, 82, 74, 79, 66, 49]) = true then
    (if numS s 0 ≤ 65535 ∧ numS s 1 ≤ 65535 ∧ numS s 4 ≤ 65535 then okV (numS s 0) (numS s 1) (numS s 2) (numS s 3) (numS s 4) else badV) else badV
theorem refOut_bad (s : ByteArray) (h : s.size = 48) (hh : (!(s.extract 0 8).toList == [72, 65, 73, 82, 74, 79, 66, 49]) = false) (hn : ¬(numS s 0 ≤ 65535 ∧ numS s 1 ≤ 65535 ∧ numS s 4 ≤ 65535)) : refOut s = badV := by
  unfold refOut
  rw [if_pos ⟨h, by simpa using hh⟩, if_neg hn]
theorem refOut_ok (s : ByteArray) (h : s.size = 48) (hh : (!(s.extract 0 8).toList == [72, 65, 73, 82, 74, 79, 66, 49]) = false) (hn : numS s 0 ≤ 65535 ∧ numS s 1 ≤ 65535 ∧ numS s 4 ≤ 65535) : refOut s = okV (numS s 0) (numS s 1) (numS s 2) (numS s 3) (numS s 4) := by
  unfold refOut
  rw [if_pos ⟨h, by simpa using hh⟩, if_pos hn]
theorem res_job (w : World) (T : Array Value) (hT2 : T.getD 2 undef = .pointer (some ⟨w.heap.size, 0, none⟩)) (z : Value) (hT3 : T.getD 3 undef = z) (C : Array Value) (c0 c1 c2 c3 c4 : Value) (hC : C = #[c0, c1, c2, c3, c4]) (W : World) (hW : W.heap[w.heap.size]? = some (.cells C 26)) :
    (results Tryz.f6 T).run Tryz.prog W = .ok (.tuple #[.agg C, z]) W := by
  subst hC
  have q0 : W.cell? ⟨w.heap.size, 0, none⟩ = some c0 := cell_of_block hW rfl
  have q1 : W.cell? ⟨w.heap.size, 1, none⟩ = some c1 := cell_of_block hW rfl
  have q2 : W.cell? ⟨w.heap.size, 2, none⟩ = some c2 := cell_of_block hW rfl
  have q3 : W.cell? ⟨w.heap.size, 3, none⟩ = some c3 := cell_of_block hW rfl
  have q4 : W.cell? ⟨w.heap.size, 4, none⟩ = some c4 := cell_of_block hW rfl
  rw [results_cell_tmp rfl, hT2, hT3]
  simp [go_sem, q0, q1, q2, q3, q4]
set_option maxRecDepth 100000 in
set_option maxHeartbeats 8000000 in
theorem refRead (w : World) (s : ByteArray) (hs : s.size ≤ 9223372036854775807) :
    Calls Tryz.prog 6 #[.string s] w fun e w' => e = .returned (refOut s) ∧ Below w.heap.size w w' := by
  have hnew := World.alloc_heap_new w (.cells jobC 26)
  have hBn : Below w.heap.size w (w.alloc (.cells jobC 26)) := (Below.refl _ w).alloc (Nat.le_refl _) _
  by_cases h48 : s.size = 48
  · have h48i : (s.size : Int) = 48 := by omega
    go_enter Tryz.func6, Tryz.ntmps6
    go_wp2_with fail
    · have hh : (!(s.extract 0 8).toList == [72, 65, 73, 82, 74, 79, 66, 49]) = true := by assumption
      refine bodyPost_ret (res_job w _ rfl _ rfl jobC _ _ _ _ _ rfl _ hnew) rfl ⟨?_, hBn⟩
      unfold refOut
      rw [if_neg (fun h => by rw [h.2] at hh; cases hh)]
      rfl
    · refine (get_hd _ s _ (by omega) (by omega)).mono ?_
      rintro e w1 ⟨n0, hn0, rfl, rfl⟩
      go_wp2_with fail
      refine (get_hd _ s _ (by omega) (by omega)).mono ?_
      rintro e w1 ⟨n1, hn1, rfl, rfl⟩
      go_wp2_with fail
      refine (get_hd _ s _ (by omega) (by omega)).mono ?_
      rintro e w1 ⟨n4, hn4, rfl, rfl⟩
      go_wp2_with fail
      all_goals have m0 : numS s 0 = n0 := hn0.out.symm
      all_goals have m1 : numS s 1 = n1 := hn1.out.symm
      all_goals have m4 : numS s 4 = n4 := hn4.out.symm
      · refine bodyPost_ret (res_job w _ rfl _ rfl jobC _ _ _ _ _ rfl _ hnew) rfl ⟨?_, hBn⟩
        rw [refOut_bad s h48 (by assumption) (fun h => by rw [m0, m1, m4] at h; omega)]
        rfl
      · refine (get_hd _ s _ (by omega) (by omega)).mono ?_
        rintro e w1 ⟨n2, hn2, rfl, rfl⟩
        go_wp2_with fail
        refine (get_hd _ s _ (by omega) (by omega)).mono ?_
        rintro e w1 ⟨n3, hn3, rfl, rfl⟩
        go_wp2_with fail
        have m2 : numS s 2 = n2 := hn2.out.symm
        have m3 : numS s 3 = n3 := hn3.out.symm
        have h5 := World.alloc_heap_new w (.cells #[.int .i64 (wrap64 n0), .int .i64 (wrap64 (wrap64 n1 - 64)), .int .u64 n2, .int .u64 n3, .int .i64 (wrap64 n4)] 26)
        refine bodyPost_ret (res_job w _ rfl _ rfl _ _ _ _ _ _ rfl _ h5) rfl ⟨?_, (Below.refl _ w).alloc (Nat.le_refl _) _⟩
        rw [refOut_ok s h48 (by assumption) (by rw [m0, m1, m4]; omega), m0, m1, m2, m3, m4]
        rfl
      · refine bodyPost_ret (res_job w _ rfl _ rfl jobC _ _ _ _ _ rfl _ hnew) rfl ⟨?_, hBn⟩
        rw [refOut_bad s h48 (by assumption) (fun h => by rw [m0, m1, m4] at h; omega)]
        rfl
      · refine bodyPost_ret (res_job w _ rfl _ rfl jobC _ _ _ _ _ rfl _ hnew) rfl ⟨?_, hBn⟩
        rw [refOut_bad s h48 (by assumption) (fun h => by rw [m0, m1, m4] at h; omega)]
        rfl
  · go_enter Tryz.func6, Tryz.ntmps6
    have h48i : (s.size : Int) ≠ 48 := by omega
    go_wp2_with fail
    refine bodyPost_ret (res_job w _ rfl _ rfl jobC _ _ _ _ _ rfl _ hnew) rfl ⟨?_, hBn⟩
    unfold refOut
    rw [if_neg (fun h => h48 h.1)]
    rfl
end Go.Proofs.YtfgjlljlgemecaaGreat

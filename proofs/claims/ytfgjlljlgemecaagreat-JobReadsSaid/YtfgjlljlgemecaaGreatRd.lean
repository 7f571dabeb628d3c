/- slices.Backward over bytes: an iterator's contract. -/
import Derived.RangeFuncNested
import Derived.RangeFuncBound
import Derived.RangeFuncCalls
import Derived.RangeFuncLeaves
import Derived.RangeFuncBox
import Derived.Shelf.Abstract
import Derived.Shelf.RegionOpen
import Derived.WalkKit
import Derived.OwnWalkIn
import Derived.TacticsInMore
import Derived.LoopNIn
import Derived.LoopIn
import Derived.Laws.BytesArg
import Derived.Test.YtfgjlljlgemecaaGreatProg
set_option linter.unusedVariables false
set_option linter.unusedSimpArgs false
namespace Go.Proofs.YtfgjlljlgemecaaGreat
open Go.RowKit Go.Shelf
attribute [local go_sem] Oper.semAt_some
def upto {α : Type} (f : Nat → α) (k : Nat) : List α := (List.range k).map f
theorem upto_succ {α : Type} (f : Nat → α) (k : Nat) : upto f (k + 1) = upto f k ++ [f k] := by simp [upto, List.range_succ]
theorem upto_length {α : Type} (f : Nat → α) (k : Nat) : (upto f k).length = k := by simp [upto]
/-- From the end on: a place, and the byte there. -/
def bk (zs : List Int) (len j : Nat) : Nat × Int := (len - 1 - j, zs.getD (len - 1 - j) 0)
/-- Two blocks stay. -/
def KeepTwo (p q : Nat) (W W' : World) : Prop := W'.heap[p]? = W.heap[p]? ∧ W'.heap[q]? = W.heap[q]?
theorem keepTwo_t {p q : Nat} {A B C : World} (h : KeepTwo p q A B) (k : KeepTwo p q B C) : KeepTwo p q A C := ⟨k.1.trans h.1, k.2.trans h.2⟩
theorem KeepTwo.cell1 {p q : Nat} {W W' : World} (h : KeepTwo p q W W') (o : Nat) : W'.cell? ⟨p, o, none⟩ = W.cell? ⟨p, o, none⟩ := World.cell?_of_block (w := W) h.1
theorem KeepTwo.cell2 {p q : Nat} {W W' : World} (h : KeepTwo p q W W') (o : Nat) : W'.cell? ⟨q, o, none⟩ = W.cell? ⟨q, o, none⟩ := World.cell?_of_block (w := W) h.2
set_option maxRecDepth 100000 in
set_option maxHeartbeats 4000000 in
theorem back1_in (F : Fence) (n : Nat) (h7 : F.fn 17) (hro : F.round = none) (hn : 1 ≤ n) (l Bs b off len cap : Nat) (zs : List Int) (hreach : len ≤ 1000000)
    (J Jx : List (Nat × Int) → World → Prop)
    (hY : ∀ pre x W, J pre W → pre.length < len → YieldAt F (n - 1) Tryz.prog l #[.int .i64 (x.1 : Int), .int .u8 x.2] W fun e W' =>
      (e = .returned (.bool true) ∧ J (pre ++ [x]) W' ∧ KeepTwo Bs b W W') ∨ (e = .returned (.bool false) ∧ Jx (pre ++ [x]) W'))
    (W : World) (hBs : W.cell? ⟨Bs, 0, none⟩ = some (.slice (some ⟨b, off, none⟩) len cap)) (hc : ∀ j, j < len → W.cell? ⟨b, off + j, none⟩ = some (.int .u8 (zs.getD j 0))) (h0 : J [] W) :
    CallsIn F n Tryz.prog 17 #[.func (.yield l) #[] #[], .pointer (some ⟨Bs, 0, none⟩)] W fun e W' => (∃ v, e = .returned v) ∧
      ((∃ ys, ys = upto (bk zs len) len ∧ J ys W') ∨ (∃ pre, (∃ k, k ≤ len ∧ pre = upto (bk zs len) k) ∧ Jx pre W')) := by
  refine callsIn_of_wp Tryz.func17 rfl h7 ?_ hro
  simp only [Tryz.ntmps17, List.size_toArray, List.length_cons, List.length_nil, Nat.reduceAdd, Nat.reduceSub, Array.replicate_succ, Array.replicate_zero, List.push_toArray, List.append_toArray, List.nil_append, List.cons_append]
  gi_wp2
  gi_loopw [3] (fun i wr => ∃ k : Nat, k ≤ len ∧ i = .int .i64 ((len : Int) - 1 - k) ∧ J (upto (bk zs len) k) wr ∧ KeepTwo Bs b W wr)
    (fun i _ => (intOf i + 1).toNat)
  case atStart => exact ⟨0, Nat.zero_le _, by simp, h0, rfl, rfl⟩
  case round =>
    obtain ⟨k, hk, rfl, hJs, hnx⟩ := hrel
    have hcB : wr.cell? ⟨Bs, 0, none⟩ = some (.slice (some ⟨b, off, none⟩) len cap) := (hnx.cell1 0).trans hBs
    by_cases hlt : k < len
    · obtain ⟨m, hm⟩ : ∃ m : Nat, m + 1 + k = len := ⟨len - 1 - k, by omega⟩
      have hmi : (len : Int) - 1 - k = (m : Int) := by omega
      have hcx : wr.cell? ⟨b, off + m, none⟩ = some (.int .u8 (zs.getD m 0)) := (hnx.cell2 _).trans (hc m (by omega))
      obtain ⟨fn, tmps, assign, body, hy, hR⟩ := hY _ (bk zs len k) wr hJs (by rw [upto_length]; exact hlt)
      rw [show bk zs len k = (m, zs.getD m 0) by unfold bk; rw [show len - 1 - k = m by omega]] at hy
      dsimp only at hy
      rw [hmi]
      obtain ⟨x, hx⟩ : ∃ x, x = zs.getD m 0 := ⟨_, rfl⟩
      rw [← hx] at hcx hy
      have hml : m < len := by omega
      have hml2 : (m : Int) < (len : Int) := by omega
      have hmb : (m : Int) ≤ 1000000 := by omega
      clear hmi hx
      gi_wp2
      refine hR.mono ?_
      rintro e W3 (⟨rfl, hJ3, hk3⟩ | ⟨rfl, hJx3⟩)
      · gi_wp2
        go_roundw
        case rel => exact ⟨k + 1, by omega, by congr 1; omega, by rw [upto_succ]; exact hJ3, keepTwo_t hnx hk3⟩
        case measure => simp [intOf]
      · gi_wp2
        refine bodyPost_ret (results_none rfl _ _ _) rfl ?_
        exact ⟨⟨_, rfl⟩, .inr ⟨_, ⟨k + 1, by omega, (upto_succ _ _).symm⟩, hJx3⟩⟩
    · obtain rfl : k = len := by omega
      have hmi : (k : Int) - 1 - k = -1 := by omega
      rw [hmi]
      gi_wp2
      go_end0
      exact ⟨⟨_, rfl⟩, .inl ⟨_, rfl, hJs⟩⟩
set_option maxHeartbeats 1000000 in
theorem back_in (F : Fence) (n : Nat) (h5 : F.fn 11) (hro : F.round = none) (a : Option Addr) (len cap : Nat) (w : World) :
    CallsIn F n Tryz.prog 11 #[.slice a len cap] w fun e w' => e = .returned (.func (.func 17) #[] #[.pointer (some ⟨w.heap.size, 0, none⟩)]) ∧ w' = w.alloc (.cells #[.slice a len cap] 22) := by
  refine callsIn_of_wp Tryz.func11 rfl h5 ?_ hro
  simp only [Tryz.ntmps11, List.size_toArray, List.length_cons, List.length_nil, Nat.reduceAdd, Nat.reduceSub, Array.replicate_succ, Array.replicate_zero, List.push_toArray, List.append_toArray, List.nil_append, List.cons_append]
  gi_wp2
  go_ret
  exact ⟨rfl, rfl⟩
theorem back_stops (F : Fence) (n : Nat) (h7 : F.fn 17) (hro : F.round = none) (hn : 1 ≤ n) (Bs b off len cap : Nat) (zs : List Int) (hreach : len ≤ 1000000) (w : World) (hBs : Bs < w.heap.size) (hb : b < w.heap.size)
    (hc1 : w.cell? ⟨Bs, 0, none⟩ = some (.slice (some ⟨b, off, none⟩) len cap)) (hc2 : ∀ j, j < len → w.cell? ⟨b, off + j, none⟩ = some (.int .u8 (zs.getD j 0))) :
    SeqStopsK F n Tryz.prog 17 #[.pointer (some ⟨Bs, 0, none⟩)] (fun x : Nat × Int => #[Value.int .i64 (x.1 : Int), Value.int .u8 x.2]) (KeepTwo Bs b) (fun ys => ys = upto (bk zs len) len)
      (fun pre => ∃ k, k ≤ len ∧ pre = upto (bk zs len) k) len w := fun l J Jx W hW _ _ hY h0 =>
  back1_in F n h7 hro hn l Bs b off len cap zs hreach J Jx hY W ((hW.cell (p := ⟨Bs, 0, none⟩) hBs).trans hc1) (fun j hj => (hW.cell (p := ⟨b, off + j, none⟩) hb).trans (hc2 j hj)) h0
end Go.Proofs.YtfgjlljlgemecaaGreat

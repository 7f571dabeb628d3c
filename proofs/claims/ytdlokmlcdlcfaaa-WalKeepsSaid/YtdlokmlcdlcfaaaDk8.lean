/- The disk: slices.Backward over those that are loose. -/
import Derived.RangeFuncNested
import Derived.RangeFuncBound
import Derived.RangeFuncCalls
import Derived.RangeFuncLeaves
import Derived.RangeFuncBox
import Derived.Shelf.Abstract
import Derived.Shelf.RegionOpen
import Derived.WalkKit
import Derived.OwnWalkIn
import Derived.TacticsInMore
import Derived.LoopNIn
import Derived.LoopIn
import Derived.Test.YtdlokmlcdlcfaaaBi
import Derived.Test.YtdlokmlcdlcfaaaDk7
set_option linter.unusedVariables false
set_option linter.unusedSimpArgs false
namespace Go.Proofs.Ytdlokmlcdlcfaaa
open Go.RowKit Go.Shelf
attribute [local go_sem] Oper.semAt_some
def upto {α : Type} (f : Nat → α) (k : Nat) : List α := (List.range k).map f
theorem upto_succ {α : Type} (f : Nat → α) (k : Nat) : upto f (k + 1) = upto f k ++ [f k] := by simp [upto, List.range_succ]
theorem upto_length {α : Type} (f : Nat → α) (k : Nat) : (upto f k).length = k := by simp [upto]
def fx (s : Sec) : Sec := if s.length = 512 then s else zeros
theorem fx_len (s : Sec) : (fx s).length = 512 := by
  unfold fx
  split
  · assumption
  · exact List.length_replicate ..
theorem fx_id {s : Sec} (h : s.length = 512) : fx s = s := if_pos h
abbrev WI := Nat × Int × Sec
/-- From the end on: a place, and the write there. -/
def bkw (l : List (Int × Sec)) (j : Nat) : WI := (l.length - 1 - j, l.getD (l.length - 1 - j) (0, zeros))
def encW (x : WI) : Array Value := #[.int .i64 (x.1 : Int), .agg (wcel (x.2.1, fx x.2.2)).toArray]
/-- Two blocks stay. -/
def KeepTwo (p q : Nat) (W W' : World) : Prop := W'.heap[p]? = W.heap[p]? ∧ W'.heap[q]? = W.heap[q]?
theorem keepTwo_t {p q : Nat} {A B C : World} (h : KeepTwo p q A B) (k : KeepTwo p q B C) : KeepTwo p q A C := ⟨k.1.trans h.1, k.2.trans h.2⟩
theorem KeepTwo.cell1 {p q : Nat} {W W' : World} (h : KeepTwo p q W W') (o : Nat) : W'.cell? ⟨p, o, none⟩ = W.cell? ⟨p, o, none⟩ := World.cell?_of_block (w := W) h.1
set_option maxRecDepth 100000 in
set_option maxHeartbeats 4000000 in
theorem backw1_in (F : Fence) (n : Nat) (h7 : F.fn 50) (hro : F.round = none) (hn : 1 ≤ n) (lp Bs b cap : Nat) (A : Option Addr) (l : List (Int × Sec)) (hreach : l.length ≤ 1000000) (hlen : ∀ x ∈ l, x.2.length = 512) (hA : 0 < l.length → A = some ⟨b, 0, none⟩)
    (J Jx : List WI → World → Prop)
    (hY : ∀ pre x W, J pre W → pre.length < l.length → YieldAt F (n - 1) Try.prog lp (encW x) W fun e W' =>
      (e = .returned (.bool true) ∧ J (pre ++ [x]) W' ∧ KeepTwo Bs b W W') ∨ (e = .returned (.bool false) ∧ Jx (pre ++ [x]) W'))
    (W : World) (hBs : W.cell? ⟨Bs, 0, none⟩ = some (.slice A l.length cap)) (hc : ∀ (j : Nat) x, l[j]? = some x → W.rangeAt b (j * 513) (wcel x)) (h0 : J [] W) :
    CallsIn F n Try.prog 50 #[.func (.yield lp) #[] #[], .pointer (some ⟨Bs, 0, none⟩)] W fun e W' => (∃ v, e = .returned v) ∧
      ((∃ ys, ys = upto (bkw l) l.length ∧ J ys W') ∨ (∃ pre, (∃ k, k ≤ l.length ∧ pre = upto (bkw l) k) ∧ Jx pre W')) := by
  refine callsIn_of_wp Try.func50 rfl h7 ?_ hro
  simp only [Try.ntmps50, List.size_toArray, List.length_cons, List.length_nil, Nat.reduceAdd, Nat.reduceSub, Array.replicate_succ, Array.replicate_zero, List.push_toArray, List.append_toArray, List.nil_append, List.cons_append]
  gi_wp2
  gi_loopw [3] (fun i wr => ∃ k : Nat, k ≤ l.length ∧ i = .int .i64 ((l.length : Int) - 1 - k) ∧ J (upto (bkw l) k) wr ∧ KeepTwo Bs b W wr)
    (fun i _ => (intOf i + 1).toNat)
  case atStart => exact ⟨0, Nat.zero_le _, by simp, h0, rfl, rfl⟩
  case round =>
    obtain ⟨k, hk, rfl, hJs, hnx⟩ := hrel
    have hcB : wr.cell? ⟨Bs, 0, none⟩ = some (.slice A l.length cap) := (hnx.cell1 0).trans hBs
    by_cases hlt : k < l.length
    · obtain rfl := hA (by omega)
      obtain ⟨m, hm⟩ : ∃ m : Nat, m + 1 + k = l.length := ⟨l.length - 1 - k, by omega⟩
      have hmi : (l.length : Int) - 1 - k = (m : Int) := by omega
      obtain ⟨x, hx⟩ : ∃ x, l[m]? = some x := ⟨_, List.getElem?_eq_getElem (by omega)⟩
      have hxl := hlen x (List.mem_of_getElem? hx)
      have hgw : wr.rangeAt b (m * 513) (wcel x) := rangeAt_of (hc m x hx) hnx.2
      obtain ⟨fn, tmps, assign, body, hy, hR⟩ := hY _ (bkw l k) wr hJs (by rw [upto_length]; exact hlt)
      have hbk : bkw l k = (m, x) := by
        unfold bkw
        rw [show l.length - 1 - k = m by omega]
        simp [List.getD, hx]
      rw [show encW (bkw l k) = #[.int .i64 (m : Int), .agg (wcel x).toArray] by rw [hbk]; unfold encW; dsimp only; rw [fx_id hxl]] at hy
      rw [hmi]
      have hml : m < l.length := by omega
      have hml2 : (m : Int) < (l.length : Int) := by omega
      have hmb : (m : Int) ≤ 1000000 := by omega
      clear hmi hbk
      gi_wp2_with (with_reducible refine ld_in (t := 73) b (m * 513) (by with_unfolding_all rfl) (wcel x) _ hgw Try.underlying73 rfl (i1 hxl) ?_)
      refine hR.mono ?_
      rintro e W3 (⟨rfl, hJ3, hk3⟩ | ⟨rfl, hJx3⟩)
      · gi_wp2
        go_roundw
        case rel => exact ⟨k + 1, by omega, by congr 1; omega, by rw [upto_succ]; exact hJ3, keepTwo_t hnx hk3⟩
        case measure => simp [intOf]
      · gi_wp2
        refine bodyPost_ret (results_none rfl _ _ _) rfl ?_
        exact ⟨⟨_, rfl⟩, .inr ⟨_, ⟨k + 1, by omega, (upto_succ _ _).symm⟩, hJx3⟩⟩
    · obtain rfl : k = l.length := by omega
      have hmi : (l.length : Int) - 1 - l.length = -1 := by omega
      rw [hmi]
      gi_wp2
      go_end0
      exact ⟨⟨_, rfl⟩, .inl ⟨_, rfl, hJs⟩⟩
set_option maxHeartbeats 1000000 in
theorem backw_in (F : Fence) (n : Nat) (h5 : F.fn 38) (hro : F.round = none) (v : Value) (hv : ∃ a len cap, v = .slice a len cap) (w : World) :
    CallsIn F n Try.prog 38 #[v] w fun e w' => e = .returned (.func (.func 50) #[] #[.pointer (some ⟨w.heap.size, 0, none⟩)]) ∧ w' = w.alloc (.cells #[v] 65) := by
  obtain ⟨a, len, cap, rfl⟩ := hv
  refine callsIn_of_wp Try.func38 rfl h5 ?_ hro
  simp only [Try.ntmps38, List.size_toArray, List.length_cons, List.length_nil, Nat.reduceAdd, Nat.reduceSub, Array.replicate_succ, Array.replicate_zero, List.push_toArray, List.append_toArray, List.nil_append, List.cons_append]
  gi_wp2
  go_ret
  exact ⟨rfl, rfl⟩
theorem backw_stops (F : Fence) (n : Nat) (h7 : F.fn 50) (hro : F.round = none) (hn : 1 ≤ n) (Bs b cap : Nat) (A : Option Addr) (l : List (Int × Sec)) (hreach : l.length ≤ 1000000) (hlen : ∀ x ∈ l, x.2.length = 512) (hA : 0 < l.length → A = some ⟨b, 0, none⟩)
    (w : World) (hBs : Bs < w.heap.size) (hb : b < w.heap.size) (hc1 : w.cell? ⟨Bs, 0, none⟩ = some (.slice A l.length cap)) (hc2 : ∀ (j : Nat) x, l[j]? = some x → w.rangeAt b (j * 513) (wcel x)) :
    SeqStopsK F n Try.prog 50 #[.pointer (some ⟨Bs, 0, none⟩)] encW (KeepTwo Bs b) (fun ys => ys = upto (bkw l) l.length)
      (fun pre => ∃ k, k ≤ l.length ∧ pre = upto (bkw l) k) l.length w := fun lp J Jx W hW _ _ hY h0 =>
  backw1_in F n h7 hro hn lp Bs b cap A l hreach hlen hA J Jx hY W ((hW.cell (p := ⟨Bs, 0, none⟩) hBs).trans hc1) (fun j x hj => rangeAt_of (hc2 j x hj) (hW.block b hb)) h0
end Go.Proofs.Ytdlokmlcdlcfaaa

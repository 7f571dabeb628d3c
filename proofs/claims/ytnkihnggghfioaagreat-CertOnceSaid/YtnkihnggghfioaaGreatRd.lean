/- slices.Backward over bytes: an iterator's contract. hairlineref18.get. bytes.CutPrefix at the job's eight letters. job.Read: what its walk leans on. -/
import Derived.RangeFuncNested
import Derived.RangeFuncBound
import Derived.RangeFuncCalls
import Derived.RangeFuncLeaves
import Derived.RangeFuncBox
import Derived.Shelf.Abstract
import Derived.Shelf.RegionOpen
import Derived.WalkKit
import Derived.OwnWalkIn
import Derived.TacticsInMore
import Derived.LoopNIn
import Derived.LoopIn
import Derived.Laws.BytesArg
import Derived.Test.YtnkihnggghfioaaGreatProg
import Derived.LoopN
import Derived.Lib.SlBytesConst
import Derived.Laws.Cover1
set_option linter.unusedVariables false
set_option linter.unusedSimpArgs false
namespace Go.Proofs.YtnkihnggghfioaaGreat
section
section
open Go.RowKit Go.Shelf
attribute [local go_sem] Oper.semAt_some
def upto {α : Type} (f : Nat → α) (k : Nat) : List α := (List.range k).map f
theorem jeq {α : Type} (f : Nat → α) (k : Nat) : upto f (k + 1) = upto f k ++ [f k] := by simp [upto, List.range_succ]
theorem jk1 {α : Type} (f : Nat → α) (k : Nat) : (upto f k).length = k := by simp [upto]
def bk (zs : List Int) (len j : Nat) : Nat × Int := (len - 1 - j, zs.getD (len - 1 - j) 0)
def KeepTwo (p q : Nat) (W W' : World) : Prop := W'.heap[p]? = W.heap[p]? ∧ W'.heap[q]? = W.heap[q]?
theorem jgl {p q : Nat} {A B C : World} (h : KeepTwo p q A B) (k : KeepTwo p q B C) : KeepTwo p q A C := ⟨k.1.trans h.1, k.2.trans h.2⟩
theorem KeepTwo.cell1 {p q : Nat} {W W' : World} (h : KeepTwo p q W W') (o : Nat) : W'.cell? ⟨p, o, none⟩ = W.cell? ⟨p, o, none⟩ := World.cell?_of_block (w := W) h.1
theorem KeepTwo.cell2 {p q : Nat} {W W' : World} (h : KeepTwo p q W W') (o : Nat) : W'.cell? ⟨q, o, none⟩ = W.cell? ⟨q, o, none⟩ := World.cell?_of_block (w := W) h.2
set_option maxRecDepth 100000 in
set_option maxHeartbeats 4000000 in
theorem jrd (F : Fence) (n : Nat) (h7 : F.fn 50) (hro : F.round = none) (hn : 1 ≤ n) (l Bs b off len cap : Nat) (zs : List Int) (hreach : len ≤ 1000000)
    (J Jx : List (Nat × Int) → World → Prop)
    (hY : ∀ pre x W, J pre W → pre.length < len → YieldAt F (n - 1) Tryz.prog l #[.int .i64 (x.1 : Int), .int .u8 x.2] W fun e W' =>
      (e = .returned (.bool true) ∧ J (pre ++ [x]) W' ∧ KeepTwo Bs b W W') ∨ (e = .returned (.bool false) ∧ Jx (pre ++ [x]) W'))
    (W : World) (hBs : W.cell? ⟨Bs, 0, none⟩ = some (.slice (some ⟨b, off, none⟩) len cap)) (hc : ∀ j, j < len → W.cell? ⟨b, off + j, none⟩ = some (.int .u8 (zs.getD j 0))) (h0 : J [] W) :
    CallsIn F n Tryz.prog 50 #[.func (.yield l) #[] #[], .pointer (some ⟨Bs, 0, none⟩)] W fun e W' => (∃ v, e = .returned v) ∧
      ((∃ ys, ys = upto (bk zs len) len ∧ J ys W') ∨ (∃ pre, (∃ k, k ≤ len ∧ pre = upto (bk zs len) k) ∧ Jx pre W')) := by
  refine callsIn_of_wp Tryz.func50 rfl h7 ?_ hro; simp only [Tryz.ntmps50, List.size_toArray, List.length_cons, List.length_nil, Nat.reduceAdd, Nat.reduceSub, Array.replicate_succ, Array.replicate_zero, List.push_toArray, List.append_toArray, List.nil_append, List.cons_append]
  gi_wp2
  gi_loopw [3] (fun i wr => ∃ k : Nat, k ≤ len ∧ i = .int .i64 ((len : Int) - 1 - k) ∧ J (upto (bk zs len) k) wr ∧ KeepTwo Bs b W wr)
    (fun i _ => (intOf i + 1).toNat)
  case atStart => exact ⟨0, Nat.zero_le _, by simp, h0, rfl, rfl⟩
  case round =>
    obtain ⟨k, hk, rfl, hJs, hnx⟩ := hrel; have hcB : wr.cell? ⟨Bs, 0, none⟩ = some (.slice (some ⟨b, off, none⟩) len cap) := (hnx.cell1 0).trans hBs
    by_cases hlt : k < len
    · obtain ⟨m, hm⟩ : ∃ m : Nat, m + 1 + k = len := ⟨len - 1 - k, by omega⟩
      have hmi : (len : Int) - 1 - k = (m : Int) := by omega
      have hcx : wr.cell? ⟨b, off + m, none⟩ = some (.int .u8 (zs.getD m 0)) := (hnx.cell2 _).trans (hc m (by omega)); obtain ⟨fn, tmps, assign, body, hy, hR⟩ := hY _ (bk zs len k) wr hJs (by rw [jk1]; exact hlt); rw [show bk zs len k = (m, zs.getD m 0) by unfold bk; rw [show len - 1 - k = m by omega]] at hy
      dsimp only at hy
      rw [hmi]; obtain ⟨x, hx⟩ : ∃ x, x = zs.getD m 0 := ⟨_, rfl⟩; rw [← hx] at hcx hy; have hml : m < len := by omega
      have hml2 : (m : Int) < (len : Int) := by omega
      have hmb : (m : Int) ≤ 1000000 := by omega
      clear hmi hx
      gi_wp2
      refine hR.mono ?_; rintro e W3 (⟨rfl, hJ3, hk3⟩ | ⟨rfl, hJx3⟩)
      · gi_wp2
        go_roundw
        case rel => exact ⟨k + 1, by omega, by congr 1; omega, by rw [jeq]; exact hJ3, jgl hnx hk3⟩
        case measure => simp [intOf]
      · gi_wp2
        refine bodyPost_ret (results_none rfl _ _ _) rfl ?_; exact ⟨⟨_, rfl⟩, .inr ⟨_, ⟨k + 1, by omega, (jeq _ _).symm⟩, hJx3⟩⟩
    · obtain rfl : k = len := by omega
      have hmi : (k : Int) - 1 - k = -1 := by omega
      rw [hmi]
      gi_wp2
      go_end0
      exact ⟨⟨_, rfl⟩, .inl ⟨_, rfl, hJs⟩⟩
set_option maxHeartbeats 1000000 in
theorem jo2 (F : Fence) (n : Nat) (h5 : F.fn 29) (hro : F.round = none) (a : Option Addr) (len cap : Nat) (w : World) :
    CallsIn F n Tryz.prog 29 #[.slice a len cap] w fun e w' => e = .returned (.func (.func 50) #[] #[.pointer (some ⟨w.heap.size, 0, none⟩)]) ∧ w' = w.alloc (.cells #[.slice a len cap] 22) := by
  refine callsIn_of_wp Tryz.func29 rfl h5 ?_ hro; simp only [Tryz.ntmps29, List.size_toArray, List.length_cons, List.length_nil, Nat.reduceAdd, Nat.reduceSub, Array.replicate_succ, Array.replicate_zero, List.push_toArray, List.append_toArray, List.nil_append, List.cons_append]
  gi_wp2
  go_ret
  exact ⟨rfl, rfl⟩
theorem jhl (F : Fence) (n : Nat) (h7 : F.fn 50) (hro : F.round = none) (hn : 1 ≤ n) (Bs b off len cap : Nat) (zs : List Int) (hreach : len ≤ 1000000) (w : World) (hBs : Bs < w.heap.size) (hb : b < w.heap.size)
    (hc1 : w.cell? ⟨Bs, 0, none⟩ = some (.slice (some ⟨b, off, none⟩) len cap)) (hc2 : ∀ j, j < len → w.cell? ⟨b, off + j, none⟩ = some (.int .u8 (zs.getD j 0))) :
    SeqStopsK F n Tryz.prog 50 #[.pointer (some ⟨Bs, 0, none⟩)] (fun x : Nat × Int => #[Value.int .i64 (x.1 : Int), Value.int .u8 x.2]) (KeepTwo Bs b) (fun ys => ys = upto (bk zs len) len)
      (fun pre => ∃ k, k ≤ len ∧ pre = upto (bk zs len) k) len w := fun l J Jx W hW _ _ hY h0 =>
  jrd F n h7 hro hn l Bs b off len cap zs hreach J Jx hY W ((hW.cell (p := ⟨Bs, 0, none⟩) hBs).trans hc1) (fun j hj => (hW.cell (p := ⟨b, off + j, none⟩) hb).trans (hc2 j hj)) h0
end
end
section
section
open Go.RowKit
def stp (n c : Int) : Int := bits BinOp.or IntKind.u64 (IntKind.u64.wrap (n * 256)) (IntKind.u64.wrap c)
def g8 (c : Nat → Int) (a : Nat) : Nat → Int
  | 0 => 0
  | k + 1 => stp (g8 c a k) (c (a + (7 - k)))
def byteAt (s : ByteArray) (i : Nat) : Int := if h : i < s.size then (s[i].toNat : Int) else 0
end
end
section
section
open Go.RowKit
def hj : List Int := [72, 65, 73, 82, 74, 79, 66, 49]
theorem jer {xs ys : List Int} (hx : ∀ x ∈ xs, 0 ≤ x ∧ x < 256) (hy : ∀ x ∈ ys, 0 ≤ x ∧ x < 256) (h : strOfNums xs = strOfNums ys) : xs = ys := by
  have h1 : xs.map (fun n => UInt8.ofNat n.toNat) = ys.map (fun n => UInt8.ofNat n.toNat) := by
    have := congrArg (fun s : ByteArray => s.data.toList) h; exact this
  have back : ∀ l : List Int, (∀ x ∈ l, 0 ≤ x ∧ x < 256) → (l.map (fun n => UInt8.ofNat n.toNat)).map (fun b => (b.toNat : Int)) = l := by
    intro l hl; rw [List.map_map]
    conv => rhs; rw [← List.map_id l]
    refine List.map_congr_left fun x hx => ?_
    obtain ⟨a, b⟩ := hl x hx
    show ((UInt8.ofNat x.toNat).toNat : Int) = x
    rw [UInt8.toNat_ofNat']; rw [Nat.mod_eq_of_lt (by omega)]
    omega
  rw [← back xs hx, ← back ys hy, h1]
set_option maxRecDepth 100000 in
set_option maxHeartbeats 4000000 in
theorem jjk (w : World) (b off len cap p : Nat) (xs : List Int) (hl : xs.length = len) (hcap : len ≤ cap ∧ cap ≤ 9223372036854775807) (hx : ∀ x ∈ xs, 0 ≤ x ∧ x < 256)
    (hcell : ∀ i, i < len → w.cell? ⟨b, off + i, none⟩ = some (.int .u8 (xs.getD i 0))) (hpre : ∀ i, i < 8 → w.cell? ⟨p, 0 + i, none⟩ = some (.int .u8 (hj.getD i 0))) :
    Calls Tryz.prog 30 #[.slice (some ⟨b, off, none⟩) len cap, .slice (some ⟨p, 0, none⟩) 8 8] w fun e w' => w' = w ∧
      ((8 ≤ len ∧ xs.take 8 = hj ∧ ∃ A c, e = .returned (.tuple #[.slice A (len - 8) c, .bool true]) ∧ (8 < len → A = some ⟨b, off + 8, none⟩ ∧ c = cap - 8)) ∨
        (¬(8 ≤ len ∧ xs.take 8 = hj) ∧ ∃ v, e = .returned (.tuple #[v, .bool false]))) := by
  by_cases h8 : 8 ≤ len
  · have h8i : (8 : Int) ≤ (len : Int) := by omega
    have e1 := run_convert_bytes_arg (P := Tryz.prog) w 22 5 Tryz.underlying22 Tryz.underlying5 b off 8 cap (xs.take 8) (by rw [List.length_take]; omega) (fun i hi => by
      rw [hcell i (by omega)]
      congr 2
      simp [List.getD, List.getElem?_take, hi])
    have e2 := run_convert_bytes_arg (P := Tryz.prog) w 22 5 Tryz.underlying22 Tryz.underlying5 p 0 8 8 hj rfl hpre; have f1 := e1 _ Tryz.underlying9; have f2 := e2 _ Tryz.underlying9; clear e1 e2
    by_cases hp : xs.take 8 = hj
    · rw [hp] at f1
      go_enter Tryz.func30, Tryz.ntmps30
      go_wp2
      · go_ret2
        exact ⟨rfl, _, _, rfl, fun h => absurd h (by omega)⟩
      · go_ret2
        exact ⟨rfl, _, _, rfl, fun h => ⟨rfl, rfl⟩⟩
    · have hne : ((strOfNums (xs.take 8)).toList == (strOfNums hj).toList) = false := by
        rw [Go.ByteArray.toList_eq, Go.ByteArray.toList_eq]; refine beq_eq_false_iff_ne.2 fun h => hp ?_
        refine jer (fun x hx' => hx x (List.mem_of_mem_take hx')) (by decide) ?_; exact ByteArray.ext (Array.toList_inj.1 h)
      go_enter Tryz.func30, Tryz.ntmps30
      go_wp2
      go_ret2
      exact ⟨rfl, .inr ⟨fun h => hp h.2, _, rfl⟩⟩
  · have h8i : (len : Int) < 8 := by omega
    go_enter Tryz.func30, Tryz.ntmps30
    go_wp2
    go_ret2
    exact ⟨rfl, _, rfl⟩
end
end
section
section
open Go.RowKit Go.Shelf
attribute [local go_sem] Oper.semAt_some
theorem jaa {w : World} {b o : Nat} {cs : Array Value} {t : TypeId} {fr : Nat × Nat} {v : Value} (h : w.heap[b]? = some (.cells cs t fr)) (hv : cs[o]? = some v) : w.cell? ⟨b, o, none⟩ = some v := by
  unfold World.cell?; simp only [h]; exact hv
theorem jab {w : World} {b o : Nat} {cs : Array Value} {t : TypeId} (h : w.heap[b]? = some (.cells cs t (0, 0))) : w.frozen? ⟨b, o, none⟩ = false := by
  unfold World.frozen?; simp [h]
theorem jbv (w : World) (o p : Obj) : ((w.alloc o).alloc p).heap[w.heap.size + 1]? = some p := by
  have := World.alloc_heap_new (w.alloc o) p
  rwa [World.size_alloc] at this
theorem jb4 (w : World) (o p : Obj) : ((w.alloc o).alloc p).heap[w.heap.size]? = some o := (Below.heap_alloc _ _ _ (by rw [World.size_alloc]; omega)).trans (World.alloc_heap_new w o)
theorem actOf {F : Fence} {n : Nat} {P : Program} {c : Code} {Q : Exit → Act → World → Prop} {a : Act} {w : World} (h : ∀ a0, a0 = a → c.wpIn F n P Q a0 w) : c.wpIn F n P Q a w := h a rfl
theorem jnd {W : World} {a : Addr} {v : Value} (h : W.cell? a = some v) : a.block < W.heap.size := by
  rcases Nat.lt_or_ge a.block W.heap.size with h' | h'
  · exact h'
  · simp [World.cell?, Array.getElem?_eq_none h'] at h
def accN (l : List (Nat × Int)) : Int := l.foldl (fun n x => stp n x.2) 0
theorem jes (l : List (Nat × Int)) (x : Nat × Int) : accN (l ++ [x]) = stp (accN l) x.2 := by simp [accN]
theorem jjl (c : Nat → Int) (a : Nat) (zs : List Int) (hz : ∀ j, j < 8 → zs.getD j 0 = c (a + j)) : ∀ k, k ≤ 8 → accN (upto (bk zs 8) k) = g8 c a k
  | 0, _ => rfl
  | k + 1, hk => by
    rw [jeq, jes, jjl c a zs hz k (by omega)]
    show stp _ (zs.getD (8 - 1 - k) 0) = stp _ (c (a + (7 - k)))
    rw [hz _ (by omega)]
theorem je8 {w : World} {a b : Addr} {v : Value} (h : a ≠ b) : (w.setCell a v).cell? b = w.cell? b := by first | exact World.cell?_setCell_other h | exact World.cell?_setCell_other _ h | exact World.cell?_setCell_other _ _ _ _ h | exact World.cell?_setCell_other _ _ _ h
def RdI (Ds : List Nat) (numj : Nat → Int) (w1 : World) (N Bi k : Nat) (pre : List (Nat × Int)) (W : World) : Prop :=
  ((∀ j, j < 5 → W.cell? ⟨N, j, none⟩ = some (.int .u64 (if j < k then numj j else if j = k then accN pre else 0)) ∧ W.frozen? ⟨N, j, none⟩ = false) ∧ W.cell? ⟨Bi, 0, none⟩ = some (.int .i64 (k : Int))) ∧ Below N w1 W ∧ ∀ D ∈ Ds, W.heap[D]? = some (.deferred (some []))
theorem jne {Ds : List Nat} {numj : Nat → Int} {w1 W : World} {N Bi b k : Nat} {pre : List (Nat × Int)} {x : Nat × Int} {D : Nat} (h : RdI Ds numj w1 N Bi k pre W) (hk : k < 5) (h1 : N < Bi) (h2 : b < N) (h3 : ∀ D ∈ Ds, N < D) :
    KeepsFrom D W (W.setCell ⟨N, k, none⟩ (.int .u64 (stp (accN pre) x.2))).drew ∧ KeepTwo (Bi + 1) b W (W.setCell ⟨N, k, none⟩ (.int .u64 (stp (accN pre) x.2))).drew ∧ RdI Ds numj w1 N Bi k (pre ++ [x]) (W.setCell ⟨N, k, none⟩ (.int .u64 (stp (accN pre) x.2))).drew := by
  obtain ⟨⟨hcs, hci⟩, hB, hds⟩ := h; refine ⟨((KeepsOthers.setCell _ _ _).trans (KeepsOthers.drew _)).from _, ⟨Below.heap_setCell _ _ _ _ (show Bi + 1 ≠ N by omega), Below.heap_setCell _ _ _ _ (show b ≠ N by omega)⟩, ⟨fun j hj => ⟨?_, ?_⟩, ?_⟩, ?_, fun D hD => ?_⟩
  · show (W.setCell ⟨N, k, none⟩ (.int .u64 (stp (accN pre) x.2))).cell? ⟨N, j, none⟩ = _
    by_cases e : j = k
    · subst e
      rw [World.cell?_setCell_same' _ _ _ (by rw [(hcs j hj).1]; rfl), if_neg (by omega), if_pos rfl, jes]
    · rw [je8 (show (⟨N, k, none⟩ : Addr) ≠ ⟨N, j, none⟩ by intro h; injection h with _ h3 _; exact e h3.symm), (hcs j hj).1, if_neg e, if_neg e]
  · show (W.setCell ⟨N, k, none⟩ (.int .u64 (stp (accN pre) x.2))).frozen? ⟨N, j, none⟩ = false
    rw [World.frozen?_setCell]; exact (hcs j hj).2
  · show (W.setCell ⟨N, k, none⟩ (.int .u64 (stp (accN pre) x.2))).cell? ⟨Bi, 0, none⟩ = _
    rw [je8 (show (⟨N, k, none⟩ : Addr) ≠ ⟨Bi, 0, none⟩ by intro h; injection h with h3 _ _; omega)]; exact hci
  · exact (hB.setCell (p := ⟨N, k, none⟩) (Nat.le_refl _) _).drew
  · have := h3 D hD
    exact (Below.heap_setCell _ _ _ _ (show D ≠ N by omega)).trans (hds D hD)
theorem ownDs {β : Type} {B : Nat} {Ds : List Nat} (h : ∀ D ∈ Ds, D < B) : OwnFrom B (fun (_ : β) W => ∀ D ∈ Ds, W.heap[D]? = some (.deferred (some []))) :=
  fun s A C row hs hg hr D hD => (hg.block D (Array.getElem?_eq_some_iff.1 (hs D hD)).1 (fun e => by have h1 := (hr D e.symm).1; have h2 := h D hD; omega)).trans (hs D hD)
theorem jcd {F : Fence} {n : Nat} {P : Program} {fn : Func} {tmps : Array Value} {R : Ending → World → Prop} {N : Nat} : ∀ (Ds : List Nat) (W : World), (∀ D ∈ Ds, N < D ∧ W.heap[D]? = some (.deferred (some []))) → Ds.Nodup →
    (∀ W', Below N W W' → ∃ v, (results fn tmps).run P W' = .ok v W' ∧ R (.returned v) W') → LeavesInM F n P fn tmps R (Ds.map (fun D => { target := .collected D, args := #[] })) .returning W
  | [], W, _, _, h => h W (Below.refl _ _)
  | D :: Ds, W, hD, hnd, h => by
    have hK := (hD D List.mem_cons_self).2; have hB : Below N W (W.putObj D (.deferred none)) := (Below.refl N W).grown (grownBy_putObj' W D _) (by have := (Array.getElem?_eq_some_iff.1 hK).1; have := (hD D List.mem_cons_self).1; omega) (fun k e => by cases e; exact Nat.le_of_lt (hD D List.mem_cons_self).1); refine ⟨by simp, .inl ⟨_, _, rfl, run_takeDeferred hK, ?_⟩⟩; refine jcd Ds _ (fun D' hD' => ⟨(hD D' (List.mem_cons_of_mem _ hD')).1, ?_⟩) (List.nodup_cons.1 hnd).2 fun W' hW' => h W' (hB.trans hW')
    have hne : D' ≠ D := fun e => (List.nodup_cons.1 hnd).1 (e ▸ hD')
    have h2 := (hD D' (List.mem_cons_of_mem _ hD')).2; exact ((grownBy_putObj' W D (.deferred none)).block D' (Array.getElem?_eq_some_iff.1 h2).1 (fun e => hne (Option.some.inj e))).trans h2
def numJ (xs : List Int) (j : Nat) : Int := g8 (fun i => xs.getD i 0) (8 + 8 * j) 8
def jobC : Array Value := #[.int .i64 0, .int .i64 0, .int .u64 0, .int .u64 0, .int .i64 0]
def preC : Array Value := #[.int .u8 72, .int .u8 65, .int .u8 73, .int .u8 82, .int .u8 74, .int .u8 79, .int .u8 66, .int .u8 49]
theorem jbw {w : World} {b o : Nat} {cs : Array Value} {t : TypeId} {fr : Nat × Nat} {v : Value} (h : w.heap[b]? = some (.cells cs t fr)) : (w.setCell ⟨b, o, none⟩ v).heap[b]? = some (.cells (cs.setIfInBounds o v) t fr) := by
  simp [World.setCell, Array.getElem?_modify, h]
theorem jet {w : World} {b : Nat} {c0 c1 c2 c3 c4 v0 v1 v2 v3 v4 : Value} {t : TypeId} {fr : Nat × Nat} (h : w.heap[b]? = some (.cells #[c0, c1, c2, c3, c4] t fr)) :
    (((((w.setCell ⟨b, 0, none⟩ v0).setCell ⟨b, 1, none⟩ v1).setCell ⟨b, 2, none⟩ v2).setCell ⟨b, 3, none⟩ v3).setCell ⟨b, 4, none⟩ v4).heap[b]? = some (.cells #[v0, v1, v2, v3, v4] t fr) ∧
      ∀ k, k ≠ b → (((((w.setCell ⟨b, 0, none⟩ v0).setCell ⟨b, 1, none⟩ v1).setCell ⟨b, 2, none⟩ v2).setCell ⟨b, 3, none⟩ v3).setCell ⟨b, 4, none⟩ v4).heap[k]? = w.heap[k]? := by
  refine ⟨(jbw (jbw (jbw (jbw (jbw h))))).trans rfl, fun k hk => ?_⟩; rw [Below.heap_setCell _ _ _ _ hk, Below.heap_setCell _ _ _ _ hk, Below.heap_setCell _ _ _ _ hk, Below.heap_setCell _ _ _ _ hk, Below.heap_setCell _ _ _ _ hk]
theorem je9 {w W : World} {B b : Nat} {v0 v1 v2 v3 v4 : Value} (h : Below B w W) (hb : B ≤ b) : Below B w (((((W.setCell ⟨b, 0, none⟩ v0).setCell ⟨b, 1, none⟩ v1).setCell ⟨b, 2, none⟩ v2).setCell ⟨b, 3, none⟩ v3).setCell ⟨b, 4, none⟩ v4) :=
  ((((h.setCell (p := ⟨b, 0, none⟩) hb _).setCell (p := ⟨b, 1, none⟩) hb _).setCell (p := ⟨b, 2, none⟩) hb _).setCell (p := ⟨b, 3, none⟩) hb _).setCell (p := ⟨b, 4, none⟩) hb _
def rdOut (xs : List Int) : Value :=
  if numJ xs 0 ≤ 65535 ∧ numJ xs 1 ≤ 65535 ∧ numJ xs 4 ≤ 65535 then .tuple #[.agg #[.int .i64 (wrap64 (numJ xs 0)), .int .i64 (wrap64 (wrap64 (numJ xs 1) + -64)), .int .u64 (numJ xs 2), .int .u64 (numJ xs 3), .int .i64 (wrap64 (numJ xs 4))], .int .i64 0]
  else .tuple #[.agg jobC, .int .i64 7]
end
end
end Go.Proofs.YtnkihnggghfioaaGreat
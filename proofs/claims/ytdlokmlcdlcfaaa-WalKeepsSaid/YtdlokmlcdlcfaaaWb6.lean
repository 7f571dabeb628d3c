/- wal: goes, Room, Append. -/
import Derived.Test.YtdlokmlcdlcfaaaWb5
set_option linter.unusedVariables false
set_option linter.unusedSimpArgs false
namespace Go.Proofs.Ytdlokmlcdlcfaaa
open Go.RowKit Go.MapKept Go.Shelf
def jrow (D : Nat) (a en : Int) (ep nx : Nat) (br : Bool) : Array Value := #[.pointer (some ⟨D, 0, none⟩), .int .i64 a, .int .i64 en, .int .i64 (ep : Int), .int .i64 (nx : Int), .bool br]
structure Jr (w0 w : World) (D J : Nat) (F : Nat → Prop) (d : DS) (a en : Int) (ep nx : Nat) (br : Bool) : Prop where
  own : Own w0 w D F d
  box : w.heap[J]? = some (.cells (jrow D a en ep nx br) 85)
  nF : ¬F J
  ge : w0.heap.size ≤ J
section
variable {w0 w w' : World} {D J : Nat} {F : Nat → Prop} {d d' : DS} {a en : Int} {ep nx : Nat} {br : Bool}
theorem Jr.lt (h : Jr w0 w D J F d a en ep nx br) : J < w.heap.size := (Array.getElem?_eq_some_iff.1 h.box).1
theorem Jr.cells (h : Jr w0 w D J F d a en ep nx br) : w.cell? ⟨J, 0, none⟩ = some (.pointer (some ⟨D, 0, none⟩)) ∧ w.cell? ⟨J, 1, none⟩ = some (.int .i64 a) ∧ w.cell? ⟨J, 2, none⟩ = some (.int .i64 en) ∧ w.cell? ⟨J, 3, none⟩ = some (.int .i64 (ep : Int)) ∧ w.cell? ⟨J, 4, none⟩ = some (.int .i64 (nx : Int)) ∧ w.cell? ⟨J, 5, none⟩ = some (.bool br) :=
  ⟨cell_of_row w J 0 _ _ _ h.box, cell_of_row w J 1 _ _ _ h.box, cell_of_row w J 2 _ _ _ h.box, cell_of_row w J 3 _ _ _ h.box, cell_of_row w J 4 _ _ _ h.box, cell_of_row w J 5 _ _ _ h.box⟩
theorem Jr.over (h : Jr w0 w D J F d a en ep nx br) (hb : Below w.heap.size w w') : Jr w0 w' D J F d a en ep nx br :=
  ⟨h.own.over hb, (hb.block J h.lt).trans h.box, h.nF, h.ge⟩
/-- A step of the disk. -/
theorem Jr.step (h : Jr w0 w D J F d a en ep nx br) {G : Nat → Prop} (h1 : Own w0 w' D G d') (h2 : Chg F w w') (h3 : ∀ k, G k → F k ∨ w.heap.size ≤ k) : Jr w0 w' D J G d' a en ep nx br :=
  ⟨h1, (h2.block J h.lt h.nF).trans h.box, fun hg => (h3 J hg).elim h.nF fun h4 => by have := h.lt; omega, h.ge⟩
/-- Its box is written. -/
theorem Jr.set (h : Jr w0 w D J F d a en ep nx br) {a' : Int} {nx' : Nat} {br' : Bool} (o : Nat) (v : Value) (he : (jrow D a en ep nx br).setIfInBounds o v = jrow D a' en ep nx' br') : Jr w0 (w.setCell ⟨J, o, none⟩ v) D J F d a' en ep nx' br' := by
  refine ⟨⟨h.own.disk.apart (only_set.chg (F := fun k => k = J) rfl) (fun k hk e => h.nF (e ▸ hk)), h.own.ge, h.own.below.setCell h.ge v⟩, ?_, h.nF, h.ge⟩
  have := box_set (o := o) (v := v) h.box
  rw [he] at this
  exact this
end
/-- What a call leaves of a journal. -/
def JrL (w0 w : World) (D J : Nat) (F : Nat → Prop) (d : DS) (a en : Int) (ep nx : Nat) (br : Bool) (w' : World) : Prop :=
  ∃ G, Jr w0 w' D J G d a en ep nx br ∧ Chg (fun k => F k ∨ k = J) w w' ∧ ∀ k, G k → F k ∨ w.heap.size ≤ k
set_option maxRecDepth 100000 in
set_option maxHeartbeats 4000000 in
theorem room_calls {w0 w : World} {D J : Nat} {F : Nat → Prop} {d : DS} {a en : Int} {ep nx : Nat} {br : Bool} (h : Jr w0 w D J F d a en ep nx br) (ha : -1000000 ≤ a ∧ a ≤ 1000000) (he : -1000000 ≤ en ∧ en ≤ 1000000) :
    Calls Try.prog 26 #[.pointer (some ⟨J, 0, none⟩)] w fun e w' => e = .returned (.int .i64 (en - a)) ∧ w' = w.drew := by
  obtain ⟨c0, c1, c2, c3, c4, c5⟩ := h.cells
  go_enter Try.func26, Try.ntmps26
  go_wp2_with fail
  go_region
  go_wp2_with fail
  go_ret
  exact ⟨rfl, rfl⟩
set_option maxRecDepth 100000 in
set_option maxHeartbeats 4000000 in
theorem goes_calls {w0 w : World} {D J : Nat} {F : Nat → Prop} {d : DS} {a en : Int} {ep nx : Nat} {br : Bool} (h : Jr w0 w D J F d a en ep nx br) (ha : -1000000 ≤ a ∧ a ≤ 1000000) (hx : nx ≤ 1000000) (n : Nat) (hn : n ≤ 1000000) :
    Calls Try.prog 42 #[.pointer (some ⟨J, 0, none⟩), .int .i64 (n : Int)] w fun e w' => e = .returned (.tuple #[]) ∧ Jr w0 w' D J F d (a + 1 + secs n) en ep (nx + 1) br ∧ Only J w w' := by
  obtain ⟨c0, c1, c2, c3, c4, c5⟩ := h.cells
  have hsc := fun w => sectors_calls w n (by omega)
  rw [show (n + 511) / 512 = secs n from rfl] at hsc
  have hs2 : secs n ≤ 2000 := by unfold secs; omega
  obtain ⟨s, hs⟩ : ∃ s, secs n = s := ⟨_, rfl⟩
  rw [hs] at hsc hs2 ⊢
  clear hs
  have z1 := frozen_row h.box 1
  have z4 := frozen_row h.box 4
  go_enter Try.func42, Try.ntmps42
  go_wp2_with fail
  refine wp_region_still_tail 10 (by kernel_rfl) (by kernel_rfl) ?_
  simp only [List.take_succ_cons, List.take_zero, List.drop_succ_cons, List.drop_zero]
  change wpStill _ _ (World.drew _) _ _ _
  iterate 5 still_step
  still_call (hsc _)
  iterate 4 still_step
  refine wpStill_nil ?_
  change wpList _ _ _ _ _ (World.drew _)
  go_wp2_with fail
  go_end0
  refine ⟨rfl, ?_, ?_⟩
  · have h1 := h.set (a' := a + 1 + s) (nx' := nx) (br' := br) 1 (.int .i64 (a + (1 + (s : Int)))) (by rw [← Int.add_assoc]; rfl)
    have h2 := h1.set (a' := a + 1 + s) (nx' := nx + 1) (br' := br) 4 (.int .i64 ((nx : Int) + 1)) rfl
    exact h2.over ((Below.refl _ _).drew)
  · have := (only_set (w := w) (b := J) (o := 1) (v := .int .i64 (a + (1 + (s : Int))))).trans (only_set (o := 4) (v := .int .i64 ((nx : Int) + 1)))
    exact ⟨this.os, this.tape, this.output, this.size, this.block⟩
/-- The letters of a journal's head. -/
def jrnl : List UInt8 := [74, 82, 78, 76]
namespace DS
def app1 (d : DS) (a : Int) (b : List UInt8) : Int × DS := d.puts (a + 1) b
def app2 (d : DS) (a en : Int) (b : List UInt8) : Int × DS := if (d.app1 a b).1 = 0 ∧ a + 1 + secs b.length < en then (d.app1 a b).2.write (a + 1 + secs b.length) [] else d.app1 a b
def app3 (d : DS) (a en : Int) (b : List UInt8) : Int × DS := if (d.app2 a en b).1 = 0 then (d.app2 a en b).2.barrier else d.app2 a en b
def app (d : DS) (a en : Int) (ep nx : Nat) (b : List UInt8) : Int × DS := if (d.app3 a en b).1 = 0 then (d.app3 a en b).2.firmly a (headS jrnl ep nx b) else d.app3 a en b
theorem puts_len (d : DS) (a : Int) (l : List UInt8) : (d.puts a l).2.loose.length ≤ d.loose.length + secs l.length ∧ (d.puts a l).2.keep.length ≤ d.keep.length := putK_len d a l _
theorem firmly_len (d : DS) (a : Int) (l : List UInt8) : (d.firmly a l).2.loose.length ≤ d.loose.length + secs l.length ∧ (d.firmly a l).2.keep.length ≤ d.keep.length := by
  have h1 := puts_len d a l
  unfold firmly
  split
  · have h2 := barrier_len2 (d.puts a l).2
    omega
  · exact h1
theorem app2_len (d : DS) (a en : Int) (b : List UInt8) : (d.app2 a en b).2.loose.length ≤ d.loose.length + secs b.length + 1 ∧ (d.app2 a en b).2.keep.length ≤ d.keep.length := by
  have h1 := puts_len d (a + 1) b
  unfold app2 app1
  split
  · have h2 := write_len2 (d.puts (a + 1) b).2 (a + 1 + secs b.length) []
    omega
  · omega
theorem app3_len (d : DS) (a en : Int) (b : List UInt8) : (d.app3 a en b).2.loose.length ≤ d.loose.length + secs b.length + 1 ∧ (d.app3 a en b).2.keep.length ≤ d.keep.length := by
  have h1 := app2_len d a en b
  unfold app3
  split
  · have h2 := barrier_len2 (d.app2 a en b).2
    omega
  · exact h1
end DS
theorem JrL.step {w0 w W W' : World} {D J : Nat} {F G G' : Nat → Prop} {d d' : DS} {a en : Int} {ep nx : Nat} {br : Bool} (hj : Jr w0 W D J G d a en ep nx br) (hC : Chg (fun k => F k ∨ k = J) w W) (hG : ∀ k, G k → F k ∨ w.heap.size ≤ k)
    (h1 : Own w0 W' D G' d') (h2 : Chg G W W') (h3 : ∀ k, G' k → G k ∨ W.heap.size ≤ k) : JrL w0 w D J F d' a en ep nx br W' :=
  ⟨G', hj.step h1 h2 h3, hC.step h2 fun q hq => (hG q hq).elim (fun h => .inl (.inl h)) .inr, grow_step hC.size hG h3⟩
theorem JrL.over {w0 w W W' : World} {D J : Nat} {F : Nat → Prop} {d : DS} {a en : Int} {ep nx : Nat} {br : Bool} (h : JrL w0 w D J F d a en ep nx br W) (hb : Below W.heap.size W W') : JrL w0 w D J F d a en ep nx br W' := by
  obtain ⟨G, h1, h2, h3⟩ := h
  exact ⟨G, h1.over hb, h2.trans (Chg.of_below hb), h3⟩
set_option maxRecDepth 100000 in
set_option maxHeartbeats 4000000 in
theorem append_calls {w0 w : World} {D J : Nat} {F : Nat → Prop} {d : DS} {a en : Int} {ep nx : Nat} (h : Jr w0 w D J F d a en ep nx false) (hf : d.loose.length ≤ 700000) (hk : d.keep.length ≤ 140737488355328) (ha : 0 ≤ a ∧ a ≤ 100000) (he : en ≤ 100000) (hx : nx ≤ 1000000) (hep : ep ≤ 1000000) (v : Value) (b : List UInt8) (hv : Sl w v (cel b)) (hvF : 0 < b.length → ∀ q, v.ownBlock = some q → ¬F q ∧ q ≠ J) (hl : b.length ≤ 2048) (hr : 1 + (secs b.length : Int) ≤ en - a) :
    Calls Try.prog 25 #[.pointer (some ⟨J, 0, none⟩), v] w fun e w' => e = .returned (.int .i64 (d.app a en ep nx b).1) ∧
      ((d.app a en ep nx b).1 = 0 → JrL w0 w D J F (d.app a en ep nx b).2 (a + 1 + secs b.length) en ep (nx + 1) false w') ∧ ((d.app a en ep nx b).1 ≠ 0 → JrL w0 w D J F (d.app a en ep nx b).2 a en ep nx true w') := by
  obtain ⟨A, c, hv', hc1, -, -, -⟩ := id hv
  obtain ⟨m, hm⟩ : ∃ m, b.length = m := ⟨_, rfl⟩
  rw [cel_length, hm] at hv'
  subst hv'
  have hsc := fun w => sectors_calls w b.length (by omega)
  have hs2 : secs b.length ≤ 2000 := by unfold secs; omega
  have L1 := DS.puts_len d (a + 1) b
  have L2 := DS.app2_len d a en b
  have L3 := DS.app3_len d a en b
  rw [show (b.length + 511) / 512 = secs b.length from rfl] at hsc
  obtain ⟨s, hs⟩ : ∃ s, secs b.length = s := ⟨_, rfl⟩
  rw [hs] at hsc hs2 hr L1 L2 L3 ⊢
  rw [hm] at hsc hl
  have hmi : (m : Int) ≤ 2048 := by omega
  have w1 : IntKind.i64.wrap (en - a) = en - a := IntWalk.i64_in _ (by omega)
  have w2 : IntKind.i64.wrap (1 + (s : Int)) = 1 + (s : Int) := IntWalk.i64_in _ (by omega)
  have w3 : ¬en - a < 1 + (s : Int) := by omega
  have hd := h.over ((Below.refl _ w).drew)
  obtain ⟨c0, c1, c2, c3, c4, c5⟩ := h.cells
  have hvd : Sl w.drew (.slice A m c) (cel b) := hv
  obtain ⟨p1, hp1⟩ : ∃ p1, d.app1 a b = p1 := ⟨_, rfl⟩
  obtain ⟨p2, hp2⟩ : ∃ p2, d.app2 a en b = p2 := ⟨_, rfl⟩
  obtain ⟨p3, hp3⟩ : ∃ p3, d.app3 a en b = p3 := ⟨_, rfl⟩
  obtain ⟨p4, hp4⟩ : ∃ p4, d.app a en ep nx b = p4 := ⟨_, rfl⟩
  have E2 : p2 = if p1.1 = 0 ∧ a + 1 + s < en then p1.2.write (a + 1 + s) [] else p1 := by rw [← hp2, ← hp1, ← hs]; rfl
  have E3 : p3 = if p2.1 = 0 then p2.2.barrier else p2 := by rw [← hp3, ← hp2]; rfl
  have E4 : p4 = if p3.1 = 0 then p3.2.firmly a (headS jrnl ep nx b) else p3 := by rw [← hp4, ← hp3]; rfl
  rw [hp4]
  have hpp : d.puts (a + 1) b = p1 := hp1
  rw [hpp] at L1
  rw [hp2] at L2
  rw [hp3] at L3
  clear hp1 hp2 hp3 hp4
  go_enter Try.func25, Try.ntmps25
  go_wp2_with fail
  go_region_held3 (fun w' => w' = w.drew) (rfl) (first
    | (go_at_call 43; refine (hsc _).mono ?_; rintro e w5 ⟨rfl, e5⟩; subst e5))
  go_wp2_with fail
  clear c0 c1 c2 c3 c4 c5
  obtain ⟨W, hW⟩ : ∃ W, w.drew = W := ⟨_, rfl⟩
  have hCW : Chg (fun k => F k ∨ k = J) w W := by rw [← hW]; exact Chg.of_below ((Below.refl _ w).drew)
  have hsW : w.heap.size = W.heap.size := by rw [← hW]; rfl
  rw [hW] at hd hvd ⊢
  clear hW h
  have hdd := hd.over ((Below.refl _ W).drew)
  obtain ⟨c0, c1, c2, c3, c4, c5⟩ := hd.cells
  have hp := put_calls hdd.own (by omega) hk (a + 1) (by omega) _ b (show Sl W.drew _ _ from hvd) (fun h0 q hq => (hvF h0 q hq).1) (by omega)
  rw [hpp] at hp
  have a1 : IntKind.i64.wrap (a + 1) = a + 1 := IntWalk.i64_in _ (by omega)
  go_region_held3 (fun w' => w'.cell? ⟨J, 0, none⟩ = some (.pointer (some ⟨D, 0, none⟩)) ∧ w'.cell? ⟨J, 1, none⟩ = some (.int .i64 a)) (go_keep) (first
    | (go_at_call 44; (refine hp.mono ?_); rintro e w5 ⟨rfl, G1, g1, g2, g3⟩
       have hj1 := hdd.step g1 g2 g3
       obtain ⟨d0, d1, d2, d3, d4, d5⟩ := hj1.cells))
  go_wp2_with fail
  have hJ1 : JrL w0 w D J F p1.2 a en ep nx false w5.drew := (JrL.step hdd (hCW.trans (Chg.of_below ((Below.refl _ W).drew))) (fun k hk => .inl hk) g1 g2 g3).over ((Below.refl _ w5).drew)
  have a2 : IntKind.i64.wrap (a + 1 + (s : Int)) = a + 1 + (s : Int) := IntWalk.i64_in _ (by omega)
  clear g1 g2 g3 hd hdd c0 c1 c2 c3 c4 c5 hp
  go_region_held3 (fun w' => w' = w5.drew) (rfl) (first
    | (go_at_call 43; refine (hsc _).mono ?_; rintro e w6 ⟨rfl, e6⟩; subst e6))
  go_upto_region 9 with (fail)
  obtain ⟨V, hV⟩ : ∃ V, w5.drew = V := ⟨_, rfl⟩
  rw [hV] at hJ1 ⊢
  clear hV
  obtain ⟨tst, htst⟩ : ∃ tst, decide (p1.1 = 0 ∧ a + 1 + (s : Int) < en) = tst := ⟨_, rfl⟩
  have HT := hideK htst
  have HE2 := hideK E2
  have HE3 := hideK E3
  have HE4 := hideK E4
  clear E2 E3 E4
  go_cut [60] (fun x wx => x = .bool tst ∧ wx = V)
  case first =>
    obtain ⟨G, hj, -, -⟩ := hJ1
    obtain ⟨c0, c1, c2, c3, c4, c5⟩ := hj.cells
    clear hj htst
    by_cases h0 : p1.1 = 0
    · have h0b : (p1.1 == 0) = true := by simpa using h0
      have H0 := hideK h0
      clear h0
      by_cases h1 : a + 1 + (s : Int) < en
      · go_wp2_with fail
        go_meet
        exact ⟨by rw [← HT.out]; simp [H0.out, h1], rfl⟩
      · go_wp2_with fail
        go_meet
        exact ⟨by rw [← HT.out]; simp [H0.out, h1], rfl⟩
    · have h0b : (p1.1 == 0) = false := by simpa using h0
      have H0 := hideK h0
      clear h0
      go_wp2_with fail
      go_meet
      exact ⟨by rw [← HT.out]; simp [H0.out], rfl⟩
  case rest =>
    obtain ⟨rfl, rfl⟩ := hcut
    go_upto_if 60 with (fail)
    go_cut [5] (fun x wx => x = .int .i64 p2.1 ∧ JrL w0 w D J F p2.2 a en ep nx false wx)
    case first =>
      obtain ⟨G, hj, j2, j3⟩ := hJ1
      obtain ⟨c0, c1, c2, c3, c4, c5⟩ := hj.cells
      cases tst with
      | true =>
        have ht : p1.1 = 0 ∧ a + 1 + (s : Int) < en := by simpa using HT.out
        have hp2 : p2 = p1.2.write (a + 1 + s) [] := by rw [HE2.out, if_pos ht]
        have hwr := own_write hj.own ⟨by omega, by omega⟩ (a + 1 + s) (.slice none 0 0) [] (Sl.nil _) (fun b hb => (by cases hb)) (by decide)
        rw [← hp2] at hwr
        clear ht hp2
        go_wp2_with fail
        refine hwr.mono ?_
        rintro e w6 ⟨rfl, G1, g1, g2, g3⟩
        go_wp2_with fail
        go_meet
        exact ⟨rfl, JrL.step hj j2 j3 g1 g2 g3⟩
      | false =>
        have ht : ¬(p1.1 = 0 ∧ a + 1 + (s : Int) < en) := by simpa using HT.out
        have hp2 : p2 = p1 := by rw [HE2.out, if_neg ht]
        have HP := hideK hp2
        clear ht hp2
        go_wp2_with fail
        go_meet
        exact ⟨by rw [HP.out], by rw [HP.out]; exact ⟨G, hj, j2, j3⟩⟩
    case rest =>
      obtain ⟨rfl, hJ2⟩ := hcut
      clear hJ1 HT HE2
      go_upto_if 68 with (fail)
      go_cut [5] (fun x wx => x = .int .i64 p3.1 ∧ JrL w0 w D J F p3.2 a en ep nx false wx)
      case first =>
        obtain ⟨G, hj, j2, j3⟩ := hJ2
        obtain ⟨c0, c1, c2, c3, c4, c5⟩ := hj.cells
        by_cases h0 : p2.1 = 0
        · have h0b : (p2.1 == 0) = true := by simpa using h0
          have hp3 : p3 = p2.2.barrier := by rw [HE3.out, if_pos h0]
          have hwr := own_barrier hj.own ⟨by omega, by omega⟩
          rw [← hp3] at hwr
          clear hp3 h0
          go_wp2_with fail
          refine hwr.mono ?_
          rintro e w6 ⟨rfl, G1, g1, g2, g3⟩
          go_wp2_with fail
          go_meet
          exact ⟨rfl, JrL.step hj j2 j3 g1 g2 g3⟩
        · have h0b : (p2.1 == 0) = false := by simpa using h0
          have HP := hideK (show p3 = p2 by rw [HE3.out, if_neg h0])
          clear h0
          go_wp2_with fail
          go_meet
          exact ⟨by rw [HP.out], by rw [HP.out]; exact ⟨G, hj, j2, j3⟩⟩
      case rest =>
        obtain ⟨rfl, hJ3⟩ := hcut
        clear hJ2 HE3
        go_upto_if 75 with (fail)
        go_cut [5] (fun x wx => x = .int .i64 p4.1 ∧ JrL w0 w D J F p4.2 a en ep nx false wx)
        case first =>
          obtain ⟨G, hj, j2, j3⟩ := hJ3
          obtain ⟨c0, c1, c2, c3, c4, c5⟩ := hj.cells
          by_cases h0 : p3.1 = 0
          · have h0b : (p3.1 == 0) = true := by simpa using h0
            have hp4 : p4 = p3.2.firmly a (headS jrnl ep nx b) := by rw [HE4.out, if_pos h0]
            have HP4 := hideK hp4
            clear h0 hp4
            have hvc : Sl wc.drew (.slice A m c) (cel b) := hv.chg (w1 := wc.drew) (j2.trans (Chg.of_below ((Below.refl _ wc).drew))) fun h0 q hq hF => by
              rw [cel_length] at h0
              exact hF.elim (hvF h0 q hq).1 (hvF h0 q hq).2
            have hhd := head_calls wc.drew jrnl (by decide) ep nx (by omega) (by omega) _ b hvc (by omega)
            rw [show bstr jrnl = ⟨#[74, 82, 78, 76]⟩ from rfl] at hhd
            have hjd := hj.over ((Below.refl _ wc).drew)
            have j2d := j2.trans (Chg.of_below ((Below.refl _ wc).drew))
            have hhl : (headS jrnl ep nx b).length = 36 := by unfold headS; rw [List.length_append, hdk_len, num8_len]; rfl
            clear hv hvd hj
            go_wp2_with fail
            go_region_held3 (fun w' => w'.cell? ⟨J, 0, none⟩ = some (.pointer (some ⟨D, 0, none⟩)) ∧ w'.cell? ⟨J, 1, none⟩ = some (.int .i64 a) ∧ w'.cell? ⟨J, 3, none⟩ = some (.int .i64 (ep : Int)) ∧ w'.cell? ⟨J, 4, none⟩ = some (.int .i64 (nx : Int))) (go_keep) (first
              | (go_at_call 46; (refine hhd.mono ?_); rintro e w6 ⟨v6, rfl, hm6, hB6, hO6⟩
                 have hj6 := hjd.over hB6
                 have j26 := j2d.trans (Chg.of_below hB6)
                 have hfi := firmly_calls hj6.own (by omega) (by omega) a (by omega) v6 _ hm6.sl (fun h0 q hq hg => by have h1 := hjd.own.disk.lt q hg; have h2 := hO6 q hq; omega) (by omega)
                 rw [← HP4.out] at hfi
                 obtain ⟨d0, d1, d2, d3, d4, d5⟩ := hj6.cells)
              | (go_at_call 45; (refine hfi.mono ?_); rintro e w7 ⟨rfl, G1, g1, g2, g3⟩
                 have hj7 := hj6.step g1 g2 g3
                 obtain ⟨f0, f1, f2, f3, f4, f5⟩ := hj7.cells))
            go_wp2_with fail
            go_meet
            exact ⟨rfl, JrL.step hj6 j26 j3 g1 g2 g3⟩
          · have h0b : (p3.1 == 0) = false := by simpa using h0
            have HP := hideK (show p4 = p3 by rw [HE4.out, if_neg h0])
            clear h0
            go_wp2_with fail
            go_meet
            exact ⟨by rw [HP.out], by rw [HP.out]; exact ⟨G, hj, j2, j3⟩⟩
        case rest =>
          obtain ⟨rfl, hJ4⟩ := hcut
          clear hJ3 HE4
          obtain ⟨G, hj, j2, j3⟩ := hJ4
          obtain ⟨c0, c1, c2, c3, c4, c5⟩ := hj.cells
          have z5 := frozen_row hj.box 5
          by_cases h0 : p4.1 = 0
          · have h0b : (p4.1 == 0) = true := by simpa using h0
            have h0c : (p4.1 != 0) = false := by simp [h0]
            have hj5 := hj.set (a' := a) (nx' := nx) (br' := false) 5 (.bool false) rfl
            have hgo := goes_calls hj5 (by omega) hx m (by omega)
            rw [← hm, hs, hm] at hgo
            have j25 := j2.trans (only_set (w := wc) (b := J) (o := 5) (v := .bool false) |>.chg (F := fun k => F k ∨ k = J) (.inr rfl))
            have H0 := hideK h0
            clear h0
            go_wp2_with fail
            refine hgo.mono ?_
            rintro e w8 ⟨rfl, hj8, hon⟩
            go_wp2_with fail
            go_ret
            exact ⟨rfl, fun _ => ⟨G, hj8, j25.trans (hon.chg (.inr rfl)), j3⟩, fun h => absurd H0.out h⟩
          · have h0b : (p4.1 == 0) = false := by simpa using h0
            have h0c : (p4.1 != 0) = true := by simp [h0]
            have hj5 := hj.set (a' := a) (nx' := nx) (br' := true) 5 (.bool true) rfl
            have j25 := j2.trans (only_set (w := wc) (b := J) (o := 5) (v := .bool true) |>.chg (F := fun k => F k ∨ k = J) (.inr rfl))
            have H0 := hideK h0
            clear h0
            go_wp2_with fail
            go_ret
            exact ⟨rfl, fun h => absurd h H0.out, fun _ => ⟨G, hj5, j25, j3⟩⟩
end Go.Proofs.Ytdlokmlcdlcfaaa

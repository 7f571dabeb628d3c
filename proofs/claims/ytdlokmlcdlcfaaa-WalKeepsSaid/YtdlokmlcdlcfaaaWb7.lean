/- wal: Append that may not be; Open. -/
import Derived.Test.YtdlokmlcdlcfaaaWb6
set_option linter.unusedVariables false
set_option linter.unusedSimpArgs false
namespace Go.Proofs.Ytdlokmlcdlcfaaa
open Go.RowKit Go.MapKept Go.Shelf
set_option maxRecDepth 100000 in
set_option maxHeartbeats 4000000 in
theorem append_broken {w0 w : World} {D J : Nat} {F : Nat → Prop} {d : DS} {a en : Int} {ep nx : Nat} (h : Jr w0 w D J F d a en ep nx true) (A : Option Addr) (m c : Nat) (hl : m ≤ 2048) :
    Calls Try.prog 25 #[.pointer (some ⟨J, 0, none⟩), .slice A m c] w fun e w' => e = .returned (.int .i64 9) ∧ w' = w := by
  have hmi : (m : Int) ≤ 2048 := by omega
  obtain ⟨c0, c1, c2, c3, c4, c5⟩ := h.cells
  go_enter Try.func25, Try.ntmps25
  go_wp2_with fail
  go_ret
  exact ⟨rfl, rfl⟩
set_option maxRecDepth 100000 in
set_option maxHeartbeats 4000000 in
theorem append_full {w0 w : World} {D J : Nat} {F : Nat → Prop} {d : DS} {a en : Int} {ep nx : Nat} (h : Jr w0 w D J F d a en ep nx false) (ha : 0 ≤ a ∧ a ≤ 100000) (he : 0 ≤ en ∧ en ≤ 100000) (A : Option Addr) (m c : Nat) (hl : m ≤ 2048) (hr : en - a < 1 + (secs m : Int)) :
    Calls Try.prog 25 #[.pointer (some ⟨J, 0, none⟩), .slice A m c] w fun e w' => e = .returned (.int .i64 5) ∧ w' = w.drew := by
  have hmi : (m : Int) ≤ 2048 := by omega
  obtain ⟨c0, c1, c2, c3, c4, c5⟩ := h.cells
  have hsc := fun w => sectors_calls w m (by omega)
  have hs2 : secs m ≤ 2000 := by unfold secs; omega
  rw [show (m + 511) / 512 = secs m from rfl] at hsc
  obtain ⟨s, hs⟩ : ∃ s, secs m = s := ⟨_, rfl⟩
  rw [hs] at hsc hs2 hr
  have w1 : IntKind.i64.wrap (en - a) = en - a := IntWalk.i64_in _ (by omega)
  have w2 : IntKind.i64.wrap (1 + (s : Int)) = 1 + (s : Int) := IntWalk.i64_in _ (by omega)
  go_enter Try.func25, Try.ntmps25
  go_wp2_with fail
  go_region_held3 (fun w' => w' = w.drew) (rfl) (first
    | (go_at_call 43; refine (hsc _).mono ?_; rintro e w5 ⟨rfl, e5⟩; subst e5))
  go_wp2_with fail
  go_ret
  exact ⟨rfl, rfl⟩
theorem inf2 : (Try.prog.info? 30).map (fun i => (i.zero, i.size, i.bytes)) = some (some (.slice none 0 0), 1, 24) := by kernel_rfl
/-- How long a record may be. -/
def most (en a : Int) : Nat := min 2048 (512 * (en - a - 1)).toNat
/-- From one place of a journal to another one: so many records. -/
inductive Recs (f : Int → Sec) (en : Int) (ep : Nat) : Int → Nat → List (List UInt8) → Int → Nat → Prop
  | nil (a : Int) (nx : Nat) : Recs f en ep a nx [] a nx
  | cons {a : Int} {nx : Nat} {b : List UInt8} {l : List (List UInt8)} {a' : Int} {nx' : Nat} : a < en → behindS f a jrnl ep nx (most en a) = some b → Recs f en ep (a + 1 + secs b.length) (nx + 1) l a' nx' → Recs f en ep a nx (b :: l) a' nx'
theorem Recs.inv {f : Int → Sec} {en : Int} {ep : Nat} {a : Int} {nx : Nat} {l : List (List UInt8)} {a' : Int} {nx' : Nat} (h : Recs f en ep a nx l a' nx') : (l = [] ∧ a = a' ∧ nx = nx') ∨ ∃ b l3, l = b :: l3 ∧ a < en ∧ behindS f a jrnl ep nx (most en a) = some b ∧ Recs f en ep (a + 1 + secs b.length) (nx + 1) l3 a' nx' := by
  cases h with
  | nil => exact .inl ⟨rfl, rfl, rfl⟩
  | cons h1 h2 h3 => exact .inr ⟨_, _, rfl, h1, h2, h3⟩
def Stop (f : Int → Sec) (en : Int) (ep : Nat) (a : Int) (nx : Nat) : Prop := en ≤ a ∨ behindS f a jrnl ep nx (most en a) = none
/-- Slices in a slice. -/
def Rows (w : World) (row : Option Nat) (J : Nat) (xs : List Value) (l : List (List UInt8)) : Prop :=
  xs.length = l.length ∧ ∀ (k : Nat) (b : List UInt8), l[k]? = some b → ∃ x, xs[k]? = some x ∧ Sl w x (cel b) ∧ (0 < b.length → ∀ q, x.ownBlock = some q → row ≠ some q ∧ q ≠ J)
theorem behind_fit {w0 w : World} {D : Nat} {F : Nat → Prop} {d : DS} (h : Own w0 w D F d) {a : Int} {s : List UInt8} {x y m : Nat} {b : List UInt8} (hb : behindS d.look a s x y m = some b) : b.length ≤ m := by
  unfold behindS at hb
  split at hb
  · cases hb
  · rename_i h1
    split at hb
    · injection hb with hb
      rw [← hb, hdata_len h.look_len]
      omega
    · cases hb
/-- What Open leaves. -/
def Opened (w0 w : World) (D : Nat) (F : Nat → Prop) (d : DS) (a en : Int) (ep nx : Nat) (l : List (List UInt8)) (e : Ending) (w' : World) : Prop :=
  ∃ J v xs, e = .returned (.tuple #[.pointer (some ⟨J, 0, none⟩), v, .int .i64 0]) ∧ Jr w0 w' D J F d a en ep nx false ∧ w.heap.size ≤ J ∧ w'.ownsRow w.heap.size 30 1 v l.length xs ∧ Rows w' v.ownBlock J xs l ∧ Below w.heap.size w w'
theorem res3 {fn : Func} {t u v : Tmp} {tmps : Array Value} {P : Program} {w : World} {v0 v1 v2 : Value} (h : fn.results = #[.tmp t, .tmp u, .tmp v]) (h0 : tmps.getD t undef = v0) (h1 : tmps.getD u undef = v1) (h2 : tmps.getD v undef = v2) : (results fn tmps).run P w = .ok (.tuple #[v0, v1, v2]) w := by
  rw [results_tmp3 h, h0, h1, h2]
theorem Sl.over {w w' : World} {v : Value} {us : List Value} (h : Sl w v us) (hb : Below w.heap.size w w') : Sl w' v us := h.chg (G := fun _ => False) (Chg.of_below hb) fun _ _ _ h => h
theorem Rows.over {w w' : World} {row : Option Nat} {J : Nat} {xs : List Value} {l : List (List UInt8)} (h : Rows w row J xs l) (hb : Below w.heap.size w w') : Rows w' row J xs l :=
  ⟨h.1, fun k b hk => by
    obtain ⟨x, h1, h2, h3⟩ := h.2 k b hk
    exact ⟨x, h1, h2.over hb, h3⟩⟩
theorem Sl.block_lt {w : World} {v : Value} {us : List Value} (h : Sl w v us) (h0 : 0 < us.length) : ∀ q, v.ownBlock = some q → q < w.heap.size := by
  intro q hq
  obtain ⟨A, c, rfl, -, -, -, h4⟩ := h
  obtain ⟨b', o, e, hlt, -⟩ := h4 h0
  subst e
  obtain rfl : b' = q := by simpa [Value.ownBlock] using hq
  exact hlt
theorem Jr.grown {w0 w w' : World} {D J : Nat} {F : Nat → Prop} {d : DS} {a en : Int} {ep nx : Nat} {br : Bool} {row : Option Nat} (h : Jr w0 w D J F d a en ep nx br) (hg : w.grownBy w' row) (hr : ∀ k, row = some k → ¬F k ∧ k ≠ J ∧ w0.heap.size ≤ k) : Jr w0 w' D J F d a en ep nx br :=
  ⟨⟨h.own.disk.of hg.size fun k hk => hg.block k (h.own.disk.lt k hk) fun e => (hr k e.symm).1 hk, h.own.ge, h.own.below.grown hg h.own.below.size fun k hk => (hr k hk).2.2⟩, (hg.block J h.lt fun e => (hr J e.symm).2.1 rfl).trans h.box, h.nF, h.ge⟩
theorem Rows.only {w w' : World} {row : Option Nat} {J : Nat} {xs : List Value} {l : List (List UInt8)} (h : Rows w row J xs l) (hb : Only J w w') : Rows w' row J xs l :=
  ⟨h.1, fun k b hk => by
    obtain ⟨x, h1, h2, h3⟩ := h.2 k b hk
    exact ⟨x, h1, h2.of (Nat.le_of_eq hb.size.symm) fun h0 q hq => hb.block q (h3 (by rwa [cel_length] at h0) q hq).2, h3⟩⟩
theorem sl_val (w : World) (u : Value) (t : TypeId) : Sl (w.alloc (.cells #[u] t)) (.slice (some ⟨w.heap.size, 0, none⟩) 1 1) [u] := by
  refine ⟨some ⟨w.heap.size, 0, none⟩, 1, rfl, Nat.le_refl _, by simp [maxLen], fun h => (by cases h), fun _ => ⟨_, 0, rfl, by simp, fun j u hj => ?_⟩⟩
  rw [Nat.zero_add, cell_of_row _ w.heap.size j _ _ _ (heap_alloc_new w _)]
  simpa using hj
/-- One more. -/
theorem Rows.snoc {w w' : World} {row row' : Option Nat} {J H : Nat} {xs : List Value} {l : List (List UInt8)} {x : Value} {b : List UInt8} (h : Rows w row J xs l) (hs : w.heap.size ≤ H) (hg : ∀ k, k < w.heap.size → some k ≠ row → w'.heap[k]? = w.heap[k]?) (hz : w.heap.size ≤ w'.heap.size) (hrow : row' = row ∨ row' = some H)
    (hx : Sl w x (cel b)) (hq : 0 < b.length → ∀ q, x.ownBlock = some q → row ≠ some q ∧ q ≠ J) : Rows w' row' J (xs ++ [x]) (l ++ [b]) := by
  have key : ∀ (y : Value) (c : List UInt8), Sl w y (cel c) → (0 < c.length → ∀ q, y.ownBlock = some q → row ≠ some q ∧ q ≠ J) → Sl w' y (cel c) ∧ (0 < c.length → ∀ q, y.ownBlock = some q → row' ≠ some q ∧ q ≠ J) := by
    intro y c hy hq
    refine ⟨hy.of hz fun h0 q hyq => ?_, fun h0 q hyq => ⟨?_, (hq h0 q hyq).2⟩⟩
    · exact hg q (hy.block_lt h0 q hyq) fun e => (hq (by rwa [cel_length] at h0) q hyq).1 e.symm
    · rcases hrow with e | e
      · rw [e]; exact (hq h0 q hyq).1
      · rw [e]
        intro e2
        have := hy.block_lt (by rw [cel_length]; exact h0) q hyq
        injection e2 with e2
        omega
  refine ⟨by rw [List.length_append, List.length_append, h.1]; rfl, fun k c hk => ?_⟩
  by_cases h1 : k < l.length
  · rw [List.getElem?_append_left h1] at hk
    obtain ⟨y, h2, h3, h4⟩ := h.2 k c hk
    obtain ⟨h5, h6⟩ := key y c h3 h4
    exact ⟨y, by rw [List.getElem?_append_left (by rw [h.1]; exact h1)]; exact h2, h5, h6⟩
  · rw [List.getElem?_append_right (by omega)] at hk
    have hlt := (List.getElem?_eq_some_iff.1 hk).1
    have h0 : k = l.length := by simp at hlt; omega
    subst h0
    simp at hk
    subst hk
    obtain ⟨h5, h6⟩ := key x b hx hq
    exact ⟨x, by rw [← h.1]; simp, h5, h6⟩
set_option maxRecDepth 100000 in
set_option maxHeartbeats 4000000 in
theorem open_calls {w0 w : World} {D : Nat} {F : Nat → Prop} {d : DS} (h : Own w0 w D F d) (hf : d.loose.length ≤ 700000) (hd : d.down = false) (fr sz : Int) (hfr : 0 ≤ fr) (hsz : 0 ≤ sz) (hfs : fr + sz ≤ d.n) (ep : Nat) (hep : ep ≤ 1000000)
    (l : List (List UInt8)) (hll : l.length ≤ 5000) (a' : Int) (nx' : Nat) (hR : Recs d.look (fr + sz) ep fr 0 l a' nx') (hS : Stop d.look (fr + sz) ep a' nx') :
    Calls Try.prog 24 #[.pointer (some ⟨D, 0, none⟩), .int .i64 fr, .int .i64 sz, .int .i64 (ep : Int)] w (Opened w0 w D F d a' (fr + sz) ep nx' l) := by
  obtain ⟨i0, hi, hz0, hz1, hz2⟩ := info_parts inf2
  have hdn := h.disk.ok.n
  go_enter Try.func24, Try.ntmps24
  go_wp2_with (first
    | (go_at_call 21; (refine (size_calls h.disk).mono ?_); rintro e w1 ⟨rfl, hw1⟩; subst hw1)
    | (go_at_call 20; (refine (down_calls h.disk).mono ?_); rintro e w2 ⟨rfl, hw2⟩; rw [hd]; subst hw2))
  have hjr : Jr w0 (w2.alloc (.cells #[.pointer (some ⟨D, 0, none⟩), .int .i64 fr, .int .i64 (fr + sz), .int .i64 (ep : Int), .int .i64 0, .bool false] 85)) D w2.heap.size F d fr (fr + sz) ep 0 false :=
    ⟨h.over (below_alloc _ _), heap_alloc_new w2 _, fun hF => by have := h.disk.lt _ hF; omega, h.below.size⟩
  have hBj := below_alloc w2 (.cells #[.pointer (some ⟨D, 0, none⟩), .int .i64 fr, .int .i64 (fr + sz), .int .i64 (ep : Int), .int .i64 0, .bool false] 85)
  have hsj : (w2.alloc (.cells #[.pointer (some ⟨D, 0, none⟩), .int .i64 fr, .int .i64 (fr + sz), .int .i64 (ep : Int), .int .i64 0, .bool false] 85)).heap.size = w2.heap.size + 1 := World.size_alloc ..
  obtain ⟨W, hW⟩ : ∃ W, w2.alloc (.cells #[.pointer (some ⟨D, 0, none⟩), .int .i64 fr, .int .i64 (fr + sz), .int .i64 (ep : Int), .int .i64 0, .bool false] 85) = W := ⟨_, rfl⟩
  rw [hW] at hjr hBj hsj ⊢
  obtain ⟨J, hJ⟩ : ∃ J, w2.heap.size = J := ⟨_, rfl⟩
  rw [hJ] at hjr hsj ⊢
  have hJ0 := hideK hJ
  obtain ⟨en, hen⟩ : ∃ en, fr + sz = en := ⟨_, rfl⟩
  rw [hen] at hjr hR hS hfs ⊢
  have HEN := hideK hen
  clear hW hJ hen
  go_loopw [12] (fun v wr => ∃ (l1 l2 : List (List UInt8)) (a : Int) (xs : List Value), l = l1 ++ l2 ∧ 0 ≤ a ∧ Recs d.look en ep a l1.length l2 a' nx' ∧ Jr w0 wr D J F d a en ep l1.length false ∧ wr.ownsRow w2.heap.size 30 1 v l1.length xs ∧ Rows wr v.ownBlock J xs l1 ∧ Below w2.heap.size w2 wr ∧ J < wr.heap.size ∧ v.ownBlock ≠ some J ∧ ∀ u ∈ xs, u.oneCell' = true) (fun v _ => match v with | .slice _ n _ => l.length - n | _ => 0)
  case atStart =>
    exact ⟨[], l, fr, [], rfl, hfr, hR, hjr, World.ownsRow_nil _ _ _ _, ⟨rfl, fun k b hb => by cases hb⟩, hBj, by omega, by simp [Value.ownBlock], fun u hu => by cases hu⟩
  case round =>
    clear hjr hBj hsj hR
    obtain ⟨l1, l2, a, xs, hl12, ha0, hR, hj, hrow, hrs, hB, hJs, hvJ, h1c⟩ := hrel
    obtain ⟨c0, c1, c2, c3, c4, c5⟩ := hj.cells
    have hll1 : l1.length + l2.length = l.length := by rw [hl12, List.length_append]
    obtain ⟨A, c, rfl⟩ := row_form hrow
    have hB1 : Below w2.heap.size w2 wr.drew := hB.drew
    have hj1 : Jr w0 wr.drew D J F d a en ep l1.length false := hj.over ((Below.refl _ wr).drew)
    have hrow1 : wr.drew.ownsRow w2.heap.size 30 1 (.slice A l1.length c) l1.length xs := hrow
    have hrs1 : Rows wr.drew (Value.slice A l1.length c).ownBlock J xs l1 := hrs.over ((Below.refl _ wr).drew)
    have hJs1 : J < wr.drew.heap.size := hJs
    have hlt1 := hrow1.lt
    obtain ⟨W1, hW1⟩ : ∃ W1, wr.drew = W1 := ⟨_, rfl⟩
    rw [hW1] at hB1 hj1 hrow1 hrs1 hJs1 hlt1
    have HW := hideK hW1
    clear hW1
    by_cases hae : a < en
    · have hse : en ≤ 4096 := by omega
      have hjd := hj1.over ((Below.refl _ W1).drew)
      obtain ⟨u1, hu1⟩ : ∃ u1, en - a = u1 := ⟨_, rfl⟩
      obtain ⟨u2, hu2⟩ : ∃ u2, u1 - 1 = u2 := ⟨_, rfl⟩
      obtain ⟨q, hq⟩ : ∃ q, 512 * u2 = q := ⟨_, rfl⟩
      have e1 : IntKind.i64.wrap (en - a) = u1 := by rw [hu1]; exact IntWalk.i64_in _ (by omega)
      have e2 : IntKind.i64.wrap (u1 - 1) = u2 := by rw [hu2]; exact IntWalk.i64_in _ (by omega)
      have e3 : IntKind.i64.wrap (512 * u2) = q := by rw [hq]; exact IntWalk.i64_in _ (by omega)
      have hms : most en a ≤ 2048 ∧ (most en a : Int) ≤ 512 * (en - a - 1) := by unfold most; omega
      have hsm : (secs (most en a) : Int) ≤ en - a - 1 := by unfold secs; omega
      have hbd := behind_calls hjd.own (by omega) hd a jrnl (by decide) ep l1.length (most en a) (by omega) (by omega) (by omega) ⟨ha0, by omega⟩
      rw [show bstr jrnl = ⟨#[74, 82, 78, 76]⟩ from rfl] at hbd
      obtain ⟨M, hM⟩ : ∃ M : Int, (if q < 2048 then q else 2048) = M := ⟨_, rfl⟩
      have hmc : (most en a : Int) = M := by rw [← hM]; unfold most; split <;> omega
      obtain ⟨r, hr⟩ : ∃ r, behindS d.look a jrnl ep l1.length (most en a) = r := ⟨_, rfl⟩
      rw [hr, hmc] at hbd
      have HR := hideK hr
      clear hu1 hu2 hq hmc
      clear hr
      rcases hR.inv with ⟨hl2, hea, hen⟩ | ⟨b, l3, hl2, h0, hb, hR⟩
      · subst hea
        subst hen
        subst hl2
        rcases hS with hS | hS
        · exact absurd hae (by omega)
        · have hrn : r = none := by rw [← HR.out]; exact hS
          clear HR
          subst hrn
          clear hj hrow hrs hJs hB c0 c3 c5
          obtain ⟨d0, d1, d2, d3, d4, d5⟩ := hj1.cells
          rw [List.append_nil] at hl12
          subst hl12
          clear d0 d3 d5
          go_wp2_with fail
          go_region
          rw [HW.out]
          go_wp2_with fail
          go_region_held3 (fun w' => w'.cell? ⟨J, 1, none⟩ = some (.int .i64 a) ∧ w'.cell? ⟨J, 2, none⟩ = some (.int .i64 en) ∧ w'.cell? ⟨J, 4, none⟩ = some (.int .i64 (l.length : Int))) (go_keep) (first
            | (go_at_call 41; (refine hbd.mono ?_); rintro e w4 ⟨hB4, v4, rfl, ⟨A4, m4, c4', rfl⟩, hg4⟩
               have hj4 := hjd.over hB4
               obtain ⟨f0, f1, f2, f3, f4, f5⟩ := hj4.cells))
          go_wp2_with fail
          refine bodyPost_ret (res3 (t := 8) (u := 9) (v := 10) (by kernel_rfl) rfl rfl rfl) rfl ?_
          have hBB := ((Below.refl _ W1).drew).trans hB4
          exact ⟨J, _, xs, rfl, by rw [HEN.out]; exact hj4, by rw [hJ0.out]; exact Nat.le_refl _, ownsRow_of hrow1 fun q hq => hBB.block q (hlt1 q hq).2, hrs1.over hBB, hB1.trans (hBB.mono hB1.size)⟩
      · have hbf := behind_fit hj1.own hb
        have hrn : r = some b := by rw [← HR.out]; exact hb
        clear HR
        subst hrn
        clear hj hrow hrs hJs hB c0 c3 c5
        obtain ⟨d0, d1, d2, d3, d4, d5⟩ := hj1.cells
        clear d0 d3 d5
        go_wp2_with fail
        go_region
        rw [HW.out]
        go_wp2_with fail
        go_region_held3 (fun w' => w'.cell? ⟨J, 1, none⟩ = some (.int .i64 a) ∧ w'.cell? ⟨J, 2, none⟩ = some (.int .i64 en) ∧ w'.cell? ⟨J, 4, none⟩ = some (.int .i64 (l1.length : Int))) (go_keep) (first
          | (go_at_call 41; (refine hbd.mono ?_); rintro e w4 ⟨hB4, v4, rfl, ⟨A4, m4, c4', rfl⟩, hg4⟩
             have hj4 := hjd.over hB4
             obtain ⟨f0, f1, f2, f3, f4, f5⟩ := hj4.cells))
        obtain ⟨g1, ⟨A5, c5', e5⟩, g3, -⟩ := hg4 b rfl
        have hm4 : m4 = b.length := by injection e5
        subst hm4
        clear e5 hg4
        have hBB := ((Below.refl _ W1).drew).trans hB4
        have hrow4 := ownsRow_of (w' := w4) hrow1 fun q hq => hBB.block q (hlt1 q hq).2
        have hrs4 := hrs1.over hBB
        have hB4' := hB1.trans (hBB.mono hB1.size)
        have hal := below_alloc w4 (.cells #[Value.slice A4 b.length c4'] 30)
        have hsa : (w4.alloc (.cells #[Value.slice A4 b.length c4'] 30)).heap.size = w4.heap.size + 1 := World.size_alloc ..
        have hj5 := hj4.over hal
        have hrow5 := ownsRow_of (w' := w4.alloc (.cells #[Value.slice A4 b.length c4'] 30)) hrow4 fun q hq => hal.block q (Nat.lt_of_lt_of_le (hlt1 q hq).2 hBB.size)
        have hrs5 := hrs4.over hal
        have hsv := sl_val w4 (.slice A4 b.length c4') 30
        have hx5 : Sl (w4.alloc (.cells #[Value.slice A4 b.length c4'] 30)) (.slice A4 b.length c4') (cel b) := g1.over hal
        have hone : (Value.slice A4 b.length c4').oneCell' = true := rfl
        have hq5 : 0 < b.length → ∀ q, (Value.slice A4 b.length c4').ownBlock = some q → (Value.slice A l1.length c).ownBlock ≠ some q ∧ q ≠ J := fun h0 q hq => by
          have h1 := (g3 q hq).1
          have h2 : W1.drew.heap.size = W1.heap.size := rfl
          exact ⟨fun e => by have := (hlt1 q e).2; omega, by omega⟩
        have hb3 : b.length ≤ 1000000 := by omega
        have hFr : ∀ k, (Value.slice A l1.length c).ownBlock = some k → ¬F k ∧ k ≠ J ∧ w0.heap.size ≤ k := fun k hk => by
          have h1 := (hlt1 k hk).1
          exact ⟨fun hF => by have := h.disk.lt k hF; omega, fun e => hvJ (by rw [← e]; exact hk), Nat.le_trans h.below.size h1⟩
        have hlen : l.length = l1.length + (l3.length + 1) := by rw [hl12, hl2, List.length_append, List.length_cons]
        clear f0 f1 f2 f3 f4 f5 c1 c2 c4 d1 d2 d4 hbd hjd hj1 hj4 g1 g3 e1 e2 e3 hM hrow4 hrs4
        go_wp2_with (at_builtin; refine wpList_append_lies _ rfl _ _ 52 rfl w2.heap.size 30 i0 (.slice none 0 0) 1 24 Try.underlying52 hi hz0 hz1 hz2 rfl (by decide) _ l1.length xs rfl hrow5 ⟨w4.heap.size, 0, none⟩ 1 1 [Value.slice A4 b.length c4'] rfl rfl ?n1 ?n0 (by decide) ?n2 ?n3 ?n4 _ rfl ?_)
        case n0 => intro u hu; simp at hu; rw [hu]; exact hone
        case n1 =>
          intro j u hu
          rw [Addr.add_lit]
          obtain ⟨A', c', e, -, -, -, hat⟩ := hsv
          obtain ⟨b', o', e4, -, hr'⟩ := hat Nat.one_pos
          injection e with e1 e2 e3
          rw [← e1] at e4
          cases e4
          exact hr' j u hu
        case n2 => simp only [maxLen]; omega
        case n3 => omega
        case n4 => have := hB4'.size; omega
        intro g cap w6 hown6 hgr6 hgH hlt6
        have hj6 := hj5.grown hgr6 hFr
        have hB6 : Below w2.heap.size w2 w6 := (hB4'.trans (hal.mono hB4'.size)).grown hgr6 (by have := hB4'.size; omega) fun k hk => (hlt1 k hk).1
        have hrs6 := hrs5.snoc (w' := w6) (row' := some g) (H := (w4.alloc (.cells #[Value.slice A4 b.length c4'] 30)).heap.size) (Nat.le_refl _) hgr6.block hgr6.size (hgH.elim (fun h => .inl h.symm) fun h => .inr (by rw [h, hsa])) hx5 hq5
        have hgo := goes_calls hj6 (by omega) (by omega) b.length hb3
        have hgJ : g ≠ J := hgH.elim (fun h e => hvJ (by rw [← e]; exact h)) fun h => by have := hBB.size; omega
        go_wp2_with fail
        refine hgo.mono ?_
        rintro e w7 ⟨rfl, hj7, hon⟩
        go_wp2_with fail
        refine ⟨⟨l1 ++ [b], l3, a + 1 + secs b.length, xs ++ [Value.slice A4 b.length c4'], ?_, by omega, ?_, ?_, ?_, ?_, ?_, ?_, ?_, ?_⟩, ?_⟩
        · rw [hl12, hl2, List.append_assoc]; rfl
        · rw [List.length_append]; exact hR
        · rw [List.length_append]; exact hj7
        · rw [List.length_append]; exact ownsRow_of hown6 fun q hq => hon.block q (by
            obtain rfl : g = q := by simpa [Value.ownBlock] using hq
            exact hgJ)
        · exact hrs6.only hon
        · exact hB6.trans (hon.below (by rw [hJ0.out]; exact Nat.le_refl _))
        · exact hj7.lt
        · intro e
          obtain rfl : g = J := by simpa [Value.ownBlock] using e
          exact hgJ rfl
        · intro u hu
          rcases List.mem_append.1 hu with hu | hu
          · exact h1c u hu
          · simp at hu; rw [hu]; exact hone
        · show l.length - (l1.length + 1) < l.length - l1.length
          omega
    · rcases hR.inv with ⟨hl2, hea, hen⟩ | ⟨b, l3, hl2, h0, hb, hR⟩
      · subst hea
        subst hen
        subst hl2
        rw [List.append_nil] at hl12
        subst hl12
        go_wp2_with fail
        go_region
        rw [HW.out]
        go_wp2_with fail
        refine bodyPost_ret (res3 (t := 8) (u := 9) (v := 10) (by kernel_rfl) rfl rfl rfl) rfl ?_
        exact ⟨J, _, xs, rfl, by rw [HEN.out]; exact hj1, by rw [hJ0.out]; exact Nat.le_refl _, hrow1, hrs1, hB1⟩
      · exact absurd h0 hae
end Go.Proofs.Ytdlokmlcdlcfaaa

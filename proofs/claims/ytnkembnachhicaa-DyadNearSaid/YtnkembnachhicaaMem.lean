/- Words for memory: a slice of limbs that reads as a list; a block known whole. Plain facts; no function of the program. -/
import Derived.Test.YtnkembnachhicaaProg
import Derived.Test.YtnkembnachhicaaLimbs
import Derived.WalkKit
import Derived.Deep.Draws
import Derived.Deep.OwnRows
import Derived.OwnWalk
import Derived.Outline
import Derived.BigQuiet
import Derived.Deep.QuietTactic
import Derived.Deep.RegionHeld3
import Derived.WalkSpells
set_option linter.unusedVariables false
namespace Go.Proofs.Ytnkembnachhicaa
open Go.RowKit
open L (val dig)

/-- A fact kept from the walk. -/
theorem hide {p : Prop} (h : p) : Hid p := h

theorem ret_int {k : IntKind} {a b : Int} (h : a = b) : Ending.returned (.int k a) = .returned (.int k b) := by rw [h]
theorem ret_bool {a b : Bool} (h : a = b) : Ending.returned (.bool a) = .returned (.bool b) := by rw [h]

/-- Nothing but draws between two worlds. -/
def Dr (w w' : World) : Prop := ∃ n, w' = w.drewN n
theorem Dr.refl (w : World) : Dr w w := ⟨0, rfl⟩
theorem Dr.next {w w' : World} (h : Dr w w') (n : Nat) : Dr w (w'.drewN n) := by
  obtain ⟨k, rfl⟩ := h
  exact ⟨k + n, by rw [World.drewN_drewN]⟩
theorem Dr.drew {w w' : World} (h : Dr w w') : Dr w w'.drew := h.next 1
theorem Dr.trans {a b c : World} (h : Dr a b) (k : Dr b c) : Dr a c := by
  obtain ⟨n, rfl⟩ := k
  exact h.next n
theorem Dr.below {w w' : World} (h : Dr w w') (B : Nat) : Below B w w' := by
  obtain ⟨k, rfl⟩ := h
  exact ⟨rfl, rfl, rfl, Nat.le_refl _, fun _ _ => rfl⟩

/-- The base of the limbs. -/
def W : Nat := 18446744073709551616
theorem W_gt : 1 < W := by unfold W; omega
theorem W_pos : 0 < W := by unfold W; omega

/-- The slice value v reads as the limbs l; its cells lie in a block from B on. -/
def Nums (w : World) (B : Nat) (v : Value) (l : List Nat) : Prop :=
  ∃ A cap, v = .slice A l.length cap ∧ l.length ≤ cap ∧ cap ≤ 9223372036854775807 ∧ (∀ x ∈ l, x < W) ∧
    (0 < l.length → ∃ b off, A = some ⟨b, off, none⟩ ∧ B ≤ b ∧ b < w.heap.size ∧ ∀ i, i < l.length → w.cell? ⟨b, off + i, none⟩ = some (.int .u64 (L.nth l i : Nat)))

/-- The length in a slot. -/
def lenOf : Value → Nat | .slice _ n _ => n | _ => 0

section
variable {w w' : World} {B : Nat} {v : Value} {l : List Nat}
theorem Nums.keep (h : Nums w B v l) (hs : w.heap.size ≤ w'.heap.size) (hk : ∀ b o, b < w.heap.size → w'.cell? ⟨b, o, none⟩ = w.cell? ⟨b, o, none⟩) : Nums w' B v l := by
  obtain ⟨A, cap, h1, h2, h3, h4, h5⟩ := h
  refine ⟨A, cap, h1, h2, h3, h4, fun hp => ?_⟩
  obtain ⟨b, off, a1, a2, a3, a4⟩ := h5 hp
  exact ⟨b, off, a1, a2, by omega, fun i hi => (hk b _ a3).trans (a4 i hi)⟩
theorem Nums.below (h : Nums w B v l) (hb : Below w.heap.size w w') : Nums w' B v l :=
  h.keep hb.size fun b o hlt => hb.cell (p := ⟨b, o, none⟩) hlt
theorem Nums.drew (h : Nums w B v l) : Nums w.drew B v l := h
theorem Nums.drewN (h : Nums w B v l) (n : Nat) : Nums (w.drewN n) B v l := h
theorem Nums.mono {B' : Nat} (h : Nums w B v l) (hB : B' ≤ B) : Nums w B' v l := by
  obtain ⟨A, cap, h1, h2, h3, h4, h5⟩ := h
  refine ⟨A, cap, h1, h2, h3, h4, fun hp => ?_⟩
  obtain ⟨b, off, a1, a2, a3, a4⟩ := h5 hp
  exact ⟨b, off, a1, by omega, a3, a4⟩
theorem Nums.lt (h : Nums w B v l) : ∀ x ∈ l, x < W := by
  obtain ⟨A, cap, h1, h2, h3, h4, h5⟩ := h
  exact h4
theorem Nums.nil (w : World) (B : Nat) : Nums w B (.slice none 0 0) [] := ⟨none, 0, rfl, by simp, by omega, by simp, by simp⟩
/-- The first n. -/
theorem Nums.first {A : Option Addr} {cap n : Nat} (h : Nums w B (.slice A l.length cap) l) (hn : n ≤ l.length) : Nums w B (.slice A n cap) (l.take n) := by
  obtain ⟨A', cap', h1, h2, h3, h4, h5⟩ := h
  injection h1 with e1 e2 e3
  subst e1; subst e3
  have hlen : (l.take n).length = n := by simp; omega
  refine ⟨A, cap, by rw [hlen], by omega, h3, fun x hx => h4 x (List.mem_of_mem_take hx), fun hp => ?_⟩
  obtain ⟨b, off, a1, a2, a3, a4⟩ := h5 (by omega)
  refine ⟨b, off, a1, a2, a3, fun i hi => ?_⟩
  rw [a4 i (by omega)]
  congr 2
  rw [L.nth_def, L.nth_def, List.getD_eq_getElem?_getD, List.getD_eq_getElem?_getD, List.getElem?_take_of_lt (by omega)]
end

/-- The limbs d are those of the number N, without noughts on top. -/
def Canon (d : List Nat) (N : Nat) : Prop := d = dig W N
theorem Canon.val {d : List Nat} {N : Nat} (h : Canon d N) : L.val W d = N := by rw [show d = dig W N from h, L.val_dig W_gt]
theorem Canon.of_val {l : List Nat} : Canon (dig W (L.val W l)) (L.val W l) := rfl
theorem Canon.len {d : List Nat} {N m : Nat} (h : Canon d N) : d.length ≤ m ↔ N < W ^ m := by rw [show d = dig W N from h]; exact L.dig_len W_gt N m
theorem Canon.nil_iff {d : List Nat} {N : Nat} (h : Canon d N) : d = [] ↔ N = 0 := by rw [show d = dig W N from h]; exact L.dig_eq_nil W_gt N
theorem Canon.last {d : List Nat} {N : Nat} (h : Canon d N) (hd : 0 < d.length) : L.nth d (d.length - 1) ≠ 0 := by
  intro h0
  have hz : L.val W d = L.val W (d.take (d.length - 1)) := by
    have e : d.take (d.length - 1 + 1) = d := List.take_of_length_le (by omega)
    have := L.val_take_step W d (d.length - 1)
    rw [h0, e] at this
    omega
  have hlt : L.val W (d.take (d.length - 1)) < W ^ (d.length - 1) := by
    have := L.val_lt (b := W) (d.take (d.length - 1)) (fun x hx => L.dig_lt W_gt N x (by rw [← show d = dig W N from h]; exact List.mem_of_mem_take hx))
    rwa [List.length_take, Nat.min_eq_left (by omega)] at this
  rw [← hz, h.val] at hlt
  have := (h.len (m := d.length - 1)).2 hlt
  omega

/-- A limb as a value; the cells of limbs. -/
def toU (n : Nat) : Value := .int .u64 (n : Nat)
def cellsU (l : List Nat) : Array Value := (l.map toU).toArray
theorem cellsU_size (l : List Nat) : (cellsU l).size = l.length := by simp [cellsU]
theorem cellsU_get (l : List Nat) (i : Nat) (h : i < l.length) : (cellsU l)[i]? = some (.int .u64 (L.nth l i : Nat)) := by
  simp [cellsU, toU, L.nth_def, List.getD_eq_getElem?_getD, List.getElem?_eq_getElem h]

/-- Block g is just the cells of the limbs l; none is frozen. -/
theorem and63 (m : Nat) (hm : m < 18446744073709551616) : bits .and .u64 (m : Int) 63 = ((m % 64 : Nat) : Int) := by
  have h := bits_and_u64_nat m 63 hm (by omega)
  have e : m &&& 63 = m % 64 := Nat.and_two_pow_sub_one_eq_mod m 6
  rw [e] at h
  exact h
theorem div64 (m : Nat) : (m : Int) / 64 = ((m / 64 : Nat) : Int) := by omega
def Out (w : World) (g : Nat) (l : List Nat) : Prop := w.heap[g]? = some (.cells (cellsU l) 32 (0, 0))
section
variable {w w' : World} {g : Nat} {l : List Nat}
theorem Out.lt (h : Out w g l) : g < w.heap.size := by
  rcases Nat.lt_or_ge g w.heap.size with hlt | hge
  · exact hlt
  · unfold Out at h; rw [Array.getElem?_eq_none hge] at h; cases h
theorem Out.cell (h : Out w g l) {i : Nat} (hi : i < l.length) : w.cell? ⟨g, i, none⟩ = some (.int .u64 (L.nth l i : Nat)) := by
  rw [cell_of_row w g i (cellsU l) 32 (0, 0) h, cellsU_get l i hi]
theorem Out.frozen (h : Out w g l) (i : Nat) : w.frozen? ⟨g, i, none⟩ = false := by
  unfold Out at h
  simp [World.frozen?, h]
theorem Out.drew (h : Out w g l) : Out w.drew g l := h
theorem Out.drewN (h : Out w g l) (n : Nat) : Out (w.drewN n) g l := h
theorem Out.new (w : World) (l : List Nat) : Out (w.alloc (.cells (cellsU l) 32)) w.heap.size l := heap_alloc_new w _
theorem Out.alloc (h : Out w g l) (o : Obj) : Out (w.alloc o) g l := (Below.heap_alloc w o g h.lt).trans h
theorem Out.set (h : Out w g l) (i x : Nat) : Out (w.setCell ⟨g, i, none⟩ (.int .u64 (x : Nat))) g (l.set i x) := by
  unfold Out at h ⊢
  simp only [World.setCell, Array.getElem?_modify, h]
  simp [cellsU, toU, List.map_set]
theorem Out.set_of (h : Out w g l) (i x : Nat) {z : Int} (hz : z = x) : Out (w.setCell ⟨g, i, none⟩ (.int .u64 z)) g (l.set i x) := by rw [hz]; exact h.set i x
theorem Out.far (h : Out w g l) {p : Addr} (hp : g ≠ p.block) (u : Value) : Out (w.setCell p u) g l := (Below.heap_setCell w p u g hp).trans h
theorem Out.below {B : Nat} (h : Out w g l) (hb : Below B w w') (hg : g < B) : Out w' g l := (hb.block g hg).trans h
theorem Out.nums (h : Out w g l) {B : Nat} (hB : B ≤ g) (hl : l.length ≤ 9223372036854775807) (hlt : ∀ x ∈ l, x < W) : Nums w B (.slice (some ⟨g, 0, none⟩) l.length l.length) l :=
  ⟨_, _, rfl, Nat.le_refl _, hl, hlt, fun _ => ⟨g, 0, rfl, hB, h.lt, fun i hi => by rw [Nat.zero_add]; exact h.cell hi⟩⟩
end

theorem Nums.of_own {w : World} {B c : Nat} {v : Value} {l : List Nat} (h : w.ownsRow B 32 1 v l.length (l.map toU)) (hlt : ∀ x ∈ l, x < W) : Nums w B v l := by
  rcases h.2 with ⟨rfl, h0⟩ | ⟨g, cap, cur, rfl, hB, hg, hn, hm, hcs, htake⟩
  · refine ⟨none, 0, by rw [h0], by omega, by omega, hlt, fun hp => by omega⟩
  · refine ⟨_, cap, rfl, hn, by simp only [maxLen] at hm; omega, hlt, fun _ => ⟨g, 0, rfl, hB, (Array.getElem?_eq_some_iff.1 hg).1, fun i hi => ?_⟩⟩
    have hc := h.cells (g := g) rfl i (toU (L.nth l i)) (by
      rw [List.getElem?_map, List.getElem?_eq_getElem hi, L.nth_def, List.getD_eq_getElem?_getD, List.getElem?_eq_getElem hi]; rfl)
    have hadd : (⟨g, 0, none⟩ : Addr).add i = ⟨g, i, none⟩ := by unfold Addr.add; split <;> simp_all
    rw [hadd] at hc
    rw [Nat.zero_add]
    exact hc

theorem infoU : (Try.prog.info? 32).map (fun i => (i.zero, i.size, i.bytes)) = some (some (.int .u64 0), 1, 8) := by kernel_rfl

/-- The cells of a row of noughts. -/
def zer (n : Nat) : Array Value := cellsU (List.replicate n 0)
theorem zer_eq (n : Nat) : madeCells #[.int .u64 0] n = zer n := by
  apply Array.ext'
  simp [madeCells, zer, cellsU, toU, List.range_eq_range', Nat.mod_one]
  apply List.ext_getElem
  · simp
  · intro i h1 h2; simp
/-- 'make([]uint64, n)'. -/
theorem mkU_run (m : Int) (n : Nat) (hmn : m = n) (hn : n ≤ 1000000) (w : World) :
    (Instr.makeSlice 22 (.int .i64 m) (.int .i64 m)).run Try.prog w = .ok (.slice (some ⟨w.heap.size, 0, none⟩) n n) (w.alloc (.cells (zer n) 32)) := by
  obtain ⟨i0, hi, hz0, hz1, hz2⟩ := info_parts infoU
  subst hmn
  have hr := run_make (P := Try.prog) w 22 32 i0 _ Try.underlying22 hi hz0 .i64 .i64 n n (by omega) (by omega) (by rw [hz2]; omega) (by omega)
  simp only [Int.toNat_natCast, hz1, Nat.mul_one] at hr
  rw [hr]
  congr 3
  exact zer_eq n
theorem Out.made (w : World) (n : Nat) : Out (w.alloc (.cells (zer n) 32)) w.heap.size (List.replicate n 0) := Out.new w _

/-! ### append -/
/-- The slice value v is the call's own row of limbs l, in a block from base on. -/
def OwnU (w : World) (base : Nat) (v : Value) (l : List Nat) : Prop := w.ownsRow base 32 1 v l.length (l.map toU)
section
variable {w w' : World} {base : Nat} {v : Value} {l : List Nat}
theorem OwnU.form (h : OwnU w base v l) : ∃ A cap, v = .slice A l.length cap := by
  rcases h.2 with ⟨rfl, h0⟩ | ⟨g, cap, cur, rfl, _⟩
  · exact ⟨none, 0, by rw [h0]⟩
  · exact ⟨_, cap, rfl⟩
theorem OwnU.nums (h : OwnU w base v l) (hlt : ∀ x ∈ l, x < W) : Nums w base v l := Nums.of_own (c := 0) h hlt
theorem OwnU.nil (w : World) (base : Nat) : OwnU w base (.slice none 0 0) [] := World.ownsRow_nil w base _ 1
theorem OwnU.empty (w : World) {base : Nat} (hb : base ≤ w.heap.size) : OwnU (w.alloc (.cells #[] 32)) base (.slice (some ⟨w.heap.size, 0, none⟩) 0 0) [] :=
  World.ownsRow_made w #[] 0 hb (by simp only [maxLen]; omega) rfl
theorem OwnU.alloc (h : OwnU w base v l) (o : Obj) : OwnU (w.alloc o) base v l := World.ownsRow.alloc h o
theorem OwnU.drew (h : OwnU w base v l) : OwnU w.drew base v l := h
theorem OwnU.own_ge (h : OwnU w base v l) : ∀ k, v.ownBlock = some k → base ≤ k := fun k hk => (World.ownsRow.lt h k hk).1
theorem OwnU.below (h : OwnU w base v l) (hb : Below w.heap.size w w') : OwnU w' base v l :=
  World.ownsRow.kept (row := none) h ⟨hb.os, hb.tape, hb.output, hb.size, fun k hk _ => hb.block k hk⟩ (by cases v.ownBlock <;> simp)
end

theorem run_append_of_none {P : Program} (w : World) (base : Nat) (t ty e : TypeId) (i : TypeInfo) (size : Nat) (ht : P.underlying t = some (.slice e)) (hi : P.info? e = some i)
    (v : Value) (n : Nat) (xs : List Value) (hown : w.ownsRow base e size v n xs) (c : Nat) : (Builtin.append_ #[t, t] ty #[v, .slice none 0 c]).run P w = .ok v w := by
  rcases hown.2 with ⟨rfl, rfl⟩ | ⟨g, cap, cur, rfl, _, _, hnc, _⟩
  · simp [Builtin.append_, run_underlying ht, sizeOf, typeInfo, hi, Builtin.lenOf, Builtin.firstCells]
  · simp [Builtin.append_, run_underlying ht, sizeOf, typeInfo, hi, Builtin.lenOf, Builtin.firstCells, hnc, storeCells]

theorem appendU_run (w : World) (base : Nat) (v : Value) (lx : List Nat) (hown : OwnU w base v lx) (B : Nat) (vs : Value) (ls : List Nat) (h : Nums w B vs ls)
    (hn : lx.length + ls.length ≤ 1000000) (hbase : base ≤ w.heap.size) (ty : TypeId) :
    ∃ v' w', (Builtin.append_ #[22, 22] ty #[v, vs]).run Try.prog w = .ok v' w' ∧ OwnU w' base v' (lx ++ ls) ∧ w.grownBy w' v.ownBlock := by
  obtain ⟨i0, hi, hz0, hz1, hz2⟩ := info_parts infoU
  obtain ⟨A, cap, rfl, hcap, hmax, hlt, hc⟩ := h
  rcases A with _ | ad
  · have h0 : ls = [] := by
      rcases Nat.eq_zero_or_pos ls.length with h0 | h0
      · exact List.eq_nil_of_length_eq_zero h0
      · obtain ⟨b, off, he, _⟩ := hc h0; cases he
    subst h0
    exact ⟨v, w, run_append_of_none w base _ _ _ i0 1 Try.underlying22 hi v _ _ hown cap, by simpa using hown, World.grownBy.refl w _⟩
  · obtain ⟨v', w', h1, h2, h3, _⟩ := run_append_own (P := Try.prog) w base 22 ty 32 i0 _ 1 8 Try.underlying22 hi hz0 hz1 hz2 rfl (by omega) v lx.length (lx.map toU) hown ad ls.length cap (ls.map toU) (by simp)
      (by
        intro j u hu
        have hj : j < ls.length := by
          rcases Nat.lt_or_ge j ls.length with hj | hj
          · exact hj
          · rw [List.getElem?_eq_none (by simpa using hj)] at hu; cases hu
        obtain ⟨b, off, he, _, _, hcell⟩ := hc (by omega)
        injection he with he
        subst he
        rw [List.getElem?_map, List.getElem?_eq_getElem hj] at hu
        have hadd : (⟨b, off, none⟩ : Addr).add j = ⟨b, off + j, none⟩ := by unfold Addr.add; split <;> simp_all
        rw [hadd, hcell j hj, ← hu, L.nth_def, List.getD_eq_getElem?_getD, List.getElem?_eq_getElem hj]; rfl)
      (by intro u hu; obtain ⟨x, _, rfl⟩ := List.mem_map.1 hu; rfl) (by simp only [maxLen]; omega) (by omega) hbase
    refine ⟨v', w', h1, ?_, h3⟩
    unfold OwnU
    rw [List.length_append, List.map_append]
    exact h2

theorem wpList_appendU {ops : Array Oper} {rest : List Oper} {o : Oper} {a : Act} {Q : Exit → Act → World → Prop} (w : World) (hgd : o.guard = none) (s x : Operand)
    (ho : o.op = .call { callee := .builtin .append, args := #[s, x], argTypes := #[22, 22] })
    (base : Nat) (v : Value) (lx : List Nat) (hs : a.eval s = v) (hown : OwnU w base v lx) (B : Nat) (vs : Value) (ls : List Nat) (hx : a.eval x = vs) (h : Nums w B vs ls)
    (hn : lx.length + ls.length ≤ 1000000) (hbase : base ≤ w.heap.size)
    (hk : ∀ v' w', OwnU w' base v' (lx ++ ls) → w.grownBy w' v.ownBlock → wpList Try.prog ops Q rest (a.put o.dst v') w') : wpList Try.prog ops Q (o :: rest) a w :=
  wpList_plain hgd fun _ hK => by
    obtain ⟨v', w', hrun, h2, h3⟩ := appendU_run w base v lx hown B vs ls h hn hbase o.type
    unfold Oper.wp execOp
    simp only [ho, resolve, invoke, builtin, Sem.run_bind, Sem.run_pure, Result.andThen_ok, List.map_toArray, List.map_cons, List.map_nil, hs, hx, hrun]
    exact hK _ _ (hk v' w' h2 h3)

/-- The slice of n limbs at the head of block g, with some room behind, is the call's own. -/
def OwnN (w : World) (base g n cap : Nat) (l : List Nat) : Prop := w.ownsRow base 32 1 (.slice (some ⟨g, 0, none⟩) n cap) n (l.map toU)
section
variable {w w' : World} {base g n cap : Nat} {l : List Nat}
theorem OwnN.len (h : OwnN w base g n cap l) : l.length = n := by have := h.1; simpa using this
theorem OwnN.ge (h : OwnN w base g n cap l) : base ≤ g ∧ g < w.heap.size := World.ownsRow.lt h g rfl
theorem OwnN.cell (h : OwnN w base g n cap l) {i : Nat} (hi : i < n) : w.cell? ⟨g, i, none⟩ = some (.int .u64 (L.nth l i : Nat)) := by
  have hl := h.len
  rw [World.ownsRow.cellAt h i (by omega), List.getElem?_map, List.getElem?_eq_getElem (by omega), L.nth_def, List.getD_eq_getElem?_getD, List.getElem?_eq_getElem (by omega)]; rfl
theorem OwnN.frozen (h : OwnN w base g n cap l) (i : Nat) : w.frozen? ⟨g, i, none⟩ = false := World.ownsRow.frozenAt h i
theorem OwnN.set_of (h : OwnN w base g n cap l) (i x : Nat) {z : Int} (hz : z = x) : OwnN (w.setCell ⟨g, i, none⟩ (.int .u64 z)) base g n cap (l.set i x) := by
  have := (World.ownsRow.stored h i (.int .u64 (x : Nat))).1
  unfold OwnN
  rw [hz, List.map_set]
  exact this
theorem OwnN.drew (h : OwnN w base g n cap l) : OwnN w.drew base g n cap l := h
theorem OwnN.drewN (h : OwnN w base g n cap l) (k : Nat) : OwnN (w.drewN k) base g n cap l := h
theorem OwnN.nums (h : OwnN w base g n cap l) (hlt : ∀ x ∈ l, x < W) : Nums w base (.slice (some ⟨g, 0, none⟩) n cap) l := by
  have hl := h.len
  subst hl
  exact Nums.of_own (c := 0) h hlt
theorem OwnU.toN {v : Value} (h : OwnU w base v l) (hl : 0 < l.length) : ∃ g cap, v = .slice (some ⟨g, 0, none⟩) l.length cap ∧ OwnN w base g l.length cap l := by
  rcases h.2 with ⟨rfl, h0⟩ | ⟨g, cap, cur, rfl, r⟩
  · omega
  · exact ⟨g, cap, rfl, h⟩
end
theorem Nums.from_ {w : World} {B b off cap k : Nat} {l : List Nat} (h : Nums w B (.slice (some ⟨b, off, none⟩) l.length cap) l) (hk : k ≤ l.length) :
    Nums w B (.slice (some ⟨b, off + k, none⟩) (l.length - k) (cap - k)) (l.drop k) := by
  obtain ⟨A', cap', h1, h2, h3, h4, h5⟩ := h
  injection h1 with e1 e2 e3
  subst e1; subst e3
  have hlen : (l.drop k).length = l.length - k := List.length_drop
  refine ⟨_, cap - k, by rw [hlen], by omega, by omega, fun x hx => h4 x (List.mem_of_mem_drop hx), fun hp => ?_⟩
  obtain ⟨b', off', a1, a2, a3, a4⟩ := h5 (by omega)
  injection a1 with a1
  injection a1 with e1 e2 _
  subst e1; subst e2
  refine ⟨b, off + k, rfl, a2, a3, fun i hi => ?_⟩
  rw [Nat.add_assoc, a4 (k + i) (by omega)]
  congr 2
  rw [L.nth_def, L.nth_def, List.getD_eq_getElem?_getD, List.getD_eq_getElem?_getD, List.getElem?_drop]

theorem OwnU.made (w : World) {base : Nat} (hb : base ≤ w.heap.size) (n : Nat) (hn : n ≤ 1000000) :
    OwnU (w.alloc (.cells (zer n) 32)) base (.slice (some ⟨w.heap.size, 0, none⟩) n n) (List.replicate n 0) := by
  unfold OwnU
  rw [List.length_replicate]
  refine ⟨by simp, .inr ⟨w.heap.size, n, zer n, rfl, hb, heap_alloc_new w _, Nat.le_refl _, by simp only [maxLen]; omega, by simp [zer, cellsU_size], ?_⟩⟩
  simp [zer, cellsU]
theorem Nums.one (w : World) (z : Int) (x : Nat) (hz : z = x) (hx : x < W) : Nums (w.alloc (.cells #[.int .u64 z] 32)) 0 (.slice (some ⟨w.heap.size, 0, none⟩) 1 1) [x] := by
  subst hz
  have h : Out (w.alloc (.cells (cellsU [x]) 32)) w.heap.size [x] := Out.new w [x]
  exact h.nums (Nat.zero_le _) (by simp) (by simpa using hx)

end Go.Proofs.Ytnkembnachhicaa

/- cert: sum, reader.number. cert: reader.below, reader.integer. -/
import Derived.WalkSmall
import Derived.Test.YtnkihnggghfioaaGreatBy
import Derived.Test.YtnkihnggghfioaaGreatRd
set_option linter.unusedVariables false
set_option linter.unusedSimpArgs false
namespace Go.Proofs.YtnkihnggghfioaaGreat
section
section
open Go.RowKit Go.Shelf
attribute [local go_sem] Oper.semAt_some
def csum (l : List UInt8) : Int := l.foldl wone 14695981039346656037
def RdS (w : World) (R B : Nat) (l : List UInt8) : Prop := ∃ v, w.heap[R]? = some (.cells #[v] 47) ∧ Sl w v (cel l) ∧ (0 < l.length → ∀ q, v.ownBlock = some q → q ≠ R ∧ q < B)
theorem RdS.of {w w' : World} {R B : Nat} {l : List UInt8} (h : RdS w R B l) (hs : w.heap.size ≤ w'.heap.size) (hR : w'.heap[R]? = w.heap[R]?) (hb : ∀ k, k < B → k ≠ R → w'.heap[k]? = w.heap[k]?) : RdS w' R B l := by
  obtain ⟨v, h1, h2, h3⟩ := h; exact ⟨v, hR.trans h1, h2.of hs fun h0 q hq => hb q (h3 (by rwa [jad] at h0) q hq).2 (h3 (by rwa [jad] at h0) q hq).1, h3⟩
theorem RdS.lt {w : World} {R B : Nat} {l : List UInt8} (h : RdS w R B l) : R < w.heap.size := by
  obtain ⟨v, h1, -⟩ := h; exact (Array.getElem?_eq_some_iff.1 h1).1
theorem RdS.over {w w' : World} {R B : Nat} {l : List UInt8} (h : RdS w R B l) (hb : Below w.heap.size w w') (hB : B ≤ w.heap.size) : RdS w' R B l := h.of hb.size (hb.block R h.lt) fun k hk _ => hb.block k (by omega)
def formP : Value := .iface 43 (.agg #[])
theorem ju8 (l : List UInt8) (x : UInt8) (hl : l.length < 8) : stp (le l : Int) (x.toNat : Int) = (le (x :: l) : Int) := by
  have h1 := jte l; have h2 : 2 ^ (8 * l.length) ≤ 2 ^ 56 := Nat.pow_le_pow_right (by decide) (by omega); have hx := x.toNat_lt; unfold stp; rw [jnr (n := (x.toNat : Int)) ⟨by omega, by omega⟩]; have e : (le l : Int) * 256 = ((le l * 256 : Nat) : Int) := by omega
  rw [e, jnr ⟨by omega, by omega⟩, ju7 (by omega) (by omega)]
  congr 1
  have := Nat.shiftLeft_add_eq_or_of_lt (i := 8) (b := x.toNat) (by omega) (le l); rw [Nat.shiftLeft_eq] at this; rw [show le l * 256 = le l * 2 ^ 8 from rfl, ← this]
  show _ = x.toNat + 256 * le l
  omega
def nums (l : List UInt8) : List Int := l.map fun b => (b.toNat : Int)
theorem jsa (l : List UInt8) (hl : l.length ≤ 8) : ∀ k, k ≤ l.length → accN (upto (bk (nums l) l.length) k) = (le (l.drop (l.length - k)) : Int)
  | 0, _ => by simp [upto, accN, le]
  | k + 1, hk => by
    rw [jeq, jes, jsa l hl k (by omega)]; obtain ⟨x, hx⟩ : ∃ x, l[l.length - 1 - k]? = some x := ⟨_, List.getElem?_eq_getElem (by omega)⟩
    have e1 : (bk (nums l) l.length k).2 = (x.toNat : Int) := by
      show (nums l).getD (l.length - 1 - k) 0 = _
      unfold nums; rw [List.getD_eq_getElem?_getD, List.getElem?_map, hx]
      rfl
    have e2 : l.drop (l.length - (k + 1)) = x :: l.drop (l.length - k) := by
      obtain ⟨h1, h2⟩ := List.getElem?_eq_some_iff.1 hx; rw [show l.length - (k + 1) = l.length - 1 - k by omega, List.drop_eq_getElem_cons h1, h2, show l.length - 1 - k + 1 = l.length - k by omega]
    rw [e1, e2]; exact ju8 _ x (by rw [List.length_drop]; omega)
set_option maxRecDepth 100000 in
set_option maxHeartbeats 2000000 in
theorem jg6 (w : World) (v : Value) (l : List UInt8) (hv : Sl w v (cel l)) (hl : l.length ≤ 140737488355328) :
    Calls Tryz.prog 12 #[v] w fun e w' => e = .returned (.int .u64 (csum l)) ∧ w' = w := by
  obtain ⟨A, c, rfl, hv1, hv2, hv3, hv4⟩ := hv; rw [jad] at hv1 hv3 hv4 ⊢
  go_enter Tryz.func12, Tryz.ntmps12
  go_wp2_with fail
  go_loopw [3, 8] (fun a b wr => ∃ k : Nat, k ≤ l.length ∧ a = .int .u64 (csum (l.take k)) ∧ b = .int .i64 (k : Int) ∧ wr = w) (fun _ b _ => l.length - (intOf b).toNat)
  case atStart => exact ⟨0, Nat.zero_le _, rfl, rfl, rfl⟩
  case round =>
    obtain ⟨k, hk, rfl, rfl, rfl⟩ := hrel
    by_cases hkl : k < l.length
    · have hki : (k : Int) < (l.length : Int) := by omega
      have hk0 : (0 : Int) ≤ (k : Int) := by omega
      have hkb : (k : Int) ≤ 140737488355328 := by omega
      obtain ⟨b, o, rfl, hb, hr⟩ := hv4 (by omega); obtain ⟨x, hx⟩ : ∃ x, l[k]? = some x := ⟨_, List.getElem?_eq_getElem hkl⟩; have hc : wr.cell? ⟨b, o + k, none⟩ = some (.int .u8 (x.toNat : Int)) := hr k _ (by unfold cel; rw [List.getElem?_map, hx]; rfl)
      have hstep : csum (l.take (k + 1)) = wone (csum (l.take k)) x := by
        unfold csum; rw [List.take_add_one, hx]; simp
      obtain ⟨h, hh⟩ : ∃ h, csum (l.take k) = h := ⟨_, rfl⟩; rw [hh] at hstep ⊢; unfold wone at hstep; clear hh hx hr
      go_wp2_with fail
      refine ⟨⟨k + 1, by omega, ?_, rfl, trivial⟩, by simp only [intOf]; omega⟩; rw [hstep]
    · obtain rfl : k = l.length := by omega
      have hki : ¬(l.length : Int) < (l.length : Int) := by omega
      go_wp2_with fail
      go_ret
      exact ⟨rfl, rfl⟩
set_option maxRecDepth 100000 in
set_option maxHeartbeats 2000000 in
theorem jm4 (w : World) (R B : Nat) (l : List UInt8) (h : RdS w R B l) (n : Nat) (hn : n ≤ 8) (hl : l.length < n) :
    Calls Tryz.prog 11 #[.pointer (some ⟨R, 0, none⟩), .int .i64 (n : Int)] w fun e w' => e = .panicked [{ v := formP, recovered := false }] ∧ w' = w := by
  obtain ⟨v, hb, hs, -⟩ := h; obtain ⟨A, c, rfl, -⟩ := id hs; have c0 := cell_of_row w R 0 _ _ _ hb; have hli : ((cel l).length : Int) < (n : Int) := by rw [jad]; omega
  go_enter Tryz.func11, Tryz.ntmps11
  go_wp2_with fail
  exact ⟨rfl, ⟨rfl, rfl⟩⟩
def NmI (w1 : World) (Nb : Nat) (pre : List (Nat × Int)) (W : World) : Prop :=
  (W.cell? ⟨Nb, 0, none⟩ = some (.int .u64 (accN pre)) ∧ W.frozen? ⟨Nb, 0, none⟩ = false) ∧ Below Nb w1 W
theorem jqv {w1 W : World} {Nb b D : Nat} {pre : List (Nat × Int)} {x : Nat × Int} (h : NmI w1 Nb pre W) (hb : b < Nb) :
    KeepsFrom D W (W.setCell ⟨Nb, 0, none⟩ (.int .u64 (stp (accN pre) x.2))) ∧ KeepTwo (Nb + 1) b W (W.setCell ⟨Nb, 0, none⟩ (.int .u64 (stp (accN pre) x.2))) ∧ NmI w1 Nb (pre ++ [x]) (W.setCell ⟨Nb, 0, none⟩ (.int .u64 (stp (accN pre) x.2))) := by
  obtain ⟨⟨hc, hf⟩, hB⟩ := h; refine ⟨(KeepsOthers.setCell _ _ _).from _, ⟨Below.heap_setCell _ _ _ _ (show Nb + 1 ≠ Nb by omega), Below.heap_setCell _ _ _ _ (show b ≠ Nb by omega)⟩, ⟨?_, ?_⟩, hB.setCell (p := ⟨Nb, 0, none⟩) (Nat.le_refl _) _⟩
  · rw [World.cell?_setCell_same' _ _ _ (by rw [hc]; rfl), jes]
  · rw [World.frozen?_setCell]
    exact hf
set_option maxRecDepth 100000 in
set_option maxHeartbeats 8000000 in
theorem jiq (w : World) (R B : Nat) (l : List UInt8) (h : RdS w R B l) (n : Nat) (hn : 1 ≤ n ∧ n ≤ 8) (hl : n ≤ l.length) (hll : l.length ≤ 1000000) :
    Calls Tryz.prog 11 #[.pointer (some ⟨R, 0, none⟩), .int .i64 (n : Int)] w fun e w' => e = .returned (.int .u64 (le (l.take n) : Int)) ∧ RdS w' R B (l.drop n) ∧ Chg (fun k => k = R) w w' := by
  obtain ⟨v, hbx, hs, hne⟩ := h; obtain ⟨b, o, c, rfl, hc⟩ := hs.some_form (by rw [jad]; omega); rw [jad] at hc hs hne hbx; have hbR : b ≠ R := (hne (by omega) b rfl).1; have hbB : b < B := (hne (by omega) b rfl).2; have hRl : R < w.heap.size := (Array.getElem?_eq_some_iff.1 hbx).1; have hbl : b < w.heap.size := hs.block_lt (by rw [jad]; omega) b rfl; have hnl : (n : Int) ≤ (l.length : Int) := by omega
  have hnc : (n : Int) ≤ (c : Int) := by omega
  have hn1 : (1 : Int) ≤ (n : Int) := by omega
  have hn8 : (n : Int) ≤ 8 := by omega
  have hml : ¬(l.length : Int) < (n : Int) := by omega
  have c0 : w.cell? ⟨R, 0, none⟩ = some (.slice (some ⟨b, o, none⟩) l.length c) := cell_of_row w R 0 _ _ _ hbx; have hB0 := jac w (.cells #[.int .u64 0] 25); have hs0 : (w.alloc (.cells #[.int .u64 0] 25)).heap.size = w.heap.size + 1 := World.size_alloc ..; have hb0 := heap_alloc_new w (.cells #[.int .u64 0] 25); have c1 : (w.alloc (.cells #[.int .u64 0] 25)).cell? ⟨R, 0, none⟩ = some (.slice (some ⟨b, o, none⟩) l.length c) := (hB0.cell (p := ⟨R, 0, none⟩) hRl).trans c0; have z1 := jg4 hb0 0; refine (callsIn_wide (n := 9)).1 ?_; refine callsIn_of_wp_marks Tryz.func11 rfl trivial ?_ rfl; simp only [Tryz.ntmps11, List.size_toArray, List.length_cons, List.length_nil, Nat.reduceAdd, Nat.reduceSub, Array.replicate_succ, Array.replicate_zero, List.push_toArray, List.append_toArray, List.nil_append, List.cons_append]
  gi_wp2_with (refine ⟨trivial, ?_⟩; gi_at_call 29; refine (jo2 Fence.wide _ trivial rfl _ _ _ _).mono ?_; rintro e w2 ⟨rfl, rfl⟩)
  obtain ⟨Nb, hNb⟩ : ∃ Nb, w.heap.size = Nb := ⟨_, rfl⟩; have hbox := jbv w (.cells #[.int .u64 0] 25) (.cells #[.slice (some ⟨b, o, none⟩) n c] 22); have hboxn := jb4 w (.cells #[.int .u64 0] 25) (.cells #[.slice (some ⟨b, o, none⟩) n c] 22); have hBw : Below w.heap.size w ((w.alloc (.cells #[.int .u64 0] 25)).alloc (.cells #[.slice (some ⟨b, o, none⟩) n c] 22)) := hB0.alloc (by omega) _; have hVs : ((w.alloc (.cells #[.int .u64 0] 25)).alloc (.cells #[.slice (some ⟨b, o, none⟩) n c] 22)).heap.size = w.heap.size + 2 := by simp
  obtain ⟨V0, hV0⟩ : ∃ V0, (w.alloc (.cells #[.int .u64 0] 25)).alloc (.cells #[.slice (some ⟨b, o, none⟩) n c] 22) = V0 := ⟨_, rfl⟩; rw [hV0] at hbox hboxn hBw hVs ⊢; rw [hNb] at hbox hboxn hBw hVs hRl hbl hB0 hs0 hb0 ⊢; clear hV0 c1 z1 hB0 hs0 hb0; have hln : (l.take n).length = n := by rw [List.length_take]; omega
  have hsV := (hs.chg (G := fun _ => False) (Chg.of_below (by rw [hNb]; exact hBw)) fun _ _ _ h => h : Sl V0 _ _)
  have hch : ∀ j, j < n → V0.cell? ⟨b, o + j, none⟩ = some (.int .u8 ((nums (l.take n)).getD j 0)) := fun j hj => by
    obtain ⟨A', c', e, -, -, -, hat⟩ := hsV; obtain ⟨b', o', e4, -, hr⟩ := hat (by rw [jad]; omega); injection e with e1
    rw [← e1] at e4
    cases e4
    obtain ⟨x, hx⟩ : ∃ x, l[j]? = some x := ⟨_, List.getElem?_eq_getElem (by omega)⟩; rw [hr j (oct x) (by unfold cel; rw [List.getElem?_map, hx]; rfl)]; unfold nums oct; rw [List.getD_eq_getElem?_getD, List.getElem?_map, List.getElem?_take, if_pos hj, hx]
    rfl
  refine actOf ?_; intro a0 ha0
  refine wpIn_rangeFunc_ownG rfl (by omega) (gf := 50) (lb := #[.pointer (some ⟨Nb + 1, 0, none⟩)]) (by rw [ha0]; rfl) trivial (enters_of Tryz.func50 (by kernel_rfl) rfl)
    (jhl Fence.wide _ trivial rfl (by omega) (Nb + 1) b o n c (nums (l.take n)) (by omega) V0 (by omega) (by omega) (jaa hbox rfl) hch)
    jgl (fun W l o o' hl h g1 g2 => by
      have hh := belowK_b (w := V0) (Nat.le_refl _) W l o o' hl h g1 g2; exact ⟨hh.block _ (by omega), hh.block _ (by omega)⟩) (Below.refl _ _) (fun _ => rfl)
    (NmI w Nb)
    (fun _ _ _ => False)
    (OwnFrom.and (Own.from (fun s A B row hs hg hr => ⟨cell_kept hs.1 hg hr, (frozen_kept hs.1 hg hr).trans hs.2⟩) _) (ownFrom_below (by omega) (by omega)))
    (fun _ _ _ _ _ hs _ _ => hs)
    ⟨⟨jaa hboxn rfl, jab hboxn⟩, hBw⟩
    (fun x => { tmps := ((a0.tmps.setIfInBounds 24 (.int .i64 (x.1 : Int))).setIfInBounds 25 (.int .u8 x.2)).setIfInBounds 7 (.int .u8 x.2), defers := [] }) ?assign ?body ?done ?stop
  case assign =>
    intro l x W K hK; subst ha0
    gi_wp2
    exact hK
  case body =>
    rintro l' pre x W hI _; have hck := hI.1.1; have hfk := hI.1.2; subst ha0; clear hch hsV hbox hboxn hBw hs hne; simp only [List.setIfInBounds_toArray, List.set_cons_zero, List.set_cons_succ]
    gi_wp2
    exact jqv hI hbl
  case done =>
    rintro D ys W hD rfl hI hK; subst ha0; obtain ⟨⟨hck, hfk⟩, hB⟩ := hI; have hal := jsa (l.take n) (by omega) n (by omega); rw [hln, Nat.sub_self, List.drop_zero] at hal; rw [hal] at hck; have hbR2 : W.heap[R]? = some (.cells #[.slice (some ⟨b, o, none⟩) l.length c] 47) := (hB.block R hRl).trans hbx; have d0 : W.cell? ⟨R, 0, none⟩ = some (.slice (some ⟨b, o, none⟩) l.length c) := jaa hbR2 rfl; have dz : W.frozen? ⟨R, 0, none⟩ = false := jab hbR2; have hNR : (⟨Nb, 0, none⟩ : Addr) ≠ ⟨R, 0, none⟩ := fun e => by injection e with e1; omega
    clear hch hsV hbox hboxn hBw hne hal
    by_cases hcn : c = n
    · have hl0 : l.length = n := by omega
      subst hcn
      gi_wp2
      have hb1 : (W.setCell ⟨R, 0, none⟩ (.slice (some ⟨b, o, none⟩) 0 0)).heap[R]? = some (.cells #[.slice (some ⟨b, o, none⟩) 0 0] 47) := jae hbR2; have hD1 : (W.setCell ⟨R, 0, none⟩ (.slice (some ⟨b, o, none⟩) 0 0)).heap[D]? = some (.deferred (some [])) := (Below.heap_setCell _ _ _ _ (show D ≠ R by omega)).trans hK; refine jcd (N := Nb) [D] _ (fun D' hD' => by rw [List.mem_singleton] at hD'; subst hD'; exact ⟨by omega, hD1⟩) (by simp) fun W' hW' => ?_
      refine ⟨_, results_tmp rfl _ _ _, rfl, ⟨.slice (some ⟨b, o, none⟩) 0 0, (hW'.block R hRl).trans hb1, ?_, ?_⟩, ⟨hW'.os.trans hB.os, hW'.tape.trans hB.tape, hW'.output.trans hB.output, ?_, fun k hk hkR => ?_⟩⟩
      · have hr := hs.rest c (by rw [jad]; omega)
        rw [show (cel l).drop c = cel (l.drop c) by unfold cel; rw [List.map_drop]] at hr
        have e : sliced (some ⟨b, o, none⟩) c l.length c 1 = .slice (some ⟨b, o, none⟩) 0 0 := by
          unfold sliced; rw [if_pos rfl, hl0, Nat.sub_self]
        rw [e] at hr; refine hr.of (by have h1 := hW'.size; have h2 := hB.size; rw [jee] at h1; omega) fun h0 q hq => ?_
        obtain rfl : b = q := by simpa [Value.ownBlock] using hq
        exact ((hW'.block b hbl).trans (Below.heap_setCell _ _ _ _ hbR)).trans (hB.block b hbl)
      · intro h0 q hq
        obtain rfl : b = q := by simpa [Value.ownBlock] using hq
        exact ⟨hbR, hbB⟩
      · have h1 := hW'.size
        have h2 := hB.size; rw [jee] at h1
        omega
      · rw [hNb] at hk
        exact ((hW'.block k hk).trans (Below.heap_setCell _ _ _ _ hkR)).trans (hB.block k hk)
    · have hcn' : ¬c = n := hcn
      gi_wp2
      have hb1 : (W.setCell ⟨R, 0, none⟩ (.slice (some ⟨b, o + n, none⟩) (l.length - n) (c - n))).heap[R]? = some (.cells #[.slice (some ⟨b, o + n, none⟩) (l.length - n) (c - n)] 47) := jae hbR2; have hD1 : (W.setCell ⟨R, 0, none⟩ (.slice (some ⟨b, o + n, none⟩) (l.length - n) (c - n))).heap[D]? = some (.deferred (some [])) := (Below.heap_setCell _ _ _ _ (show D ≠ R by omega)).trans hK; refine jcd (N := Nb) [D] _ (fun D' hD' => by rw [List.mem_singleton] at hD'; subst hD'; exact ⟨by omega, hD1⟩) (by simp) fun W' hW' => ?_
      refine ⟨_, results_tmp rfl _ _ _, rfl, ⟨.slice (some ⟨b, o + n, none⟩) (l.length - n) (c - n), (hW'.block R hRl).trans hb1, ?_, ?_⟩, ⟨hW'.os.trans hB.os, hW'.tape.trans hB.tape, hW'.output.trans hB.output, ?_, fun k hk hkR => ?_⟩⟩
      · have hr := hs.rest n (by rw [jad]; omega)
        rw [show (cel l).drop n = cel (l.drop n) by unfold cel; rw [List.map_drop]] at hr
        have e : sliced (some ⟨b, o, none⟩) n l.length c 1 = .slice (some ⟨b, o + n, none⟩) (l.length - n) (c - n) := by
          unfold sliced; rw [if_neg hcn]
          show Value.slice (some (Addr.add _ _)) _ _ = _
          rw [Nat.mul_one, Addr.add_lit]
        rw [e] at hr; refine hr.of (by have h1 := hW'.size; have h2 := hB.size; rw [jee] at h1; omega) fun h0 q hq => ?_
        obtain rfl : b = q := by simpa [Value.ownBlock] using hq
        exact ((hW'.block b hbl).trans (Below.heap_setCell _ _ _ _ hbR)).trans (hB.block b hbl)
      · intro h0 q hq
        obtain rfl : b = q := by simpa [Value.ownBlock] using hq
        exact ⟨hbR, hbB⟩
      · have h1 := hW'.size
        have h2 := hB.size; rw [jee] at h1
        omega
      · rw [hNb] at hk
        exact ((hW'.block k hk).trans (Below.heap_setCell _ _ _ _ hkR)).trans (hB.block k hk)
  case stop =>
    rintro D c pre W _ _ h _; exact h.elim
end
end
section
section
open Go.RowKit Go.Shelf
def pNum (n : Nat) (l : List UInt8) : Option (Nat × List UInt8) := if n ≤ l.length then some (le (l.take n), l.drop n) else none
def pBelow (n most : Nat) (l : List UInt8) : Option (Nat × List UInt8) := (pNum n l).bind fun p => if most < p.1 then none else some p
def pMags : Nat → List UInt8 → Option (List Nat × List UInt8)
  | 0, l => some ([], l)
  | k + 1, l => (pMags k l).bind fun p => (pNum 8 p.2).map fun q => (p.1 ++ [q.1], q.2)
def pInt (most : Nat) (l : List UInt8) : Option ((Bool × List Nat) × List UInt8) :=
  (pBelow 1 1 l).bind fun s => (pBelow 2 most s.2).bind fun n => (pMags n.1 n.2).bind fun m =>
    if (n.1 = 0 ∧ s.1 = 1) ∨ (0 < n.1 ∧ m.1.getLast? = some 0) then none else some ((decide (s.1 = 1), m.1), m.2)
def Rdg {α : Type} (w : World) (R B : Nat) (r : Option (α × List UInt8)) (V : α → Value → World → Prop) (e : Ending) (w' : World) : Prop :=
  Chg (fun k => k = R) w w' ∧ ((∃ x t v, r = some (x, t) ∧ e = .returned v ∧ V x v w' ∧ RdS w' R B t) ∨ (r = none ∧ e = .panicked [{ v := formP, recovered := false }]))
theorem jcl (w : World) (R B : Nat) (l : List UInt8) (h : RdS w R B l) (n : Nat) (hn : 1 ≤ n ∧ n ≤ 8) (hll : l.length ≤ 1000000) :
    Calls Tryz.prog 11 #[.pointer (some ⟨R, 0, none⟩), .int .i64 (n : Int)] w (Rdg w R B (pNum n l) fun x v _ => v = .int .u64 (x : Int)) := by
  unfold pNum
  by_cases hl : n ≤ l.length
  · rw [if_pos hl]
    refine (jiq w R B l h n hn hl hll).mono ?_; rintro e w' ⟨rfl, h1, h2⟩; exact ⟨h2, .inl ⟨_, _, _, rfl, rfl, rfl, h1⟩⟩
  · rw [if_neg hl]
    refine (jm4 w R B l h n hn.2 (by omega)).mono ?_; rintro e w' ⟨rfl, rfl⟩; exact ⟨Chg.refl _ _, .inr ⟨rfl, rfl⟩⟩
theorem jc0 {n : Nat} (hn : n ≤ 8) {l : List UInt8} {x : Nat} {t : List UInt8} (h : pNum n l = some (x, t)) : x < 2 ^ (8 * n) ∧ x < 18446744073709551616 ∧ t.length + n = l.length := by
  unfold pNum at h
  split at h
  · injection h with h
    injection h with h1 h2
    subst h1 h2; have h3 := jte (l.take n); rw [List.length_take, Nat.min_eq_left (by assumption)] at h3; have h4 : 2 ^ (8 * n) ≤ 2 ^ 64 := Nat.pow_le_pow_right (by decide) (by omega); rw [List.length_drop]; exact ⟨h3, by omega, by omega⟩
  · cases h
set_option maxRecDepth 100000 in
set_option maxHeartbeats 2000000 in
theorem jcf (w : World) (R B : Nat) (l : List UInt8) (h : RdS w R B l) (n most : Nat) (hn : 1 ≤ n ∧ n ≤ 8) (hm : most ≤ 1000000) (hll : l.length ≤ 1000000) :
    Calls Tryz.prog 14 #[.pointer (some ⟨R, 0, none⟩), .int .i64 (n : Int), .int .u64 (most : Int)] w (Rdg w R B (pBelow n most l) fun x v _ => v = .int .i64 (x : Int)) := by
  have hnm := jcl w R B l h n hn hll; unfold pBelow; obtain ⟨r, hr⟩ : ∃ r, pNum n l = r := ⟨_, rfl⟩; have hlt := fun x t (e : r = some (x, t)) => jc0 hn.2 (hr.trans e)
  rw [hr] at hnm ⊢; clear hr; obtain ⟨Q, hQ⟩ : ∃ Q, (r.bind fun p => if most < p.1 then none else some p) = Q := ⟨_, rfl⟩; rw [hQ]; have HQ := hideK hQ; clear hQ
  go_enter Tryz.func14, Tryz.ntmps14
  go_wp2_with fail
  refine hnm.mono ?_; rintro e w1 ⟨hC, ⟨x, t, v, rfl, rfl, rfl, hR⟩ | ⟨rfl, rfl⟩⟩
  · obtain ⟨h1, h2, h3⟩ := hlt x t rfl
    have hmi : (most : Int) ≤ 1000000 := by omega
    have hx0 : (0 : Int) ≤ (x : Int) := by omega
    clear hlt hnm
    by_cases hmx : most < x
    · have hmxi : (most : Int) < (x : Int) := by omega
      have hq : Q = none := by rw [← HQ.out]; show (if most < x then none else some (x, t)) = none; rw [if_pos hmx]
      subst hq; clear HQ
      go_wp2_with fail
      exact ⟨rfl, hC, .inr ⟨rfl, rfl⟩⟩
    · have hmxi : ¬(most : Int) < (x : Int) := by omega
      have hxb : (x : Int) ≤ 1000000 := by omega
      have hq : Q = some (x, t) := by rw [← HQ.out]; show (if most < x then none else some (x, t)) = _; rw [if_neg hmx]
      subst hq; clear HQ
      go_wp2_with fail
      go_ret
      exact ⟨hC, .inl ⟨_, _, _, rfl, rfl, rfl, hR⟩⟩
  · have hq : Q = none := by rw [← HQ.out]; rfl
    subst hq; clear HQ hlt hnm
    go_wp2_with fail
    exact ⟨rfl, hC, .inr ⟨rfl, rfl⟩⟩
end
end
end Go.Proofs.YtnkihnggghfioaaGreat
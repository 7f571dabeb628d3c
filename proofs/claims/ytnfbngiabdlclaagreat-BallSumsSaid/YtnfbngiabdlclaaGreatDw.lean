/- hairlineref05.Div. -/
import Derived.Test.YtnfbngiabdlclaaGreatDv
import Derived.Test.YtnfbngiabdlclaaGreatAp
set_option linter.unusedVariables false
set_option linter.unusedSimpArgs false
namespace Go.Proofs.YtnfbngiabdlclaaGreat
open Go.RowKit
open L (val dig nth)

/-- The ends, by number. -/
def two {α : Type} (a b : α) (i : Nat) : α := if i = 0 then a else b
theorem apart_nil (v : Value) : ∀ g, (Value.slice none 0 0).ownBlock = some g → v.ownBlock = some g → False := by
  intro g h
  cases h
theorem d_shlI {w : World} {k : Nat} {n : Bool} {A : Option Addr} {len cap : Nat} {z : Int} (q : Int) (h : Q w k n A len cap z) (hk : k ≤ 30000) (h0 : 0 ≤ q) (h1 : q ≤ 8000) :
    Calls Tryz.prog 84 #[.agg #[.bool n, .slice A len cap], .int .i64 q] w fun e w' => Below w.heap.size w w' ∧ RetZ w.heap.size (z * 2 ^ q.toNat) e w' := by
  obtain ⟨c, rfl⟩ := Int.eq_ofNat_of_zero_le h0
  exact d_shl2 h hk c (by omega)
theorem two_cells {α : Type} (a0 b0 a1 b1 : α) (i : Nat) (hi : i < 2) : #[a0, b0, a1, b1][i * 2]? = some (two a0 a1 i) ∧ #[a0, b0, a1, b1][i * 2 + 1]? = some (two b0 b1 i) := by
  obtain rfl | rfl : i = 0 ∨ i = 1 := by omega
  · exact ⟨rfl, rfl⟩
  · exact ⟨rfl, rfl⟩
theorem two_map {α β : Type} (f : α → β) (a b : α) (i : Nat) : two (f a) (f b) i = f (two a b i) := by unfold two; split <;> rfl
theorem two_slice (a b : Option Addr) (l m c d i : Nat) : two (Value.slice a l c) (Value.slice b m d) i = .slice (two a b i) (two l m i) (two c d i) := by unfold two; split <;> rfl
theorem two_q {w : World} {k : Nat} {n m : Bool} {A B : Option Addr} {l j c d : Nat} {x y : Int} (h : Q w k n A l c x) (h' : Q w k m B j d y) (i : Nat) : Q w k (two n m i) (two A B i) (two l j i) (two c d i) (two x y i) := by
  unfold two; split
  · exact h
  · exact h'
theorem take_four (F : Nat → Int) (j : Nat) (h : j < 4) : [F 0, F 1, F 2, F 3].take (j + 1) = [F 0, F 1, F 2, F 3].take j ++ [F j] := by
  obtain rfl | rfl | rfl | rfl : j = 0 ∨ j = 1 ∨ j = 2 ∨ j = 3 := by omega
  all_goals rfl
theorem len_take_four (F : Nat → Int) (j : Nat) (h : j ≤ 4) : ([F 0, F 1, F 2, F 3].take j).length = j := by
  rw [List.length_take]; simp; omega
theorem off_grow {u v u' : Value} {n : Nat} (h : ∀ g, u.ownBlock = some g → v.ownBlock = some g → False) (ho : u'.ownBlock = u.ownBlock ∨ ∃ b, u'.ownBlock = some b ∧ n ≤ b) (hv : ∀ g, v.ownBlock = some g → g < n) : ∀ g, u'.ownBlock = some g → v.ownBlock = some g → False := by
  intro g a b
  rcases ho with ho | ⟨c, ho, hc⟩
  · exact h g (ho ▸ a) b
  · rw [ho] at a
    have e : c = g := Option.some.inj a
    have := hv g b
    omega
theorem off_or {u v : Value} (h : ∀ g, u.ownBlock = some g → v.ownBlock = some g → False) : v.ownBlock = none ∨ v.ownBlock ≠ u.ownBlock := by
  cases hv : v.ownBlock with
  | none => exact Or.inl rfl
  | some g => exact Or.inr (fun e => h g e.symm hv)
theorem below_alloc (w : World) (o : Obj) : Below w.heap.size w (w.alloc o) := (Below.refl _ _).alloc (Nat.le_refl _) _
theorem RowV.low1 {w w' : World} {B k : Nat} {v : Value} {zs : List Int} (h : RowV w B k v zs) {X : List Nat} {g : Nat} (hl : Low X w w') (hX : ∀ x ∈ X, x = g) (hg : g < B) : RowV w' B k v zs :=
  h.step (r := some g) ⟨hl.os, hl.tape, hl.output, hl.size, fun k hk hn => hl.block k hk (fun hm => hn (by rw [hX k hm]))⟩ (Or.inr (fun e => by have := (h.lt g e).1; omega)) hl.ext
theorem RowV.far {w : World} {B k : Nat} {v : Value} {zs : List Int} (h : RowV w B k v zs) {g : Nat} (hg : g < B) : g ∉ v.ownBlock.toList := by
  intro hm
  cases hv : v.ownBlock with
  | none => rw [hv] at hm; simp at hm
  | some x =>
    rw [hv] at hm
    simp at hm
    have := (h.lt x hv).1
    omega
theorem RowV.near {w : World} {B k : Nat} {v : Value} {zs : List Int} (h : RowV w B k v zs) : ∀ x ∈ v.ownBlock.toList, B ≤ x := by
  intro x hm
  cases hv : v.ownBlock with
  | none => rw [hv] at hm; simp at hm
  | some y =>
    rw [hv] at hm
    simp at hm
    have := (h.lt y hv).1
    omega
theorem not_own {v : Value} {n g : Nat} (h : ∀ x, v.ownBlock = some x → x < n) (hg : n ≤ g) : g ∉ v.ownBlock.toList := by
  intro hm
  cases hv : v.ownBlock with
  | none => rw [hv] at hm; simp at hm
  | some x =>
    rw [hv] at hm
    simp at hm
    have := h x hv
    omega
theorem RowV.drew {w : World} {B k : Nat} {v : Value} {zs : List Int} (h : RowV w B k v zs) : RowV w.drew B k v zs := h.below ((Below.refl _ _).drew)
theorem RowV.least {w : World} {B k : Nat} {v : Value} {z0 z1 z2 z3 : Int} (h : RowV w B k v [z0, z1, z2, z3]) (hk : k ≤ 1000) :
    Calls Tryz.prog 70 #[v] w fun e w' => Below w.heap.size w w' ∧ ∃ n A l c, e = .returned (.agg #[.bool n, .slice A l c]) ∧ QB w' B k n A l c (min4 z0 z1 z2 z3) := by
  obtain ⟨g, cap, _, _, _, _, _, _, _, _, _, _, _, _, _, _, _, _, rfl, hI⟩ := h.four
  refine (least_calls hI (by omega) (by omega) hk cap).mono ?_
  rintro e w' ⟨hb, j, hj, rfl, hmin⟩
  exact ⟨hb, _, _, _, _, rfl, pick_min hj hmin ▸ (hI.below hb).q j hj⟩
theorem RowV.greatest {w : World} {B k : Nat} {v : Value} {z0 z1 z2 z3 : Int} (h : RowV w B k v [z0, z1, z2, z3]) (hk : k ≤ 1000) :
    Calls Tryz.prog 71 #[v] w fun e w' => Below w.heap.size w w' ∧ ∃ n A l c, e = .returned (.agg #[.bool n, .slice A l c]) ∧ QB w' B k n A l c (max4 z0 z1 z2 z3) := by
  obtain ⟨g, cap, _, _, _, _, _, _, _, _, _, _, _, _, _, _, _, _, rfl, hI⟩ := h.four
  refine (greatest_calls hI (by omega) (by omega) hk cap).mono ?_
  rintro e w' ⟨hb, j, hj, rfl, hmax⟩
  exact ⟨hb, _, _, _, _, rfl, pick_max hj hmax ▸ (hI.below hb).q j hj⟩
theorem wpList_appendV {ops : Array Oper} {rest : List Oper} {o : Oper} {a : Act} {Q : Exit → Act → World → Prop} {w : World} {B k : Nat} {v : Value} {zs : List Int} (hgd : o.guard = none) (s x : Operand)
    (ho : o.op = .call { callee := .builtin .append, args := #[s, x], argTypes := #[63, 63] })
    (hs : a.eval s = v) (h : RowV w B k v zs) {g : Nat} {n : Bool} {A : Option Addr} {l c : Nat} {z : Int} (hx : a.eval x = .slice (some ⟨g, 0, none⟩) 1 1) (hb : Blk w g 25 #[.bool n, .slice A l c]) (hq : QB w B k n A l c z) (hl : zs.length ≤ 1000) (hB : B ≤ w.heap.size)
    (hk : ∀ v' w', RowV w' B k v' (zs ++ [z]) → w.grownBy w' v.ownBlock → (v'.ownBlock = v.ownBlock ∨ ∃ k, v'.ownBlock = some k ∧ w.heap.size ≤ k) → Low v.ownBlock.toList w w' → wpList Tryz.prog ops Q rest (a.put o.dst v') w') : wpList Tryz.prog ops Q (o :: rest) a w :=
  wpList_plain hgd fun _ hK => by
    obtain ⟨v', w', hrun, h2, h3, h4, h5⟩ := h.push hb hq hl hB o.type
    unfold Oper.wp execOp
    simp only [ho, resolve, invoke, builtin, Sem.run_bind, Sem.run_pure, Result.andThen_ok, List.map_toArray, List.map_cons, List.map_nil, hs, hx, hrun]
    exact hK _ _ (hk v' w' h2 h3 h4 (low_own h3 h5))
set_option maxHeartbeats 16000000 in
set_option maxRecDepth 100000 in
theorem divR5_calls {w : World} {k : Nat} {n0 n1 m0 m1 : Bool} {A0 A1 B0 B1 : Option Addr} {l0 l1 j0 j1 c0 c1 d0 d1 : Nat} {x0 x1 y0 y1 : Int} (qa qb : Int) (hx0 : Q w k n0 A0 l0 c0 x0) (hx1 : Q w k n1 A1 l1 c1 x1) (hy0 : Q w k m0 B0 j0 d0 y0) (hy1 : Q w k m1 B1 j1 d1 y1) (hk : k ≤ 400) :
    Calls Tryz.prog 41 #[.agg #[.bool n0, .slice A0 l0 c0, .bool n1, .slice A1 l1 c1, .int .i64 qa], .agg #[.bool m0, .slice B0 j0 d0, .bool m1, .slice B1 j1 d1, .int .i64 qb]] w fun e w' => Below w.heap.size w w' ∧ RetE w.heap.size (k + 34) (pairB x0 x1 qa y0 y1 qb && decide (0 < y0.sign * y1.sign)) (min4 (vLo qa x0 y0) (vLo qa x0 y1) (vLo qa x1 y0) (vLo qa x1 y1)) (max4 (vHi qa x0 y0) (vHi qa x0 y1) (vHi qa x1 y0) (vHi qa x1 y1)) qa (if pairB x0 x1 qa y0 y1 qb then 2 else 1) e w' := by
  obtain ⟨W0, hW, ha, hb, hr, hB0, hs⟩ := start3 w 27 27 27 #[.bool n0, .slice A0 l0 c0, .bool n1, .slice A1 l1 c1, .int .i64 qa] #[.bool m0, .slice B0 j0 d0, .bool m1, .slice B1 j1 d1, .int .i64 qb] #[.bool false, .slice none 0 0, .bool false, .slice none 0 0, .int .i64 0]
  have HB := hide hB0
  have hsz : w.heap.size + 3 ≤ W0.heap.size := by omega
  clear hs hB0
  obtain ⟨a0, a1, a2, a3, a4, -⟩ := ha.five
  obtain ⟨b0, b1, b2, b3, b4, -⟩ := hb.five
  have HP := hide (both_calls qa qb (hx0.at_ HB) (hx1.at_ HB) (hy0.at_ HB) (hy1.at_ HB) hk)
  obtain ⟨F, HF⟩ : ∃ F : Nat → Int, Hid (F = fun j => vLo qa (two x0 x1 (j / 2)) (two y0 y1 (j % 2))) := ⟨_, hide rfl⟩
  obtain ⟨G, HG⟩ : ∃ G : Nat → Int, Hid (G = fun j => vHi qa (two x0 x1 (j / 2)) (two y0 y1 (j % 2))) := ⟨_, hide rfl⟩
  obtain ⟨mn, HMN⟩ : ∃ z, Hid (min4 (vLo qa x0 y0) (vLo qa x0 y1) (vLo qa x1 y0) (vLo qa x1 y1) = z) := ⟨_, hide rfl⟩
  obtain ⟨mx, HMX⟩ : ∃ z, Hid (max4 (vHi qa x0 y0) (vHi qa x0 y1) (vHi qa x1 y0) (vHi qa x1 y1) = z) := ⟨_, hide rfl⟩
  have HMN' : Hid (min4 (F 0) (F 1) (F 2) (F 3) = mn) := hide (by rw [HF.out]; exact HMN.out)
  have HMX' : Hid (max4 (G 0) (G 1) (G 2) (G 3) = mx) := hide (by rw [HG.out]; exact HMX.out)
  rw [HMN.out, HMX.out]
  clear HMN HMX
  have HQ := fun h => pairB_q (x := x0) (y := x1) (q := qa) (x' := y0) (y' := y1) (q' := qb) h
  obtain ⟨mq, HQQ⟩ : ∃ b, Hid (pairB x0 x1 qa y0 y1 qb = b) := ⟨_, hide rfl⟩
  rw [HQQ.out] at HP HQ
  rw [HQQ.out]
  have HQ' := hide HQ
  clear HQ
  obtain ⟨er, HER⟩ : ∃ z : Int, Hid ((if mq then 2 else 1 : Int) = z) := ⟨_, hide rfl⟩
  rw [HER.out]
  obtain ⟨ok, HOK⟩ : ∃ b, Hid ((mq && decide (0 < y0.sign * y1.sign)) = b) := ⟨_, hide rfl⟩
  rw [HOK.out]
  go_enter Tryz.func41, Tryz.ntmps41
  go_upto_region 1 with (fail)
  rw [← hW]
  clear hW
  go_wp2_with fail
  refine HP.out.mono ?_
  rintro e w1 ⟨vb, rfl⟩
  clear HP a0 a1 a2 a3 a4 b0 b1 b2 b3 b4
  have ha := ha.below vb ha.lt
  have hb := hb.below vb hb.lt
  have hr := hr.below vb hr.lt
  have HB := hide (HB.out.trans (vb.mono HB.out.size))
  have hsz := Nat.le_trans hsz vb.size
  clear vb
  cases mq with
  | false =>
    have hok : ok = false := by rw [← HOK.out]; rfl
    have her : er = 1 := by rw [← HER.out]; rfl
    subst hok her
    obtain ⟨r0, r1, r2, r3, r4, r5, r6, r7, r8, r9⟩ := hr.five
    go_wp2_with fail
    obtain ⟨W2, hW2, bl, -, kb, -⟩ := set5_all hr (.bool false) (.slice none 0 0) (.bool false) (.slice none 0 0) (.int .i64 0)
    rw [← hW2]
    exact bodyPost_ret (results_ball_tmp rfl _ _ _ _ _ _ _ _ _ rfl bl) rfl ⟨kb _ _ HB.out (by omega), RetE.no⟩
  | true =>
    obtain ⟨g0, g1, -, -, hyy⟩ := HQ'.out rfl
    have her : er = 2 := by rw [← HER.out]; rfl
    subst her
    have HOK2 : Hid (ok = !(decide (y0.sign ≤ 0) && decide (0 ≤ y1.sign))) := hide (by
      rw [← HOK.out, Bool.true_and, Bool.eq_iff_iff]
      simp only [Bool.not_eq_true', decide_eq_true_eq, Bool.and_eq_false_iff, decide_eq_false_iff_not]
      rcases sign_cases y0 with ⟨h1, h2⟩ | ⟨h1, h2⟩ | ⟨h1, h2⟩ <;> rcases sign_cases y1 with ⟨h3, h4⟩ | ⟨h3, h4⟩ | ⟨h3, h4⟩ <;> rw [h1, h3] <;> simp <;> omega)
    clear HQ' HOK
    have HS0 := hide (d_sign (hy0.at_ HB) (by omega))
    obtain ⟨s0, HS0e⟩ : ∃ s, Hid (y0.sign = s) := ⟨_, hide rfl⟩
    obtain ⟨s1, HS1e⟩ : ∃ s, Hid (y1.sign = s) := ⟨_, hide rfl⟩
    rw [HS0e.out] at HS0 HOK2
    rw [HS1e.out] at HOK2
    obtain ⟨b0, b1, b2, b3, b4, -⟩ := hb.five
    go_upto_region 4 with (fail)
    go_wp2_with fail
    refine HS0.out.mono ?_
    rintro e w2 ⟨vb, rfl⟩
    clear HS0 b0 b1 b2 b3 b4
    have ha := ha.below vb ha.lt
    have hb := hb.below vb hb.lt
    have hr := hr.below vb hr.lt
    have HB := hide (HB.out.trans (vb.mono HB.out.size))
    have hsz := Nat.le_trans hsz vb.size
    clear vb
    have HYN0 : Hid (ok = true → y0 ≠ 0 ∧ y1 ≠ 0) := hide (fun h => by
      rw [HOK2.out, ← HS0e.out, ← HS1e.out] at h
      constructor
      · rintro rfl
        simp at h
        have := Int.sign_nonneg_iff.2 (show 0 ≤ y1 by omega)
        omega
      · rintro rfl
        simp at h
        have := Int.sign_nonpos_iff.2 (show y0 ≤ 0 by omega)
        omega)
    by_cases hs0 : s0 ≤ 0
    · obtain ⟨b0, b1, b2, b3, b4, -⟩ := hb.five
      have HS1 := hide (d_sign (hy1.at_ HB) (by omega))
      rw [HS1e.out] at HS1
      go_wp2_with fail
      refine HS1.out.mono ?_
      rintro e w3 ⟨vb, rfl⟩
      clear HS1 b0 b1 b2 b3 b4
      have ha := ha.below vb ha.lt
      have hb := hb.below vb hb.lt
      have hr := hr.below vb hr.lt
      have HB := hide (HB.out.trans (vb.mono HB.out.size))
      have hsz := Nat.le_trans hsz vb.size
      clear vb
      by_cases hs1 : 0 ≤ s1
      · have hok : ok = false := by rw [HOK2.out, decide_eq_true hs0, decide_eq_true hs1]; rfl
        subst hok
        obtain ⟨r0, r1, r2, r3, r4, r5, r6, r7, r8, r9⟩ := hr.five
        go_wp2_with fail
        obtain ⟨W2, hW2, bl, -, kb, -⟩ := set5_all hr (.bool false) (.slice none 0 0) (.bool false) (.slice none 0 0) (.int .i64 0)
        rw [← hW2]
        exact bodyPost_ret (results_ball_tmp rfl _ _ _ _ _ _ _ _ _ rfl bl) rfl ⟨kb _ _ HB.out (by omega), RetE.no⟩
      · have hok : ok = true := by rw [HOK2.out, decide_eq_false hs1]; simp
        subst hok
        have HYN := hide (HYN0.out rfl)
        obtain ⟨a0, a1, a2, a3, a4, -⟩ := ha.five
        obtain ⟨b0, b1, b2, b3, b4, -⟩ := hb.five
        obtain ⟨wR, hW, he, vb, hs⟩ := start1 w3 25 #[.bool n0, .slice A0 l0 c0, .bool n1, .slice A1 l1 c1]
        have ha := ha.below vb ha.lt
        have hb := hb.below vb hb.lt
        have hr := hr.below vb hr.lt
        have HB := hide (HB.out.trans (vb.mono HB.out.size))
        have hR : w3.heap.size < wR.heap.size := by omega
        clear vb hs
        go_upto_region 9 with (fail)
        rw [← hW]
        clear hW a0 a1 a2 a3 a4 b0 b1 b2 b3 b4
        obtain ⟨b0, b1, b2, b3, b4, -⟩ := hb.five
        obtain ⟨wS, hW, hy, vb, hs⟩ := start1 wR 25 #[.bool m0, .slice B0 j0 d0, .bool m1, .slice B1 j1 d1]
        have ha := ha.below vb ha.lt
        have he := he.below vb he.lt
        have hr := hr.below vb hr.lt
        have HB := hide (HB.out.trans (vb.mono HB.out.size))
        have hS : wR.heap.size < wS.heap.size := by omega
        clear vb hs
        go_upto_region 10 with (fail)
        rw [← hW]
        clear hW b0 b1 b2 b3 b4 hb
        have X0 := hx0.at_ HB
        have X1 := hx1.at_ HB
        have Y0 := hy0.at_ HB
        have Y1 := hy1.at_ HB
        go_wp2_with fail
        go_loopw [7, 8, 11] (fun lv hv iv wr => ∃ i : Nat, i ≤ 2 ∧ iv = .int .i64 i ∧ RowV wr wS.heap.size (k + 34) lv ([F 0, F 1, F 2, F 3].take (2 * i)) ∧ RowV wr wS.heap.size (k + 34) hv ([G 0, G 1, G 2, G 3].take (2 * i)) ∧ (∀ g, lv.ownBlock = some g → hv.ownBlock = some g → False) ∧ Below wS.heap.size wS wr) (fun _ _ iv _ => 2 - (intOf iv).toNat)
        case atStart => exact ⟨0, by omega, rfl, RowV.nil _ _ _, RowV.nil _ _ _, apart_nil _, Below.refl _ _⟩
        case round =>
          obtain ⟨i, hi, rfl, hL, hH, hD, hBl⟩ := hrel
          by_cases hi2 : i < 2
          · have bi : (i : Int) < 2 := by omega
            go_wp2_with fail
            go_loopw [7, 8, 12] (fun lv hv kv wr => ∃ j : Nat, j ≤ 2 ∧ kv = .int .i64 j ∧ RowV wr wS.heap.size (k + 34) lv ([F 0, F 1, F 2, F 3].take (2 * i + j)) ∧ RowV wr wS.heap.size (k + 34) hv ([G 0, G 1, G 2, G 3].take (2 * i + j)) ∧ (∀ g, lv.ownBlock = some g → hv.ownBlock = some g → False) ∧ Below wS.heap.size wS wr) (fun _ _ kv _ => 2 - (intOf kv).toNat)
            case atStart => exact ⟨0, by omega, rfl, hL, hH, hD, hBl⟩
            case round =>
              obtain ⟨j, hj, rfl, hL, hH, hD, hBl⟩ := hrel
              by_cases hj2 : j < 2
              · have bj : (j : Int) < 2 := by omega
                have ha := ha.below hBl (by omega)
                have he := he.below hBl (by omega)
                have hy := hy.below hBl (by omega)
                have X0 := X0.below hBl
                have X1 := X1.below hBl
                have Y0 := Y0.below hBl
                have Y1 := Y1.below hBl
                obtain ⟨xi, HXI⟩ : ∃ z, Hid (two x0 x1 i * 2 ^ qa.toNat = z) := ⟨_, hide rfl⟩
                have HLX : Hid (xi.natAbs < W ^ (k + 34)) := hide (by rw [← HXI.out]; exact z_shl_lt (two_q X0 X1 i).lt (by omega))
                have hSr : wS.heap.size ≤ wr.heap.size := hBl.size
                have hL13 := fun x hx => (hL.lt x hx).2
                go_upto_region 16 with (fail)
                refine F2.region [.o, .o, .o, .o, .o, .o, .o, .al 25 #[.bool false, .slice none 0 0], .st 7] [Fact.eq ?cx51, Fact.eq ?cx52, Fact.eq ?cx53, Fact.eq ?cx54, Fact.eq ?cx55, Fact.eq ?cx56, Fact.int wS.heap.size (k + 34) xi, Fact.any, Fact.int wS.heap.size (k + 34) xi] [51, 52, 53, 54, 55, 56, 57, 13] [51, 52, 53, 54, 55, 56, 57, 13, 0] (by kernel_rfl) ?sox ?sopx (by kernel_rfl) ?stx ?finx
                case sox => exact fun x hx => by cases hx
                case sopx => exact List.Pairwise.nil
                case stx =>
                  refine F2.Steps.consO rfl ?_ ?_
                  · intro vz wz hBz hDz hTz K hK
                    replace hK := hK.out
                    simp only [actv, fill, Act.put, F2.fc, List.getD_cons_zero, List.getD_cons_succ, List.foldl_cons, List.foldl_nil, List.setIfInBounds_toArray, List.set_cons_succ, List.set_cons_zero] at hK
                    apply Kept.mk
                    simp only [F2.Wp, Act.put, actv, fill, List.foldl_cons, List.foldl_nil, List.setIfInBounds_toArray, List.set_cons_succ, List.set_cons_zero]
                    go_simp
                    refine hK _ wz (Below.refl _ _) (Fact.eq_mk ?_)
                    with_reducible rfl
                  refine F2.Steps.consO rfl ?_ ?_
                  · intro vz wz hBz hDz hTz K hK
                    replace hK := hK.out
                    simp only [actv, fill, Act.put, F2.fc, List.getD_cons_zero, List.getD_cons_succ, List.foldl_cons, List.foldl_nil, List.setIfInBounds_toArray, List.set_cons_succ, List.set_cons_zero] at hK
                    apply Kept.mk
                    simp only [F2.Wp, Act.put, actv, fill, List.foldl_cons, List.foldl_nil, List.setIfInBounds_toArray, List.set_cons_succ, List.set_cons_zero]
                    go_simp
                    refine hK _ wz (Below.refl _ _) (Fact.eq_mk ?_)
                    with_reducible rfl
                  refine F2.Steps.consO rfl ?_ ?_
                  · intro vz wz hBz hDz hTz K hK
                    have E51 : vz 51 = _ := hDz 0 (by kernel_rfl) rfl
                    have E52 : vz 52 = _ := hDz 1 (by kernel_rfl) rfl
                    replace hK := hK.out
                    simp only [actv, fill, Act.put, F2.fc, List.getD_cons_zero, List.getD_cons_succ, List.foldl_cons, List.foldl_nil, List.setIfInBounds_toArray, List.set_cons_succ, List.set_cons_zero] at hK
                    apply Kept.mk
                    simp only [F2.Wp, Act.put, actv, fill, List.foldl_cons, List.foldl_nil, List.setIfInBounds_toArray, List.set_cons_succ, List.set_cons_zero]
                    simp only [E51, E52] at hK ⊢
                    go_simp
                    refine hK _ wz (Below.refl _ _) (Fact.eq_mk ?_)
                    with_reducible rfl
                  refine F2.Steps.consO rfl ?_ ?_
                  · intro vz wz hBz hDz hTz K hK
                    have E53 : vz 53 = _ := hDz 2 (by kernel_rfl) rfl
                    have hez := hBz.blk he.drew (fun h => by cases h)
                    have ez0 : wz.cell? ⟨w3.heap.size, i * 2, none⟩ = some (.bool (two n0 n1 i)) := (hez.cell _).trans ((two_cells _ _ _ _ i hi2).1.trans (congrArg some (two_map Value.bool n0 n1 i)))
                    have ez1 : wz.cell? ⟨w3.heap.size, i * 2 + 1, none⟩ = some (.slice (two A0 A1 i) (two l0 l1 i) (two c0 c1 i)) := (hez.cell _).trans ((two_cells _ _ _ _ i hi2).2.trans (congrArg some (two_slice A0 A1 l0 l1 c0 c1 i)))
                    replace hK := hK.out
                    simp only [actv, fill, Act.put, F2.fc, List.getD_cons_zero, List.getD_cons_succ, List.foldl_cons, List.foldl_nil, List.setIfInBounds_toArray, List.set_cons_succ, List.set_cons_zero] at hK
                    apply Kept.mk
                    simp only [F2.Wp, Act.put, actv, fill, List.foldl_cons, List.foldl_nil, List.setIfInBounds_toArray, List.set_cons_succ, List.set_cons_zero]
                    simp only [E53] at hK ⊢
                    go_simp
                    refine hK _ wz (Below.refl _ _) (Fact.eq_mk ?_)
                    with_reducible rfl
                  refine F2.Steps.consO rfl ?_ ?_
                  · intro vz wz hBz hDz hTz K hK
                    replace hK := hK.out
                    simp only [actv, fill, Act.put, F2.fc, List.getD_cons_zero, List.getD_cons_succ, List.foldl_cons, List.foldl_nil, List.setIfInBounds_toArray, List.set_cons_succ, List.set_cons_zero] at hK
                    apply Kept.mk
                    simp only [F2.Wp, Act.put, actv, fill, List.foldl_cons, List.foldl_nil, List.setIfInBounds_toArray, List.set_cons_succ, List.set_cons_zero]
                    go_simp
                    refine hK _ wz (Below.refl _ _) (Fact.eq_mk ?_)
                    with_reducible rfl
                  refine F2.Steps.consO rfl ?_ ?_
                  · intro vz wz hBz hDz hTz K hK
                    have E55 : vz 55 = _ := hDz 4 (by kernel_rfl) rfl
                    have haz := hBz.blk ha.drew (fun h => by cases h)
                    obtain ⟨hazc0, hazc1, hazc2, hazc3, hazc4, -⟩ := haz.five
                    replace hK := hK.out
                    simp only [actv, fill, Act.put, F2.fc, List.getD_cons_zero, List.getD_cons_succ, List.foldl_cons, List.foldl_nil, List.setIfInBounds_toArray, List.set_cons_succ, List.set_cons_zero] at hK
                    apply Kept.mk
                    simp only [F2.Wp, Act.put, actv, fill, List.foldl_cons, List.foldl_nil, List.setIfInBounds_toArray, List.set_cons_succ, List.set_cons_zero]
                    simp only [E55] at hK ⊢
                    go_simp
                    refine hK _ wz (Below.refl _ _) (Fact.eq_mk ?_)
                    with_reducible rfl
                  refine F2.Steps.consO rfl ?_ ?_
                  · intro vz wz hBz hDz hTz K hK
                    have E54 : vz 54 = _ := hDz 3 (by kernel_rfl) rfl
                    have E56 : vz 56 = _ := hDz 5 (by kernel_rfl) rfl
                    have HW := ext_drew hBz.ext
                    replace hK := hK.out
                    simp only [actv, fill, Act.put, F2.fc, List.getD_cons_zero, List.getD_cons_succ, List.foldl_cons, List.foldl_nil, List.setIfInBounds_toArray, List.set_cons_succ, List.set_cons_zero] at hK
                    apply Kept.mk
                    simp only [F2.Wp, Act.put, actv, fill, List.foldl_cons, List.foldl_nil, List.setIfInBounds_toArray, List.set_cons_succ, List.set_cons_zero]
                    simp only [E54, E56] at hK ⊢
                    go_simp
                    refine Calls.mono (HXI.out ▸ d_shlI qa ((two_q X0 X1 i).ext HW) (by omega) (by omega) (by omega)) ?_
                    rintro e w2z ⟨hb2, u, d, rfl, hu, hd⟩
                    go_wp2_with fail
                    exact hK _ w2z hb2 (intV (hu.mono (Nat.le_trans hSr hBz.size)) hd HLX.out)
                  refine F2.Steps.consA rfl ⟨NoU.two (by intro x h; cases h) (by intro x h; cases h), ?_⟩ ?_
                  · intro vz wz hBz K hK
                    replace hK := hK.out
                    simp only [actv, fill, Act.put, F2.fc, List.getD_cons_zero, List.getD_cons_succ, List.foldl_cons, List.foldl_nil, List.setIfInBounds_toArray, List.set_cons_succ, List.set_cons_zero] at hK
                    apply Kept.mk
                    simp only [F2.Wp, Act.put, actv, fill, List.foldl_cons, List.foldl_nil, List.setIfInBounds_toArray, List.set_cons_succ, List.set_cons_zero]
                    go_simp
                    exact hK
                  refine F2.Steps.consS rfl rfl ?_ ?_
                  · intro vz wz gz hBz hDz E13 hgz hbz K hK
                    obtain ⟨zc0, zc1, zc2, zc3⟩ := hbz.two
                    obtain ⟨n57_, A57_, l57_, c57_, E57, q57⟩ : IntV _ _ _ wz (vz 57) := hDz 6 (by kernel_rfl) rfl
                    have E13' : vz 13 = .pointer (some ⟨gz, 0, none⟩) := E13
                    replace hK := hK.out
                    simp only [actv, fill, Act.put, F2.fc, List.getD_cons_zero, List.getD_cons_succ, List.foldl_cons, List.foldl_nil, List.setIfInBounds_toArray, List.set_cons_succ, List.set_cons_zero] at hK
                    apply Kept.mk
                    simp only [F2.Wp, Act.put, actv, fill, List.foldl_cons, List.foldl_nil, List.setIfInBounds_toArray, List.set_cons_succ, List.set_cons_zero]
                    simp only [E13', E57] at hK ⊢
                    go_simp
                    exact hK _ ((Far.set _ gz 0 _).trans (Far.set _ gz 1 _)) ⟨_, blk_two hbz, NoU.two (by intro x h; cases h) (by intro x h; cases h), ⟨_, _, _, _, rfl, q57⟩⟩
                  exact F2.Steps.nil
                case finx =>
                  intro vz wx hBz ⟨hOz, hAz, hNz, hSz⟩
                  have E51 : vz 51 = _ := hOz 0 (by decide) rfl
                  have E52 : vz 52 = _ := hOz 1 (by decide) rfl
                  have E53 : vz 53 = _ := hOz 2 (by decide) rfl
                  have E54 : vz 54 = _ := hOz 3 (by decide) rfl
                  have E55 : vz 55 = _ := hOz 4 (by decide) rfl
                  have E56 : vz 56 = _ := hOz 5 (by decide) rfl
                  obtain ⟨n57_, A57_, l57_, c57_, E57, q57⟩ : IntV _ _ _ wx (vz 57) := hOz 6 (by decide) rfl
                  obtain ⟨g13, cs13, E13, hg13, hb13, hs13, hz13⟩ := hAz 7 _ _ (by decide) rfl
                  obtain ⟨n13_, A13_, l13_, c13_, e13_, q13⟩ : IntV _ _ _ wx (.agg cs13) := hs13 8 (by decide) rfl
                  injection e13_ with e13_
                  subst e13_
                  simp only [Act.put, actv, fill, List.foldl_cons, List.foldl_nil, List.setIfInBounds_toArray, List.set_cons_succ, List.set_cons_zero]
                  simp only [E51, E52, E53, E54, E55, E56, E57, (show vz 13 = _ from E13)]
                  clear hOz hAz hNz hSz hs13 hz13
                  have hBx := (hBz.below (B := wr.heap.size) (Nat.le_refl _) (fun g hg => by cases hg))
                  have ha := ha.below hBx ha.lt
                  have hy := hy.below hBx hy.lt
                  have he := he.below hBx he.lt
                  have X0 := X0.below hBx
                  have X1 := X1.below hBx
                  have Y0 := Y0.below hBx
                  have Y1 := Y1.below hBx
                  have hL := hL.below hBx
                  have hH := hH.below hBx
                  have hBl := hBl.trans (hBx.mono hBl.size)
                  have hSr := hBl.size
                  have h13 : g13 ∉ u7.ownBlock.toList := not_own hL13 hg13
                  clear hBx hBz he hg13 hL13
                  obtain ⟨yj, HYJ⟩ : ∃ z, Hid (two y0 y1 j = z) := ⟨_, hide rfl⟩
                  have HYJ0 : Hid (yj ≠ 0) := hide (by rw [← HYJ.out]; unfold two; split; exact HYN.out.1; exact HYN.out.2)
                  have QYJ := two_q Y0 Y1 j
                  rw [HYJ.out] at QYJ
                  obtain ⟨gz', HGZ⟩ : ∃ z, Hid (vUp xi yj = z) := ⟨_, hide rfl⟩
                  have HLG : Hid (gz'.natAbs < W ^ (k + 34)) := hide (by rw [← HGZ.out]; exact vUp_lt HYJ0.out HLX.out)
                  obtain ⟨fz', HFZ⟩ : ∃ z, Hid (-vUp (-xi) yj = z) := ⟨_, hide rfl⟩
                  have HLF : Hid (fz'.natAbs < W ^ (k + 34)) := hide (by rw [← HFZ.out, Int.natAbs_neg]; exact vUp_lt HYJ0.out (by rw [Int.natAbs_neg]; exact HLX.out))
                  go_upto_region 17 with (fail)
                  refine wp_region_noPanic ?_
                  refine wp_region_any (by kernel_rfl) ?_
                  refine wpAny_take (i := 0) (v := u7) rfl (by kernel_rfl) (by kernel_rfl) (by kernel_rfl) (fun _ _ _ h => h) (Or.inl ⟨by rfl, fun w => by go_simp⟩) ?_
                  simp only [List.getElem_toArray, List.getElem_cons_succ, List.getElem_cons_zero, Act.put, List.setIfInBounds_toArray, List.set_cons_zero, List.set_cons_succ]
                  refine F2.tail_one [.o, .o, .o, .o, .o, .o, .o, .t, .t, .t] [Fact.eq u7, Fact.eq ?cy59, Fact.eq ?cy60, Fact.eq ?cy61, Fact.eq ?cy62, Fact.eq ?cy63, Fact.int wS.heap.size (k + 34) fz', Fact.any, Fact.any, Fact.any] [58, 59, 60, 61, 62, 63, 64] [58, 59, 60, 61, 62, 63, 64, 65, 66, 7] 3 0 _ _ rfl (by kernel_rfl) rfl ?fiy ?soy ?sopy (by kernel_rfl) (by kernel_rfl) (by kernel_rfl) (by decide) ?sty ?finy
                  case fiy => exact Fact.eq_mk rfl
                  case soy => exact fun x hx => by cases hx
                  case sopy => exact List.Pairwise.nil
                  case sty =>
                    refine F2.Steps.consO rfl ?_ ?_
                    · intro vz wz hBz hDz hTz K hK
                      replace hK := hK.out
                      simp only [actv, fill, Act.put, F2.fc, List.getD_cons_zero, List.getD_cons_succ, List.foldl_cons, List.foldl_nil, List.setIfInBounds_toArray, List.set_cons_succ, List.set_cons_zero] at hK
                      apply Kept.mk
                      simp only [F2.Wp, Act.put, actv, fill, List.foldl_cons, List.foldl_nil, List.setIfInBounds_toArray, List.set_cons_succ, List.set_cons_zero]
                      go_simp
                      exact hK _ wz (Below.refl _ _) (Fact.eq_mk rfl)
                    refine F2.Steps.consO rfl ?_ ?_
                    · intro vz wz hBz hDz hTz K hK
                      have hb13z := hBz.blk hb13.drew (fun h => by cases h)
                      obtain ⟨hb13zc0, hb13zc1, -⟩ := hb13z.two
                      replace hK := hK.out
                      simp only [actv, fill, Act.put, F2.fc, List.getD_cons_zero, List.getD_cons_succ, List.foldl_cons, List.foldl_nil, List.setIfInBounds_toArray, List.set_cons_succ, List.set_cons_zero] at hK
                      apply Kept.mk
                      simp only [F2.Wp, Act.put, actv, fill, List.foldl_cons, List.foldl_nil, List.setIfInBounds_toArray, List.set_cons_succ, List.set_cons_zero]
                      go_simp
                      refine hK _ wz (Below.refl _ _) (Fact.eq_mk ?_)
                      with_reducible rfl
                    refine F2.Steps.consO rfl ?_ ?_
                    · intro vz wz hBz hDz hTz K hK
                      replace hK := hK.out
                      simp only [actv, fill, Act.put, F2.fc, List.getD_cons_zero, List.getD_cons_succ, List.foldl_cons, List.foldl_nil, List.setIfInBounds_toArray, List.set_cons_succ, List.set_cons_zero] at hK
                      apply Kept.mk
                      simp only [F2.Wp, Act.put, actv, fill, List.foldl_cons, List.foldl_nil, List.setIfInBounds_toArray, List.set_cons_succ, List.set_cons_zero]
                      go_simp
                      refine hK _ wz (Below.refl _ _) (Fact.eq_mk ?_)
                      with_reducible rfl
                    refine F2.Steps.consO rfl ?_ ?_
                    · intro vz wz hBz hDz hTz K hK
                      replace hK := hK.out
                      simp only [actv, fill, Act.put, F2.fc, List.getD_cons_zero, List.getD_cons_succ, List.foldl_cons, List.foldl_nil, List.setIfInBounds_toArray, List.set_cons_succ, List.set_cons_zero] at hK
                      apply Kept.mk
                      simp only [F2.Wp, Act.put, actv, fill, List.foldl_cons, List.foldl_nil, List.setIfInBounds_toArray, List.set_cons_succ, List.set_cons_zero]
                      go_simp
                      refine hK _ wz (Below.refl _ _) (Fact.eq_mk ?_)
                      with_reducible rfl
                    refine F2.Steps.consO rfl ?_ ?_
                    · intro vz wz hBz hDz hTz K hK
                      have E60 : vz 60 = _ := hDz 2 (by kernel_rfl) rfl
                      have E61 : vz 61 = _ := hDz 3 (by kernel_rfl) rfl
                      replace hK := hK.out
                      simp only [actv, fill, Act.put, F2.fc, List.getD_cons_zero, List.getD_cons_succ, List.foldl_cons, List.foldl_nil, List.setIfInBounds_toArray, List.set_cons_succ, List.set_cons_zero] at hK
                      apply Kept.mk
                      simp only [F2.Wp, Act.put, actv, fill, List.foldl_cons, List.foldl_nil, List.setIfInBounds_toArray, List.set_cons_succ, List.set_cons_zero]
                      simp only [E60, E61] at hK ⊢
                      go_simp
                      refine hK _ wz (Below.refl _ _) (Fact.eq_mk ?_)
                      with_reducible rfl
                    refine F2.Steps.consO rfl ?_ ?_
                    · intro vz wz hBz hDz hTz K hK
                      have E62 : vz 62 = _ := hDz 4 (by kernel_rfl) rfl
                      have hyz := hBz.blk hy.drew (fun h => by cases h)
                      have ez0 : wz.cell? ⟨wR.heap.size, j * 2, none⟩ = some (.bool (two m0 m1 j)) := (hyz.cell _).trans ((two_cells _ _ _ _ j hj2).1.trans (congrArg some (two_map Value.bool m0 m1 j)))
                      have ez1 : wz.cell? ⟨wR.heap.size, j * 2 + 1, none⟩ = some (.slice (two B0 B1 j) (two j0 j1 j) (two d0 d1 j)) := (hyz.cell _).trans ((two_cells _ _ _ _ j hj2).2.trans (congrArg some (two_slice B0 B1 j0 j1 d0 d1 j)))
                      replace hK := hK.out
                      simp only [actv, fill, Act.put, F2.fc, List.getD_cons_zero, List.getD_cons_succ, List.foldl_cons, List.foldl_nil, List.setIfInBounds_toArray, List.set_cons_succ, List.set_cons_zero] at hK
                      apply Kept.mk
                      simp only [F2.Wp, Act.put, actv, fill, List.foldl_cons, List.foldl_nil, List.setIfInBounds_toArray, List.set_cons_succ, List.set_cons_zero]
                      simp only [E62] at hK ⊢
                      go_simp
                      refine hK _ wz (Below.refl _ _) (Fact.eq_mk ?_)
                      with_reducible rfl
                    refine F2.Steps.consO rfl ?_ ?_
                    · intro vz wz hBz hDz hTz K hK
                      have E59 : vz 59 = _ := hDz 1 (by kernel_rfl) rfl
                      have E63 : vz 63 = _ := hDz 5 (by kernel_rfl) rfl
                      have HW := ext_drew hBz.ext
                      replace hK := hK.out
                      simp only [actv, fill, Act.put, F2.fc, List.getD_cons_zero, List.getD_cons_succ, List.foldl_cons, List.foldl_nil, List.setIfInBounds_toArray, List.set_cons_succ, List.set_cons_zero] at hK
                      apply Kept.mk
                      simp only [F2.Wp, Act.put, actv, fill, List.foldl_cons, List.foldl_nil, List.setIfInBounds_toArray, List.set_cons_succ, List.set_cons_zero]
                      simp only [E59, E63] at hK ⊢
                      go_simp
                      refine Calls.mono (HFZ.out ▸ floor5_calls (q13.q.ext HW) (QYJ.ext HW) (by omega) (by omega) HYJ0.out) ?_
                      rintro e w2z ⟨hb2, u, d, rfl, hu, hd⟩
                      go_wp2_with fail
                      exact hK _ w2z hb2 (intV (hu.mono (Nat.le_trans hSr hBz.size)) hd HLF.out)
                    refine F2.Steps.consX rfl ?_
                    refine F2.Steps.consX rfl ?_
                    refine F2.Steps.consX rfl ?_
                    exact F2.Steps.nil
                  case finy =>
                    intro vz wy fz hBz ⟨hOz, hAz, hNz, hSz⟩
                    have E58 : vz 58 = _ := hOz 0 (by decide) rfl
                    have E59 : vz 59 = _ := hOz 1 (by decide) rfl
                    have E60 : vz 60 = _ := hOz 2 (by decide) rfl
                    have E61 : vz 61 = _ := hOz 3 (by decide) rfl
                    have E62 : vz 62 = _ := hOz 4 (by decide) rfl
                    have E63 : vz 63 = _ := hOz 5 (by decide) rfl
                    obtain ⟨n64_, A64_, l64_, c64_, E64, q64⟩ : IntV _ _ _ wy (vz 64) := hOz 6 (by decide) rfl
                    simp only [Act.put, actv, fill, List.foldl_cons, List.foldl_nil, List.setIfInBounds_toArray, List.set_cons_succ, List.set_cons_zero]
                    simp only [E58, E59, E60, E61, E62, E63, E64]
                    clear hOz hAz hNz hSz
                    have HBy := (hBz.below (B := wx.heap.size) (Nat.le_refl _) (fun g hg => by cases hg))
                    have hL := hL.below HBy
                    have q64' : QB wy wS.heap.size (k + 34) n64_ A64_ l64_ c64_ fz' := q64
                    refine wpAny_ready (rs := [7]) (by kernel_rfl) (by simp) (AllReady.cons rfl (fun K hK => ?_) AllReady.nil)
                    go_simp
                    refine hK _ _ ?_
                    clear hK K
                    obtain ⟨wb, hW, hsl, vb, hs⟩ := start1 wy 25 #[.bool n64_, .slice A64_ l64_ c64_]
                    rw [← hW]
                    have hL := hL.below vb
                    have q64' := q64'.below vb
                    obtain ⟨L2, wc, hr1, hL2, hg2, hap, hex2⟩ := hL.push hsl q64' (by rw [len_take_four F _ (by omega)]; omega) (Nat.le_trans hBl.size (by have h1 := HBy.size; have h2 := vb.size; omega)) _
                    refine wpAny_ready (rs := [8]) (by kernel_rfl) (by simp) (AllReady.cons rfl (fun K hK => ?_) AllReady.nil)
                    rw [if_pos (by rfl)]
                    refine wp_append (.tmp 58) (.tmp 65) 63 _ _ rfl rfl rfl hr1 ?_
                    refine hK _ _ ?_
                    clear hK K
                    refine wpAny_ready (rs := [9]) (by kernel_rfl) (by simp) (AllReady.cons rfl (fun K hK => ?_) AllReady.nil)
                    go_simp
                    refine hK _ _ ?_
                    clear hK K
                    refine F2.wpAny_nil (by kernel_rfl) ?_ fz
                    refine NoPanic.normal ?_
                    have HT := HBy.trans (vb.mono HBy.size)
                    have HZ : Low u7.ownBlock.toList wx wc := ((Low.refl u7.ownBlock.toList wx).grow HT).step (low_own hg2 hex2) (fun g hg => Or.inl hg)
                    have hy := HZ.blk hy (hL.far (by omega))
                    have hb13 := HZ.blk hb13 h13
                    have q13 := q13.ext HZ.ext
                    have QYJ := QYJ.ext HZ.ext
                    have hH0 := hH
                    have hH := (hH.below HT).step hg2 (off_or hD) hex2
                    have hD := off_grow hD hap (fun g hg => by have h1 := (hH0.lt g hg).2; have h2 := HT.size; omega)
                    have hBl := hBl.trans (HZ.below (B := wS.heap.size) hBl.size hL.near)
                    have hSr := hBl.size
                    clear HT HZ hL hap hg2 hex2 HBy vb hs hsl q64 q64' h13 hW hr1 hH0
                    go_upto_region 18 with (fail)
                    refine F2.region [.o, .o, .o, .o, .o, .o, .o, .o, .o, .al 25 #[.bool false, .slice none 0 0], .st 9, .o] [Fact.eq ?cv68, Fact.eq ?cv69, Fact.eq ?cv70, Fact.eq ?cv71, Fact.eq ?cv72, Fact.intf wS.heap.size (k + 34) gz' (.bool true), Fact.intf wS.heap.size (k + 34) gz' (.bool true), Fact.int wS.heap.size (k + 34) gz', Fact.eq (.bool true), Fact.any, Fact.int wS.heap.size (k + 34) gz', Fact.eq (.bool true)] [68, 69, 70, 71, 72, 73, 67, 74, 75, 14, 15] [68, 69, 70, 71, 72, 73, 67, 74, 75, 14, 0, 15] (by kernel_rfl) ?sov ?sopv (by kernel_rfl) ?stv ?finv
                    case sov => exact fun x hx => by cases hx
                    case sopv => exact List.Pairwise.nil
                    case stv =>
                      refine F2.Steps.consO rfl ?_ ?_
                      · intro vz wz hBz hDz hTz K hK
                        have hb13z := hBz.blk hb13.drew (fun h => by cases h)
                        obtain ⟨hb13zc0, hb13zc1, -⟩ := hb13z.two
                        replace hK := hK.out
                        simp only [actv, fill, Act.put, F2.fc, List.getD_cons_zero, List.getD_cons_succ, List.foldl_cons, List.foldl_nil, List.setIfInBounds_toArray, List.set_cons_succ, List.set_cons_zero] at hK
                        apply Kept.mk
                        simp only [F2.Wp, Act.put, actv, fill, List.foldl_cons, List.foldl_nil, List.setIfInBounds_toArray, List.set_cons_succ, List.set_cons_zero]
                        go_simp
                        refine hK _ wz (Below.refl _ _) (Fact.eq_mk ?_)
                        with_reducible rfl
                      refine F2.Steps.consO rfl ?_ ?_
                      · intro vz wz hBz hDz hTz K hK
                        replace hK := hK.out
                        simp only [actv, fill, Act.put, F2.fc, List.getD_cons_zero, List.getD_cons_succ, List.foldl_cons, List.foldl_nil, List.setIfInBounds_toArray, List.set_cons_succ, List.set_cons_zero] at hK
                        apply Kept.mk
                        simp only [F2.Wp, Act.put, actv, fill, List.foldl_cons, List.foldl_nil, List.setIfInBounds_toArray, List.set_cons_succ, List.set_cons_zero]
                        go_simp
                        refine hK _ wz (Below.refl _ _) (Fact.eq_mk ?_)
                        with_reducible rfl
                      refine F2.Steps.consO rfl ?_ ?_
                      · intro vz wz hBz hDz hTz K hK
                        replace hK := hK.out
                        simp only [actv, fill, Act.put, F2.fc, List.getD_cons_zero, List.getD_cons_succ, List.foldl_cons, List.foldl_nil, List.setIfInBounds_toArray, List.set_cons_succ, List.set_cons_zero] at hK
                        apply Kept.mk
                        simp only [F2.Wp, Act.put, actv, fill, List.foldl_cons, List.foldl_nil, List.setIfInBounds_toArray, List.set_cons_succ, List.set_cons_zero]
                        go_simp
                        refine hK _ wz (Below.refl _ _) (Fact.eq_mk ?_)
                        with_reducible rfl
                      refine F2.Steps.consO rfl ?_ ?_
                      · intro vz wz hBz hDz hTz K hK
                        have E69 : vz 69 = _ := hDz 1 (by kernel_rfl) rfl
                        have E70 : vz 70 = _ := hDz 2 (by kernel_rfl) rfl
                        replace hK := hK.out
                        simp only [actv, fill, Act.put, F2.fc, List.getD_cons_zero, List.getD_cons_succ, List.foldl_cons, List.foldl_nil, List.setIfInBounds_toArray, List.set_cons_succ, List.set_cons_zero] at hK
                        apply Kept.mk
                        simp only [F2.Wp, Act.put, actv, fill, List.foldl_cons, List.foldl_nil, List.setIfInBounds_toArray, List.set_cons_succ, List.set_cons_zero]
                        simp only [E69, E70] at hK ⊢
                        go_simp
                        refine hK _ wz (Below.refl _ _) (Fact.eq_mk ?_)
                        with_reducible rfl
                      refine F2.Steps.consO rfl ?_ ?_
                      · intro vz wz hBz hDz hTz K hK
                        have E71 : vz 71 = _ := hDz 3 (by kernel_rfl) rfl
                        have hyz := hBz.blk hy.drew (fun h => by cases h)
                        have ez0 : wz.cell? ⟨wR.heap.size, j * 2, none⟩ = some (.bool (two m0 m1 j)) := (hyz.cell _).trans ((two_cells _ _ _ _ j hj2).1.trans (congrArg some (two_map Value.bool m0 m1 j)))
                        have ez1 : wz.cell? ⟨wR.heap.size, j * 2 + 1, none⟩ = some (.slice (two B0 B1 j) (two j0 j1 j) (two d0 d1 j)) := (hyz.cell _).trans ((two_cells _ _ _ _ j hj2).2.trans (congrArg some (two_slice B0 B1 j0 j1 d0 d1 j)))
                        replace hK := hK.out
                        simp only [actv, fill, Act.put, F2.fc, List.getD_cons_zero, List.getD_cons_succ, List.foldl_cons, List.foldl_nil, List.setIfInBounds_toArray, List.set_cons_succ, List.set_cons_zero] at hK
                        apply Kept.mk
                        simp only [F2.Wp, Act.put, actv, fill, List.foldl_cons, List.foldl_nil, List.setIfInBounds_toArray, List.set_cons_succ, List.set_cons_zero]
                        simp only [E71] at hK ⊢
                        go_simp
                        refine hK _ wz (Below.refl _ _) (Fact.eq_mk ?_)
                        with_reducible rfl
                      refine F2.Steps.consO rfl ?_ ?_
                      · intro vz wz hBz hDz hTz K hK
                        have E68 : vz 68 = _ := hDz 0 (by kernel_rfl) rfl
                        have E72 : vz 72 = _ := hDz 4 (by kernel_rfl) rfl
                        have HW := ext_drew hBz.ext
                        replace hK := hK.out
                        simp only [actv, fill, Act.put, F2.fc, List.getD_cons_zero, List.getD_cons_succ, List.foldl_cons, List.foldl_nil, List.setIfInBounds_toArray, List.set_cons_succ, List.set_cons_zero] at hK
                        apply Kept.mk
                        simp only [F2.Wp, Act.put, actv, fill, List.foldl_cons, List.foldl_nil, List.setIfInBounds_toArray, List.set_cons_succ, List.set_cons_zero]
                        simp only [E68, E72] at hK ⊢
                        go_simp
                        refine Calls.mono (HGZ.out ▸ up2_calls (q13.q.ext HW) (QYJ.ext HW) (by omega) (by omega) HYJ0.out) ?_
                        rintro e w2z ⟨hb2, u, d, rfl, hu, hd⟩
                        go_wp2_with fail
                        exact hK _ w2z hb2 (⟨_, rfl, intV (hu.mono (Nat.le_trans hSr hBz.size)) hd HLG.out⟩)
                      refine F2.Steps.consO rfl ?_ ?_
                      · intro vz wz hBz hDz hTz K hK
                        obtain ⟨x73_, E73, hx73⟩ := (show ∃ a, vz 73 = .tuple #[a, _] ∧ IntV _ _ _ wz a from hDz 5 (by kernel_rfl) rfl)
                        replace hK := hK.out
                        simp only [actv, fill, Act.put, F2.fc, List.getD_cons_zero, List.getD_cons_succ, List.foldl_cons, List.foldl_nil, List.setIfInBounds_toArray, List.set_cons_succ, List.set_cons_zero] at hK
                        apply Kept.mk
                        simp only [F2.Wp, Act.put, actv, fill, List.foldl_cons, List.foldl_nil, List.setIfInBounds_toArray, List.set_cons_succ, List.set_cons_zero]
                        simp only [E73] at hK ⊢
                        go_simp
                        exact hK _ wz (Below.refl _ _) (⟨_, rfl, hx73⟩)
                      refine F2.Steps.consO rfl ?_ ?_
                      · intro vz wz hBz hDz hTz K hK
                        obtain ⟨x67_, E67, hx67⟩ := (show ∃ a, vz 67 = .tuple #[a, _] ∧ IntV _ _ _ wz a from hDz 6 (by kernel_rfl) rfl)
                        replace hK := hK.out
                        simp only [actv, fill, Act.put, F2.fc, List.getD_cons_zero, List.getD_cons_succ, List.foldl_cons, List.foldl_nil, List.setIfInBounds_toArray, List.set_cons_succ, List.set_cons_zero] at hK
                        apply Kept.mk
                        simp only [F2.Wp, Act.put, actv, fill, List.foldl_cons, List.foldl_nil, List.setIfInBounds_toArray, List.set_cons_succ, List.set_cons_zero]
                        simp only [E67] at hK ⊢
                        go_simp
                        exact hK _ wz (Below.refl _ _) (hx67)
                      refine F2.Steps.consO rfl ?_ ?_
                      · intro vz wz hBz hDz hTz K hK
                        obtain ⟨x67_, E67, hx67⟩ := (show ∃ a, vz 67 = .tuple #[a, _] ∧ IntV _ _ _ wz a from hDz 6 (by kernel_rfl) rfl)
                        replace hK := hK.out
                        simp only [actv, fill, Act.put, F2.fc, List.getD_cons_zero, List.getD_cons_succ, List.foldl_cons, List.foldl_nil, List.setIfInBounds_toArray, List.set_cons_succ, List.set_cons_zero] at hK
                        apply Kept.mk
                        simp only [F2.Wp, Act.put, actv, fill, List.foldl_cons, List.foldl_nil, List.setIfInBounds_toArray, List.set_cons_succ, List.set_cons_zero]
                        simp only [E67] at hK ⊢
                        go_simp
                        exact hK _ wz (Below.refl _ _) (rfl)
                      refine F2.Steps.consA rfl ⟨NoU.two (by intro x h; cases h) (by intro x h; cases h), ?_⟩ ?_
                      · intro vz wz hBz K hK
                        replace hK := hK.out
                        simp only [actv, fill, Act.put, F2.fc, List.getD_cons_zero, List.getD_cons_succ, List.foldl_cons, List.foldl_nil, List.setIfInBounds_toArray, List.set_cons_succ, List.set_cons_zero] at hK
                        apply Kept.mk
                        simp only [F2.Wp, Act.put, actv, fill, List.foldl_cons, List.foldl_nil, List.setIfInBounds_toArray, List.set_cons_succ, List.set_cons_zero]
                        go_simp
                        exact hK
                      refine F2.Steps.consS rfl rfl ?_ ?_
                      · intro vz wz gz hBz hDz E14 hgz hbz K hK
                        obtain ⟨zc0, zc1, zc2, zc3⟩ := hbz.two
                        obtain ⟨n74_, A74_, l74_, c74_, E74, q74⟩ : IntV _ _ _ wz (vz 74) := hDz 7 (by kernel_rfl) rfl
                        have E14' : vz 14 = .pointer (some ⟨gz, 0, none⟩) := E14
                        replace hK := hK.out
                        simp only [actv, fill, Act.put, F2.fc, List.getD_cons_zero, List.getD_cons_succ, List.foldl_cons, List.foldl_nil, List.setIfInBounds_toArray, List.set_cons_succ, List.set_cons_zero] at hK
                        apply Kept.mk
                        simp only [F2.Wp, Act.put, actv, fill, List.foldl_cons, List.foldl_nil, List.setIfInBounds_toArray, List.set_cons_succ, List.set_cons_zero]
                        simp only [E14', E74] at hK ⊢
                        go_simp
                        exact hK _ ((Far.set _ gz 0 _).trans (Far.set _ gz 1 _)) ⟨_, blk_two hbz, NoU.two (by intro x h; cases h) (by intro x h; cases h), ⟨_, _, _, _, rfl, q74⟩⟩
                      refine F2.Steps.consO rfl ?_ ?_
                      · intro vz wz hBz hDz hTz K hK
                        have E75 : vz 75 = _ := hDz 8 (by kernel_rfl) rfl
                        replace hK := hK.out
                        simp only [actv, fill, Act.put, F2.fc, List.getD_cons_zero, List.getD_cons_succ, List.foldl_cons, List.foldl_nil, List.setIfInBounds_toArray, List.set_cons_succ, List.set_cons_zero] at hK
                        apply Kept.mk
                        simp only [F2.Wp, Act.put, actv, fill, List.foldl_cons, List.foldl_nil, List.setIfInBounds_toArray, List.set_cons_succ, List.set_cons_zero]
                        simp only [E75] at hK ⊢
                        go_simp
                        exact hK _ wz (Below.refl _ _) (rfl)
                      exact F2.Steps.nil
                    case finv =>
                      intro vz wt hBz ⟨hOz, hAz, hNz, hSz⟩
                      have E68 : vz 68 = _ := hOz 0 (by decide) rfl
                      have E69 : vz 69 = _ := hOz 1 (by decide) rfl
                      have E70 : vz 70 = _ := hOz 2 (by decide) rfl
                      have E71 : vz 71 = _ := hOz 3 (by decide) rfl
                      have E72 : vz 72 = _ := hOz 4 (by decide) rfl
                      obtain ⟨x73_, E73, hx73⟩ := (show ∃ a, vz 73 = .tuple #[a, _] ∧ IntV _ _ _ wt a from hOz 5 (by decide) rfl)
                      obtain ⟨x67_, E67, hx67⟩ := (show ∃ a, vz 67 = .tuple #[a, _] ∧ IntV _ _ _ wt a from hOz 6 (by decide) rfl)
                      obtain ⟨n74_, A74_, l74_, c74_, E74, q74⟩ : IntV _ _ _ wt (vz 74) := hOz 7 (by decide) rfl
                      have E75 : vz 75 = _ := hOz 8 (by decide) rfl
                      obtain ⟨g14, cs14, E14, hg14, hb14, hs14, hz14⟩ := hAz 9 _ _ (by decide) rfl
                      obtain ⟨n14_, A14_, l14_, c14_, e14_, q14⟩ : IntV _ _ _ wt (.agg cs14) := hs14 10 (by decide) rfl
                      injection e14_ with e14_
                      subst e14_
                      have E15 : vz 15 = _ := hOz 11 (by decide) rfl
                      simp only [Act.put, actv, fill, List.foldl_cons, List.foldl_nil, List.setIfInBounds_toArray, List.set_cons_succ, List.set_cons_zero]
                      simp only [E68, E69, E70, E71, E72, E73, E67, E74, E75, (show vz 14 = _ from E14), E15]
                      clear hOz hAz hNz hSz hs14 hz14
                      have HBt := (hBz.below (B := wc.heap.size) (Nat.le_refl _) (fun g hg => by cases hg))
                      have hL := hL2.below HBt
                      have hH := hH.below HBt
                      have hBl := hBl.trans (HBt.mono hBl.size)
                      have hszH : wc.heap.size ≤ wt.heap.size := HBt.size
                      have hD := (fun g a b => hD g b a : ∀ g, u8.ownBlock = some g → L2.ownBlock = some g → False)
                      obtain ⟨zc0, zc1, -, -⟩ := hb14.two
                      have hLt := fun g hg => Nat.lt_of_lt_of_le (hL.lt g hg).2 (below_alloc wt (.cells #[.bool n14_, .slice A14_ l14_ c14_] 25)).size
                      have HBA := below_alloc wt (.cells #[.bool n14_, .slice A14_ l14_ c14_] 25)
                      have hszA := Nat.le_trans hBl.size HBA.size
                      clear HBt hBz
                      go_wp2_with (at_builtin; refine wpList_appendV rfl _ _ rfl rfl (hH.below HBA) rfl (Blk.new _ _ _) (q14.below HBA) (by rw [len_take_four G _ (by omega)]; omega) hszA ?_; intro H2 wd hH2 hgr hap hlow)
                      have hBA2 := HBA
                      have hL := (hL.below HBA).step hgr (off_or hD) hlow.ext
                      have hD := off_grow hD hap (fun g hg => ((hLt g hg)))
                      have hBl := (hBl.trans (HBA.mono hBl.size)).trans (hlow.below (B := wS.heap.size) hszA (hH.below HBA).near)
                      have eL : RowV wd wS.heap.size (k + 34) L2 ([F 0, F 1, F 2, F 3].take (2 * i + (j + 1))) := by
                        rw [show 2 * i + (j + 1) = (2 * i + j) + 1 by omega, take_four F _ (by omega), show F (2 * i + j) = fz' from ?_]
                        · exact hL
                        · rw [HF.out]
                          show vLo qa (two x0 x1 ((2 * i + j) / 2)) (two y0 y1 ((2 * i + j) % 2)) = _
                          rw [show (2 * i + j) / 2 = i by omega, show (2 * i + j) % 2 = j by omega, HYJ.out]
                          unfold vLo
                          rw [HXI.out]
                          exact HFZ.out
                      have eH : RowV wd wS.heap.size (k + 34) H2 ([G 0, G 1, G 2, G 3].take (2 * i + (j + 1))) := by
                        rw [show 2 * i + (j + 1) = (2 * i + j) + 1 by omega, take_four G _ (by omega), show G (2 * i + j) = gz' from ?_]
                        · exact hH2
                        · rw [HG.out]
                          show vHi qa (two x0 x1 ((2 * i + j) / 2)) (two y0 y1 ((2 * i + j) % 2)) = _
                          rw [show (2 * i + j) / 2 = i by omega, show (2 * i + j) % 2 = j by omega, HYJ.out]
                          unfold vHi
                          rw [HXI.out]
                          exact HGZ.out
                      have hD := (fun g a b => hD g b a : ∀ g, L2.ownBlock = some g → H2.ownBlock = some g → False)
                      clear hL hH hH2 hgr hap hlow HBA hszA
                      go_roundw
                      case rel => exact ⟨j + 1, by omega, by go_num, eL, eH, hD, hBl⟩
                      case measure => simp [intOf]; omega
              · have hj3 : j = 2 := by omega
                subst hj3
                have bj : ¬ ((2 : Nat) : Int) < 2 := by omega
                go_wp2_with fail
                go_roundw
                case rel => exact ⟨i + 1, by omega, by go_num, by rw [show 2 * (i + 1) = 2 * i + 2 by omega]; exact hL, by rw [show 2 * (i + 1) = 2 * i + 2 by omega]; exact hH, hD, hBl⟩
                case measure => simp [intOf]; omega
          · have hi3 : i = 2 := by omega
            subst hi3
            have bi : ¬ ((2 : Nat) : Int) < 2 := by omega
            have ha := ha.below hBl (by omega)
            have hr := hr.below hBl (by omega)
            have HB := hide (HB.out.trans (hBl.mono HB.out.size))
            have hSr := hBl.size
            have hL : RowV wr wS.heap.size (k + 34) u7 [F 0, F 1, F 2, F 3] := hL
            have hH : RowV wr wS.heap.size (k + 34) u8 [G 0, G 1, G 2, G 3] := hH
            clear hD hBl
            go_upto_region 20 with (fail)
            clear bi
            refine F2.region [.o, .o, .o, .o, .o, .o, .o, .so (w.heap.size + 2) 27 #[.bool false, .slice none 0 0, .bool false, .slice none 0 0, .int .i64 0], .o] [Fact.eq ?cf80, Fact.int wS.heap.size (k + 34) mn, Fact.eq ?cf82, Fact.int wS.heap.size (k + 34) mx, Fact.eq ?cf84, Fact.eq ?cf85, Fact.ball wS.heap.size (k + 34) mn mx qa, Fact.ball wS.heap.size (k + 34) mn mx qa, Fact.eq ?cf5] [80, 81, 82, 83, 84, 85, 86, 5] [80, 81, 82, 83, 84, 85, 86, 0, 5] (by kernel_rfl) ?sof ?sopf (by kernel_rfl) ?stf ?finf
            case sof => exact List.forall_mem_cons.2 ⟨⟨hr, NoU.five (by intro x h; cases h) (by intro x h; cases h) (by intro x h; cases h) (by intro x h; cases h) (by intro x h; cases h)⟩, fun x hx => by cases hx⟩
            case sopf => exact List.Pairwise.cons (fun y hy => by cases hy) (List.Pairwise.nil)
            case stf =>
              refine F2.Steps.consO rfl ?_ ?_
              · intro vz wz hBz hDz hTz K hK
                replace hK := hK.out
                simp only [actv, fill, Act.put, F2.fc, List.getD_cons_zero, List.getD_cons_succ, List.foldl_cons, List.foldl_nil, List.setIfInBounds_toArray, List.set_cons_succ, List.set_cons_zero] at hK
                apply Kept.mk
                simp only [F2.Wp, Act.put, actv, fill, List.foldl_cons, List.foldl_nil, List.setIfInBounds_toArray, List.set_cons_succ, List.set_cons_zero]
                go_simp
                refine hK _ wz (Below.refl _ _) (Fact.eq_mk ?_)
                with_reducible rfl
              refine F2.Steps.consO rfl ?_ ?_
              · intro vz wz hBz hDz hTz K hK
                have E80 : vz 80 = _ := hDz 0 (by kernel_rfl) rfl
                have HW := ext_drew hBz.ext
                have hLz := hL.drew.low1 hBz (g := w.heap.size + 2) (fun x hx => by simp [F2.olds] at hx; omega) (by omega)
                have hHz := hH.drew.low1 hBz (g := w.heap.size + 2) (fun x hx => by simp [F2.olds] at hx; omega) (by omega)
                replace hK := hK.out
                simp only [actv, fill, Act.put, F2.fc, List.getD_cons_zero, List.getD_cons_succ, List.foldl_cons, List.foldl_nil, List.setIfInBounds_toArray, List.set_cons_succ, List.set_cons_zero] at hK
                apply Kept.mk
                simp only [F2.Wp, Act.put, actv, fill, List.foldl_cons, List.foldl_nil, List.setIfInBounds_toArray, List.set_cons_succ, List.set_cons_zero]
                simp only [E80] at hK ⊢
                go_simp
                refine Calls.mono (HMN'.out ▸ RowV.least hLz (by omega)) ?_
                rintro e w2z ⟨hb2, n_, A_, l_, c_, rfl, hq⟩
                go_wp2_with fail
                exact hK _ w2z hb2 (⟨_, _, _, _, rfl, hq⟩)
              refine F2.Steps.consO rfl ?_ ?_
              · intro vz wz hBz hDz hTz K hK
                replace hK := hK.out
                simp only [actv, fill, Act.put, F2.fc, List.getD_cons_zero, List.getD_cons_succ, List.foldl_cons, List.foldl_nil, List.setIfInBounds_toArray, List.set_cons_succ, List.set_cons_zero] at hK
                apply Kept.mk
                simp only [F2.Wp, Act.put, actv, fill, List.foldl_cons, List.foldl_nil, List.setIfInBounds_toArray, List.set_cons_succ, List.set_cons_zero]
                go_simp
                refine hK _ wz (Below.refl _ _) (Fact.eq_mk ?_)
                with_reducible rfl
              refine F2.Steps.consO rfl ?_ ?_
              · intro vz wz hBz hDz hTz K hK
                have E82 : vz 82 = _ := hDz 2 (by kernel_rfl) rfl
                have HW := ext_drew hBz.ext
                have hLz := hL.drew.low1 hBz (g := w.heap.size + 2) (fun x hx => by simp [F2.olds] at hx; omega) (by omega)
                have hHz := hH.drew.low1 hBz (g := w.heap.size + 2) (fun x hx => by simp [F2.olds] at hx; omega) (by omega)
                replace hK := hK.out
                simp only [actv, fill, Act.put, F2.fc, List.getD_cons_zero, List.getD_cons_succ, List.foldl_cons, List.foldl_nil, List.setIfInBounds_toArray, List.set_cons_succ, List.set_cons_zero] at hK
                apply Kept.mk
                simp only [F2.Wp, Act.put, actv, fill, List.foldl_cons, List.foldl_nil, List.setIfInBounds_toArray, List.set_cons_succ, List.set_cons_zero]
                simp only [E82] at hK ⊢
                go_simp
                refine Calls.mono (HMX'.out ▸ RowV.greatest hHz (by omega)) ?_
                rintro e w2z ⟨hb2, n_, A_, l_, c_, rfl, hq⟩
                go_wp2_with fail
                exact hK _ w2z hb2 (⟨_, _, _, _, rfl, hq⟩)
              refine F2.Steps.consO rfl ?_ ?_
              · intro vz wz hBz hDz hTz K hK
                replace hK := hK.out
                simp only [actv, fill, Act.put, F2.fc, List.getD_cons_zero, List.getD_cons_succ, List.foldl_cons, List.foldl_nil, List.setIfInBounds_toArray, List.set_cons_succ, List.set_cons_zero] at hK
                apply Kept.mk
                simp only [F2.Wp, Act.put, actv, fill, List.foldl_cons, List.foldl_nil, List.setIfInBounds_toArray, List.set_cons_succ, List.set_cons_zero]
                go_simp
                refine hK _ wz (Below.refl _ _) (Fact.eq_mk ?_)
                with_reducible rfl
              refine F2.Steps.consO rfl ?_ ?_
              · intro vz wz hBz hDz hTz K hK
                have E84 : vz 84 = _ := hDz 4 (by kernel_rfl) rfl
                have haz := hBz.blk ha.drew (by simp [F2.olds] <;> omega)
                obtain ⟨hazc0, hazc1, hazc2, hazc3, hazc4, -⟩ := haz.five
                replace hK := hK.out
                simp only [actv, fill, Act.put, F2.fc, List.getD_cons_zero, List.getD_cons_succ, List.foldl_cons, List.foldl_nil, List.setIfInBounds_toArray, List.set_cons_succ, List.set_cons_zero] at hK
                apply Kept.mk
                simp only [F2.Wp, Act.put, actv, fill, List.foldl_cons, List.foldl_nil, List.setIfInBounds_toArray, List.set_cons_succ, List.set_cons_zero]
                simp only [E84] at hK ⊢
                go_simp
                refine hK _ wz (Below.refl _ _) (Fact.eq_mk ?_)
                with_reducible rfl
              refine F2.Steps.consO rfl ?_ ?_
              · intro vz wz hBz hDz hTz K hK
                obtain ⟨n81_, A81_, l81_, c81_, E81, q81⟩ : IntV _ _ _ wz (vz 81) := hDz 1 (by kernel_rfl) rfl
                obtain ⟨n83_, A83_, l83_, c83_, E83, q83⟩ : IntV _ _ _ wz (vz 83) := hDz 3 (by kernel_rfl) rfl
                have E85 : vz 85 = _ := hDz 5 (by kernel_rfl) rfl
                replace hK := hK.out
                simp only [actv, fill, Act.put, F2.fc, List.getD_cons_zero, List.getD_cons_succ, List.foldl_cons, List.foldl_nil, List.setIfInBounds_toArray, List.set_cons_succ, List.set_cons_zero] at hK
                apply Kept.mk
                simp only [F2.Wp, Act.put, actv, fill, List.foldl_cons, List.foldl_nil, List.setIfInBounds_toArray, List.set_cons_succ, List.set_cons_zero]
                simp only [E81, E83, E85] at hK ⊢
                go_simp
                exact hK _ wz (Below.refl _ _) (⟨_, _, _, _, _, _, _, _, rfl, q81, q83⟩)
              refine F2.Steps.consT rfl ?_ ?_
              · intro vz wz hBz hDz hbz K hK
                obtain ⟨zc0, zc1, zc2, zc3, zc4, zc5, zc6, zc7, zc8, zc9⟩ := hbz.five
                obtain ⟨n86_, A86_, l86_, c86_, m86_, B86_, j86_, d86_, E86, q86, p86⟩ : BallV _ _ _ _ _ wz (vz 86) := hDz 6 (by kernel_rfl) rfl
                replace hK := hK.out
                simp only [actv, fill, Act.put, F2.fc, List.getD_cons_zero, List.getD_cons_succ, List.foldl_cons, List.foldl_nil, List.setIfInBounds_toArray, List.set_cons_succ, List.set_cons_zero] at hK
                apply Kept.mk
                simp only [F2.Wp, Act.put, actv, fill, List.foldl_cons, List.foldl_nil, List.setIfInBounds_toArray, List.set_cons_succ, List.set_cons_zero]
                simp only [E86] at hK ⊢
                go_simp
                exact hK _ (((((Far.set _ _ 0 _).trans (Far.set _ _ 1 _)).trans (Far.set _ _ 2 _)).trans (Far.set _ _ 3 _)).trans (Far.set _ _ 4 _)) ⟨_, blk_five hbz, NoU.five (by intro x h; cases h) (by intro x h; cases h) (by intro x h; cases h) (by intro x h; cases h) (by intro x h; cases h), ⟨_, _, _, _, _, _, _, _, rfl, q86, p86⟩⟩
              refine F2.Steps.consO rfl ?_ ?_
              · intro vz wz hBz hDz hTz K hK
                replace hK := hK.out
                simp only [actv, fill, Act.put, F2.fc, List.getD_cons_zero, List.getD_cons_succ, List.foldl_cons, List.foldl_nil, List.setIfInBounds_toArray, List.set_cons_succ, List.set_cons_zero] at hK
                apply Kept.mk
                simp only [F2.Wp, Act.put, actv, fill, List.foldl_cons, List.foldl_nil, List.setIfInBounds_toArray, List.set_cons_succ, List.set_cons_zero]
                go_simp
                refine hK _ wz (Below.refl _ _) (Fact.eq_mk ?_)
                with_reducible rfl
              exact F2.Steps.nil
            case finf =>
              intro vz wa hBz ⟨hOz, hAz, hNz, hSz⟩
              have E80 : vz 80 = _ := hOz 0 (by decide) rfl
              obtain ⟨n81_, A81_, l81_, c81_, E81, q81⟩ : IntV _ _ _ wa (vz 81) := hOz 1 (by decide) rfl
              have E82 : vz 82 = _ := hOz 2 (by decide) rfl
              obtain ⟨n83_, A83_, l83_, c83_, E83, q83⟩ : IntV _ _ _ wa (vz 83) := hOz 3 (by decide) rfl
              have E84 : vz 84 = _ := hOz 4 (by decide) rfl
              have E85 : vz 85 = _ := hOz 5 (by decide) rfl
              obtain ⟨n86_, A86_, l86_, c86_, m86_, B86_, j86_, d86_, E86, q86, p86⟩ : BallV _ _ _ _ _ wa (vz 86) := hOz 6 (by decide) rfl
              obtain ⟨cs4, hb4, hs4⟩ := hSz 7 _ _ _ (by decide) rfl
              obtain ⟨n4_, A4_, l4_, c4_, m4_, B4_, j4_, d4_, e4_, q4, p4⟩ : BallV _ _ _ _ _ wa (.agg cs4) := hs4
              injection e4_ with e4_
              subst e4_
              have E5 : vz 5 = _ := hOz 8 (by decide) rfl
              simp only [Act.put, actv, fill, List.foldl_cons, List.foldl_nil, List.setIfInBounds_toArray, List.set_cons_succ, List.set_cons_zero]
              simp only [E80, E81, E82, E83, E84, E85, E86, E5]
              clear hOz hAz hNz hSz
              have hB9 := hBz.below (B := w.heap.size) (by have := HB.out.size; omega) (fun g hg => by simp [F2.olds] at hg; omega)
              have HB := hide (HB.out.trans hB9)
              have hws := HB.out.size
              go_wp2_with fail
              exact bodyPost_ret (results_ball_tmp rfl _ _ _ _ _ _ _ _ _ rfl hb4) rfl ⟨HB.out, RetE.yes ⟨_, _, _, _, _, _, _, _, rfl, q4.mono (by omega), p4.mono (by omega)⟩⟩
    · have hok : ok = true := by rw [HOK2.out, decide_eq_false hs0]; simp
      subst hok
      have HYN := hide (HYN0.out rfl)
      obtain ⟨b0, b1, b2, b3, b4, -⟩ := hb.five
      have HYN := hide (HYN0.out rfl)
      obtain ⟨a0, a1, a2, a3, a4, -⟩ := ha.five
      obtain ⟨b0, b1, b2, b3, b4, -⟩ := hb.five
      obtain ⟨wR, hW, he, vb, hs⟩ := start1 w2 25 #[.bool n0, .slice A0 l0 c0, .bool n1, .slice A1 l1 c1]
      have ha := ha.below vb ha.lt
      have hb := hb.below vb hb.lt
      have hr := hr.below vb hr.lt
      have HB := hide (HB.out.trans (vb.mono HB.out.size))
      have hR : w2.heap.size < wR.heap.size := by omega
      clear vb hs
      go_upto_region 9 with (fail)
      rw [← hW]
      clear hW a0 a1 a2 a3 a4 b0 b1 b2 b3 b4
      obtain ⟨b0, b1, b2, b3, b4, -⟩ := hb.five
      obtain ⟨wS, hW, hy, vb, hs⟩ := start1 wR 25 #[.bool m0, .slice B0 j0 d0, .bool m1, .slice B1 j1 d1]
      have ha := ha.below vb ha.lt
      have he := he.below vb he.lt
      have hr := hr.below vb hr.lt
      have HB := hide (HB.out.trans (vb.mono HB.out.size))
      have hS : wR.heap.size < wS.heap.size := by omega
      clear vb hs
      go_upto_region 10 with (fail)
      rw [← hW]
      clear hW b0 b1 b2 b3 b4 hb
      have X0 := hx0.at_ HB
      have X1 := hx1.at_ HB
      have Y0 := hy0.at_ HB
      have Y1 := hy1.at_ HB
      go_wp2_with fail
      go_loopw [7, 8, 11] (fun lv hv iv wr => ∃ i : Nat, i ≤ 2 ∧ iv = .int .i64 i ∧ RowV wr wS.heap.size (k + 34) lv ([F 0, F 1, F 2, F 3].take (2 * i)) ∧ RowV wr wS.heap.size (k + 34) hv ([G 0, G 1, G 2, G 3].take (2 * i)) ∧ (∀ g, lv.ownBlock = some g → hv.ownBlock = some g → False) ∧ Below wS.heap.size wS wr) (fun _ _ iv _ => 2 - (intOf iv).toNat)
      case atStart => exact ⟨0, by omega, rfl, RowV.nil _ _ _, RowV.nil _ _ _, apart_nil _, Below.refl _ _⟩
      case round =>
        obtain ⟨i, hi, rfl, hL, hH, hD, hBl⟩ := hrel
        by_cases hi2 : i < 2
        · have bi : (i : Int) < 2 := by omega
          go_wp2_with fail
          go_loopw [7, 8, 12] (fun lv hv kv wr => ∃ j : Nat, j ≤ 2 ∧ kv = .int .i64 j ∧ RowV wr wS.heap.size (k + 34) lv ([F 0, F 1, F 2, F 3].take (2 * i + j)) ∧ RowV wr wS.heap.size (k + 34) hv ([G 0, G 1, G 2, G 3].take (2 * i + j)) ∧ (∀ g, lv.ownBlock = some g → hv.ownBlock = some g → False) ∧ Below wS.heap.size wS wr) (fun _ _ kv _ => 2 - (intOf kv).toNat)
          case atStart => exact ⟨0, by omega, rfl, hL, hH, hD, hBl⟩
          case round =>
            obtain ⟨j, hj, rfl, hL, hH, hD, hBl⟩ := hrel
            by_cases hj2 : j < 2
            · have bj : (j : Int) < 2 := by omega
              have ha := ha.below hBl (by omega)
              have he := he.below hBl (by omega)
              have hy := hy.below hBl (by omega)
              have X0 := X0.below hBl
              have X1 := X1.below hBl
              have Y0 := Y0.below hBl
              have Y1 := Y1.below hBl
              obtain ⟨xi, HXI⟩ : ∃ z, Hid (two x0 x1 i * 2 ^ qa.toNat = z) := ⟨_, hide rfl⟩
              have HLX : Hid (xi.natAbs < W ^ (k + 34)) := hide (by rw [← HXI.out]; exact z_shl_lt (two_q X0 X1 i).lt (by omega))
              have hSr : wS.heap.size ≤ wr.heap.size := hBl.size
              have hL13 := fun x hx => (hL.lt x hx).2
              go_upto_region 16 with (fail)
              refine F2.region [.o, .o, .o, .o, .o, .o, .o, .al 25 #[.bool false, .slice none 0 0], .st 7] [Fact.eq ?cxo51, Fact.eq ?cxo52, Fact.eq ?cxo53, Fact.eq ?cxo54, Fact.eq ?cxo55, Fact.eq ?cxo56, Fact.int wS.heap.size (k + 34) xi, Fact.any, Fact.int wS.heap.size (k + 34) xi] [51, 52, 53, 54, 55, 56, 57, 13] [51, 52, 53, 54, 55, 56, 57, 13, 0] (by kernel_rfl) ?soxo ?sopxo (by kernel_rfl) ?stxo ?finxo
              case soxo => exact fun x hx => by cases hx
              case sopxo => exact List.Pairwise.nil
              case stxo =>
                refine F2.Steps.consO rfl ?_ ?_
                · intro vz wz hBz hDz hTz K hK
                  replace hK := hK.out
                  simp only [actv, fill, Act.put, F2.fc, List.getD_cons_zero, List.getD_cons_succ, List.foldl_cons, List.foldl_nil, List.setIfInBounds_toArray, List.set_cons_succ, List.set_cons_zero] at hK
                  apply Kept.mk
                  simp only [F2.Wp, Act.put, actv, fill, List.foldl_cons, List.foldl_nil, List.setIfInBounds_toArray, List.set_cons_succ, List.set_cons_zero]
                  go_simp
                  refine hK _ wz (Below.refl _ _) (Fact.eq_mk ?_)
                  with_reducible rfl
                refine F2.Steps.consO rfl ?_ ?_
                · intro vz wz hBz hDz hTz K hK
                  replace hK := hK.out
                  simp only [actv, fill, Act.put, F2.fc, List.getD_cons_zero, List.getD_cons_succ, List.foldl_cons, List.foldl_nil, List.setIfInBounds_toArray, List.set_cons_succ, List.set_cons_zero] at hK
                  apply Kept.mk
                  simp only [F2.Wp, Act.put, actv, fill, List.foldl_cons, List.foldl_nil, List.setIfInBounds_toArray, List.set_cons_succ, List.set_cons_zero]
                  go_simp
                  refine hK _ wz (Below.refl _ _) (Fact.eq_mk ?_)
                  with_reducible rfl
                refine F2.Steps.consO rfl ?_ ?_
                · intro vz wz hBz hDz hTz K hK
                  have E51 : vz 51 = _ := hDz 0 (by kernel_rfl) rfl
                  have E52 : vz 52 = _ := hDz 1 (by kernel_rfl) rfl
                  replace hK := hK.out
                  simp only [actv, fill, Act.put, F2.fc, List.getD_cons_zero, List.getD_cons_succ, List.foldl_cons, List.foldl_nil, List.setIfInBounds_toArray, List.set_cons_succ, List.set_cons_zero] at hK
                  apply Kept.mk
                  simp only [F2.Wp, Act.put, actv, fill, List.foldl_cons, List.foldl_nil, List.setIfInBounds_toArray, List.set_cons_succ, List.set_cons_zero]
                  simp only [E51, E52] at hK ⊢
                  go_simp
                  refine hK _ wz (Below.refl _ _) (Fact.eq_mk ?_)
                  with_reducible rfl
                refine F2.Steps.consO rfl ?_ ?_
                · intro vz wz hBz hDz hTz K hK
                  have E53 : vz 53 = _ := hDz 2 (by kernel_rfl) rfl
                  have hez := hBz.blk he.drew (fun h => by cases h)
                  have ez0 : wz.cell? ⟨w2.heap.size, i * 2, none⟩ = some (.bool (two n0 n1 i)) := (hez.cell _).trans ((two_cells _ _ _ _ i hi2).1.trans (congrArg some (two_map Value.bool n0 n1 i)))
                  have ez1 : wz.cell? ⟨w2.heap.size, i * 2 + 1, none⟩ = some (.slice (two A0 A1 i) (two l0 l1 i) (two c0 c1 i)) := (hez.cell _).trans ((two_cells _ _ _ _ i hi2).2.trans (congrArg some (two_slice A0 A1 l0 l1 c0 c1 i)))
                  replace hK := hK.out
                  simp only [actv, fill, Act.put, F2.fc, List.getD_cons_zero, List.getD_cons_succ, List.foldl_cons, List.foldl_nil, List.setIfInBounds_toArray, List.set_cons_succ, List.set_cons_zero] at hK
                  apply Kept.mk
                  simp only [F2.Wp, Act.put, actv, fill, List.foldl_cons, List.foldl_nil, List.setIfInBounds_toArray, List.set_cons_succ, List.set_cons_zero]
                  simp only [E53] at hK ⊢
                  go_simp
                  refine hK _ wz (Below.refl _ _) (Fact.eq_mk ?_)
                  with_reducible rfl
                refine F2.Steps.consO rfl ?_ ?_
                · intro vz wz hBz hDz hTz K hK
                  replace hK := hK.out
                  simp only [actv, fill, Act.put, F2.fc, List.getD_cons_zero, List.getD_cons_succ, List.foldl_cons, List.foldl_nil, List.setIfInBounds_toArray, List.set_cons_succ, List.set_cons_zero] at hK
                  apply Kept.mk
                  simp only [F2.Wp, Act.put, actv, fill, List.foldl_cons, List.foldl_nil, List.setIfInBounds_toArray, List.set_cons_succ, List.set_cons_zero]
                  go_simp
                  refine hK _ wz (Below.refl _ _) (Fact.eq_mk ?_)
                  with_reducible rfl
                refine F2.Steps.consO rfl ?_ ?_
                · intro vz wz hBz hDz hTz K hK
                  have E55 : vz 55 = _ := hDz 4 (by kernel_rfl) rfl
                  have haz := hBz.blk ha.drew (fun h => by cases h)
                  obtain ⟨hazc0, hazc1, hazc2, hazc3, hazc4, -⟩ := haz.five
                  replace hK := hK.out
                  simp only [actv, fill, Act.put, F2.fc, List.getD_cons_zero, List.getD_cons_succ, List.foldl_cons, List.foldl_nil, List.setIfInBounds_toArray, List.set_cons_succ, List.set_cons_zero] at hK
                  apply Kept.mk
                  simp only [F2.Wp, Act.put, actv, fill, List.foldl_cons, List.foldl_nil, List.setIfInBounds_toArray, List.set_cons_succ, List.set_cons_zero]
                  simp only [E55] at hK ⊢
                  go_simp
                  refine hK _ wz (Below.refl _ _) (Fact.eq_mk ?_)
                  with_reducible rfl
                refine F2.Steps.consO rfl ?_ ?_
                · intro vz wz hBz hDz hTz K hK
                  have E54 : vz 54 = _ := hDz 3 (by kernel_rfl) rfl
                  have E56 : vz 56 = _ := hDz 5 (by kernel_rfl) rfl
                  have HW := ext_drew hBz.ext
                  replace hK := hK.out
                  simp only [actv, fill, Act.put, F2.fc, List.getD_cons_zero, List.getD_cons_succ, List.foldl_cons, List.foldl_nil, List.setIfInBounds_toArray, List.set_cons_succ, List.set_cons_zero] at hK
                  apply Kept.mk
                  simp only [F2.Wp, Act.put, actv, fill, List.foldl_cons, List.foldl_nil, List.setIfInBounds_toArray, List.set_cons_succ, List.set_cons_zero]
                  simp only [E54, E56] at hK ⊢
                  go_simp
                  refine Calls.mono (HXI.out ▸ d_shlI qa ((two_q X0 X1 i).ext HW) (by omega) (by omega) (by omega)) ?_
                  rintro e w2z ⟨hb2, u, d, rfl, hu, hd⟩
                  go_wp2_with fail
                  exact hK _ w2z hb2 (intV (hu.mono (Nat.le_trans hSr hBz.size)) hd HLX.out)
                refine F2.Steps.consA rfl ⟨NoU.two (by intro x h; cases h) (by intro x h; cases h), ?_⟩ ?_
                · intro vz wz hBz K hK
                  replace hK := hK.out
                  simp only [actv, fill, Act.put, F2.fc, List.getD_cons_zero, List.getD_cons_succ, List.foldl_cons, List.foldl_nil, List.setIfInBounds_toArray, List.set_cons_succ, List.set_cons_zero] at hK
                  apply Kept.mk
                  simp only [F2.Wp, Act.put, actv, fill, List.foldl_cons, List.foldl_nil, List.setIfInBounds_toArray, List.set_cons_succ, List.set_cons_zero]
                  go_simp
                  exact hK
                refine F2.Steps.consS rfl rfl ?_ ?_
                · intro vz wz gz hBz hDz E13 hgz hbz K hK
                  obtain ⟨zc0, zc1, zc2, zc3⟩ := hbz.two
                  obtain ⟨n57_, A57_, l57_, c57_, E57, q57⟩ : IntV _ _ _ wz (vz 57) := hDz 6 (by kernel_rfl) rfl
                  have E13' : vz 13 = .pointer (some ⟨gz, 0, none⟩) := E13
                  replace hK := hK.out
                  simp only [actv, fill, Act.put, F2.fc, List.getD_cons_zero, List.getD_cons_succ, List.foldl_cons, List.foldl_nil, List.setIfInBounds_toArray, List.set_cons_succ, List.set_cons_zero] at hK
                  apply Kept.mk
                  simp only [F2.Wp, Act.put, actv, fill, List.foldl_cons, List.foldl_nil, List.setIfInBounds_toArray, List.set_cons_succ, List.set_cons_zero]
                  simp only [E13', E57] at hK ⊢
                  go_simp
                  exact hK _ ((Far.set _ gz 0 _).trans (Far.set _ gz 1 _)) ⟨_, blk_two hbz, NoU.two (by intro x h; cases h) (by intro x h; cases h), ⟨_, _, _, _, rfl, q57⟩⟩
                exact F2.Steps.nil
              case finxo =>
                intro vz wx hBz ⟨hOz, hAz, hNz, hSz⟩
                have E51 : vz 51 = _ := hOz 0 (by decide) rfl
                have E52 : vz 52 = _ := hOz 1 (by decide) rfl
                have E53 : vz 53 = _ := hOz 2 (by decide) rfl
                have E54 : vz 54 = _ := hOz 3 (by decide) rfl
                have E55 : vz 55 = _ := hOz 4 (by decide) rfl
                have E56 : vz 56 = _ := hOz 5 (by decide) rfl
                obtain ⟨n57_, A57_, l57_, c57_, E57, q57⟩ : IntV _ _ _ wx (vz 57) := hOz 6 (by decide) rfl
                obtain ⟨g13, cs13, E13, hg13, hb13, hs13, hz13⟩ := hAz 7 _ _ (by decide) rfl
                obtain ⟨n13_, A13_, l13_, c13_, e13_, q13⟩ : IntV _ _ _ wx (.agg cs13) := hs13 8 (by decide) rfl
                injection e13_ with e13_
                subst e13_
                simp only [Act.put, actv, fill, List.foldl_cons, List.foldl_nil, List.setIfInBounds_toArray, List.set_cons_succ, List.set_cons_zero]
                simp only [E51, E52, E53, E54, E55, E56, E57, (show vz 13 = _ from E13)]
                clear hOz hAz hNz hSz hs13 hz13
                have hBx := (hBz.below (B := wr.heap.size) (Nat.le_refl _) (fun g hg => by cases hg))
                have ha := ha.below hBx ha.lt
                have hy := hy.below hBx hy.lt
                have he := he.below hBx he.lt
                have X0 := X0.below hBx
                have X1 := X1.below hBx
                have Y0 := Y0.below hBx
                have Y1 := Y1.below hBx
                have hL := hL.below hBx
                have hH := hH.below hBx
                have hBl := hBl.trans (hBx.mono hBl.size)
                have hSr := hBl.size
                have h13 : g13 ∉ u7.ownBlock.toList := not_own hL13 hg13
                clear hBx hBz he hg13 hL13
                obtain ⟨yj, HYJ⟩ : ∃ z, Hid (two y0 y1 j = z) := ⟨_, hide rfl⟩
                have HYJ0 : Hid (yj ≠ 0) := hide (by rw [← HYJ.out]; unfold two; split; exact HYN.out.1; exact HYN.out.2)
                have QYJ := two_q Y0 Y1 j
                rw [HYJ.out] at QYJ
                obtain ⟨gz', HGZ⟩ : ∃ z, Hid (vUp xi yj = z) := ⟨_, hide rfl⟩
                have HLG : Hid (gz'.natAbs < W ^ (k + 34)) := hide (by rw [← HGZ.out]; exact vUp_lt HYJ0.out HLX.out)
                obtain ⟨fz', HFZ⟩ : ∃ z, Hid (-vUp (-xi) yj = z) := ⟨_, hide rfl⟩
                have HLF : Hid (fz'.natAbs < W ^ (k + 34)) := hide (by rw [← HFZ.out, Int.natAbs_neg]; exact vUp_lt HYJ0.out (by rw [Int.natAbs_neg]; exact HLX.out))
                go_upto_region 17 with (fail)
                refine wp_region_noPanic ?_
                refine wp_region_any (by kernel_rfl) ?_
                refine wpAny_take (i := 0) (v := u7) rfl (by kernel_rfl) (by kernel_rfl) (by kernel_rfl) (fun _ _ _ h => h) (Or.inl ⟨by rfl, fun w => by go_simp⟩) ?_
                simp only [List.getElem_toArray, List.getElem_cons_succ, List.getElem_cons_zero, Act.put, List.setIfInBounds_toArray, List.set_cons_zero, List.set_cons_succ]
                refine F2.tail_one [.o, .o, .o, .o, .o, .o, .o, .t, .t, .t] [Fact.eq u7, Fact.eq ?cyo59, Fact.eq ?cyo60, Fact.eq ?cyo61, Fact.eq ?cyo62, Fact.eq ?cyo63, Fact.int wS.heap.size (k + 34) fz', Fact.any, Fact.any, Fact.any] [58, 59, 60, 61, 62, 63, 64] [58, 59, 60, 61, 62, 63, 64, 65, 66, 7] 3 0 _ _ rfl (by kernel_rfl) rfl ?fiyo ?soyo ?sopyo (by kernel_rfl) (by kernel_rfl) (by kernel_rfl) (by decide) ?styo ?finyo
                case fiyo => exact Fact.eq_mk rfl
                case soyo => exact fun x hx => by cases hx
                case sopyo => exact List.Pairwise.nil
                case styo =>
                  refine F2.Steps.consO rfl ?_ ?_
                  · intro vz wz hBz hDz hTz K hK
                    replace hK := hK.out
                    simp only [actv, fill, Act.put, F2.fc, List.getD_cons_zero, List.getD_cons_succ, List.foldl_cons, List.foldl_nil, List.setIfInBounds_toArray, List.set_cons_succ, List.set_cons_zero] at hK
                    apply Kept.mk
                    simp only [F2.Wp, Act.put, actv, fill, List.foldl_cons, List.foldl_nil, List.setIfInBounds_toArray, List.set_cons_succ, List.set_cons_zero]
                    go_simp
                    exact hK _ wz (Below.refl _ _) (Fact.eq_mk rfl)
                  refine F2.Steps.consO rfl ?_ ?_
                  · intro vz wz hBz hDz hTz K hK
                    have hb13z := hBz.blk hb13.drew (fun h => by cases h)
                    obtain ⟨hb13zc0, hb13zc1, -⟩ := hb13z.two
                    replace hK := hK.out
                    simp only [actv, fill, Act.put, F2.fc, List.getD_cons_zero, List.getD_cons_succ, List.foldl_cons, List.foldl_nil, List.setIfInBounds_toArray, List.set_cons_succ, List.set_cons_zero] at hK
                    apply Kept.mk
                    simp only [F2.Wp, Act.put, actv, fill, List.foldl_cons, List.foldl_nil, List.setIfInBounds_toArray, List.set_cons_succ, List.set_cons_zero]
                    go_simp
                    refine hK _ wz (Below.refl _ _) (Fact.eq_mk ?_)
                    with_reducible rfl
                  refine F2.Steps.consO rfl ?_ ?_
                  · intro vz wz hBz hDz hTz K hK
                    replace hK := hK.out
                    simp only [actv, fill, Act.put, F2.fc, List.getD_cons_zero, List.getD_cons_succ, List.foldl_cons, List.foldl_nil, List.setIfInBounds_toArray, List.set_cons_succ, List.set_cons_zero] at hK
                    apply Kept.mk
                    simp only [F2.Wp, Act.put, actv, fill, List.foldl_cons, List.foldl_nil, List.setIfInBounds_toArray, List.set_cons_succ, List.set_cons_zero]
                    go_simp
                    refine hK _ wz (Below.refl _ _) (Fact.eq_mk ?_)
                    with_reducible rfl
                  refine F2.Steps.consO rfl ?_ ?_
                  · intro vz wz hBz hDz hTz K hK
                    replace hK := hK.out
                    simp only [actv, fill, Act.put, F2.fc, List.getD_cons_zero, List.getD_cons_succ, List.foldl_cons, List.foldl_nil, List.setIfInBounds_toArray, List.set_cons_succ, List.set_cons_zero] at hK
                    apply Kept.mk
                    simp only [F2.Wp, Act.put, actv, fill, List.foldl_cons, List.foldl_nil, List.setIfInBounds_toArray, List.set_cons_succ, List.set_cons_zero]
                    go_simp
                    refine hK _ wz (Below.refl _ _) (Fact.eq_mk ?_)
                    with_reducible rfl
                  refine F2.Steps.consO rfl ?_ ?_
                  · intro vz wz hBz hDz hTz K hK
                    have E60 : vz 60 = _ := hDz 2 (by kernel_rfl) rfl
                    have E61 : vz 61 = _ := hDz 3 (by kernel_rfl) rfl
                    replace hK := hK.out
                    simp only [actv, fill, Act.put, F2.fc, List.getD_cons_zero, List.getD_cons_succ, List.foldl_cons, List.foldl_nil, List.setIfInBounds_toArray, List.set_cons_succ, List.set_cons_zero] at hK
                    apply Kept.mk
                    simp only [F2.Wp, Act.put, actv, fill, List.foldl_cons, List.foldl_nil, List.setIfInBounds_toArray, List.set_cons_succ, List.set_cons_zero]
                    simp only [E60, E61] at hK ⊢
                    go_simp
                    refine hK _ wz (Below.refl _ _) (Fact.eq_mk ?_)
                    with_reducible rfl
                  refine F2.Steps.consO rfl ?_ ?_
                  · intro vz wz hBz hDz hTz K hK
                    have E62 : vz 62 = _ := hDz 4 (by kernel_rfl) rfl
                    have hyz := hBz.blk hy.drew (fun h => by cases h)
                    have ez0 : wz.cell? ⟨wR.heap.size, j * 2, none⟩ = some (.bool (two m0 m1 j)) := (hyz.cell _).trans ((two_cells _ _ _ _ j hj2).1.trans (congrArg some (two_map Value.bool m0 m1 j)))
                    have ez1 : wz.cell? ⟨wR.heap.size, j * 2 + 1, none⟩ = some (.slice (two B0 B1 j) (two j0 j1 j) (two d0 d1 j)) := (hyz.cell _).trans ((two_cells _ _ _ _ j hj2).2.trans (congrArg some (two_slice B0 B1 j0 j1 d0 d1 j)))
                    replace hK := hK.out
                    simp only [actv, fill, Act.put, F2.fc, List.getD_cons_zero, List.getD_cons_succ, List.foldl_cons, List.foldl_nil, List.setIfInBounds_toArray, List.set_cons_succ, List.set_cons_zero] at hK
                    apply Kept.mk
                    simp only [F2.Wp, Act.put, actv, fill, List.foldl_cons, List.foldl_nil, List.setIfInBounds_toArray, List.set_cons_succ, List.set_cons_zero]
                    simp only [E62] at hK ⊢
                    go_simp
                    refine hK _ wz (Below.refl _ _) (Fact.eq_mk ?_)
                    with_reducible rfl
                  refine F2.Steps.consO rfl ?_ ?_
                  · intro vz wz hBz hDz hTz K hK
                    have E59 : vz 59 = _ := hDz 1 (by kernel_rfl) rfl
                    have E63 : vz 63 = _ := hDz 5 (by kernel_rfl) rfl
                    have HW := ext_drew hBz.ext
                    replace hK := hK.out
                    simp only [actv, fill, Act.put, F2.fc, List.getD_cons_zero, List.getD_cons_succ, List.foldl_cons, List.foldl_nil, List.setIfInBounds_toArray, List.set_cons_succ, List.set_cons_zero] at hK
                    apply Kept.mk
                    simp only [F2.Wp, Act.put, actv, fill, List.foldl_cons, List.foldl_nil, List.setIfInBounds_toArray, List.set_cons_succ, List.set_cons_zero]
                    simp only [E59, E63] at hK ⊢
                    go_simp
                    refine Calls.mono (HFZ.out ▸ floor5_calls (q13.q.ext HW) (QYJ.ext HW) (by omega) (by omega) HYJ0.out) ?_
                    rintro e w2z ⟨hb2, u, d, rfl, hu, hd⟩
                    go_wp2_with fail
                    exact hK _ w2z hb2 (intV (hu.mono (Nat.le_trans hSr hBz.size)) hd HLF.out)
                  refine F2.Steps.consX rfl ?_
                  refine F2.Steps.consX rfl ?_
                  refine F2.Steps.consX rfl ?_
                  exact F2.Steps.nil
                case finyo =>
                  intro vz wy fz hBz ⟨hOz, hAz, hNz, hSz⟩
                  have E58 : vz 58 = _ := hOz 0 (by decide) rfl
                  have E59 : vz 59 = _ := hOz 1 (by decide) rfl
                  have E60 : vz 60 = _ := hOz 2 (by decide) rfl
                  have E61 : vz 61 = _ := hOz 3 (by decide) rfl
                  have E62 : vz 62 = _ := hOz 4 (by decide) rfl
                  have E63 : vz 63 = _ := hOz 5 (by decide) rfl
                  obtain ⟨n64_, A64_, l64_, c64_, E64, q64⟩ : IntV _ _ _ wy (vz 64) := hOz 6 (by decide) rfl
                  simp only [Act.put, actv, fill, List.foldl_cons, List.foldl_nil, List.setIfInBounds_toArray, List.set_cons_succ, List.set_cons_zero]
                  simp only [E58, E59, E60, E61, E62, E63, E64]
                  clear hOz hAz hNz hSz
                  have HBy := (hBz.below (B := wx.heap.size) (Nat.le_refl _) (fun g hg => by cases hg))
                  have hL := hL.below HBy
                  have q64' : QB wy wS.heap.size (k + 34) n64_ A64_ l64_ c64_ fz' := q64
                  refine wpAny_ready (rs := [7]) (by kernel_rfl) (by simp) (AllReady.cons rfl (fun K hK => ?_) AllReady.nil)
                  go_simp
                  refine hK _ _ ?_
                  clear hK K
                  obtain ⟨wb, hW, hsl, vb, hs⟩ := start1 wy 25 #[.bool n64_, .slice A64_ l64_ c64_]
                  rw [← hW]
                  have hL := hL.below vb
                  have q64' := q64'.below vb
                  obtain ⟨L2, wc, hr1, hL2, hg2, hap, hex2⟩ := hL.push hsl q64' (by rw [len_take_four F _ (by omega)]; omega) (Nat.le_trans hBl.size (by have h1 := HBy.size; have h2 := vb.size; omega)) _
                  refine wpAny_ready (rs := [8]) (by kernel_rfl) (by simp) (AllReady.cons rfl (fun K hK => ?_) AllReady.nil)
                  rw [if_pos (by rfl)]
                  refine wp_append (.tmp 58) (.tmp 65) 63 _ _ rfl rfl rfl hr1 ?_
                  refine hK _ _ ?_
                  clear hK K
                  refine wpAny_ready (rs := [9]) (by kernel_rfl) (by simp) (AllReady.cons rfl (fun K hK => ?_) AllReady.nil)
                  go_simp
                  refine hK _ _ ?_
                  clear hK K
                  refine F2.wpAny_nil (by kernel_rfl) ?_ fz
                  refine NoPanic.normal ?_
                  have HT := HBy.trans (vb.mono HBy.size)
                  have HZ : Low u7.ownBlock.toList wx wc := ((Low.refl u7.ownBlock.toList wx).grow HT).step (low_own hg2 hex2) (fun g hg => Or.inl hg)
                  have hy := HZ.blk hy (hL.far (by omega))
                  have hb13 := HZ.blk hb13 h13
                  have q13 := q13.ext HZ.ext
                  have QYJ := QYJ.ext HZ.ext
                  have hH0 := hH
                  have hH := (hH.below HT).step hg2 (off_or hD) hex2
                  have hD := off_grow hD hap (fun g hg => by have h1 := (hH0.lt g hg).2; have h2 := HT.size; omega)
                  have hBl := hBl.trans (HZ.below (B := wS.heap.size) hBl.size hL.near)
                  have hSr := hBl.size
                  clear HT HZ hL hap hg2 hex2 HBy vb hs hsl q64 q64' h13 hW hr1 hH0
                  go_upto_region 18 with (fail)
                  refine F2.region [.o, .o, .o, .o, .o, .o, .o, .o, .o, .al 25 #[.bool false, .slice none 0 0], .st 9, .o] [Fact.eq ?cvo68, Fact.eq ?cvo69, Fact.eq ?cvo70, Fact.eq ?cvo71, Fact.eq ?cvo72, Fact.intf wS.heap.size (k + 34) gz' (.bool true), Fact.intf wS.heap.size (k + 34) gz' (.bool true), Fact.int wS.heap.size (k + 34) gz', Fact.eq (.bool true), Fact.any, Fact.int wS.heap.size (k + 34) gz', Fact.eq (.bool true)] [68, 69, 70, 71, 72, 73, 67, 74, 75, 14, 15] [68, 69, 70, 71, 72, 73, 67, 74, 75, 14, 0, 15] (by kernel_rfl) ?sovo ?sopvo (by kernel_rfl) ?stvo ?finvo
                  case sovo => exact fun x hx => by cases hx
                  case sopvo => exact List.Pairwise.nil
                  case stvo =>
                    refine F2.Steps.consO rfl ?_ ?_
                    · intro vz wz hBz hDz hTz K hK
                      have hb13z := hBz.blk hb13.drew (fun h => by cases h)
                      obtain ⟨hb13zc0, hb13zc1, -⟩ := hb13z.two
                      replace hK := hK.out
                      simp only [actv, fill, Act.put, F2.fc, List.getD_cons_zero, List.getD_cons_succ, List.foldl_cons, List.foldl_nil, List.setIfInBounds_toArray, List.set_cons_succ, List.set_cons_zero] at hK
                      apply Kept.mk
                      simp only [F2.Wp, Act.put, actv, fill, List.foldl_cons, List.foldl_nil, List.setIfInBounds_toArray, List.set_cons_succ, List.set_cons_zero]
                      go_simp
                      refine hK _ wz (Below.refl _ _) (Fact.eq_mk ?_)
                      with_reducible rfl
                    refine F2.Steps.consO rfl ?_ ?_
                    · intro vz wz hBz hDz hTz K hK
                      replace hK := hK.out
                      simp only [actv, fill, Act.put, F2.fc, List.getD_cons_zero, List.getD_cons_succ, List.foldl_cons, List.foldl_nil, List.setIfInBounds_toArray, List.set_cons_succ, List.set_cons_zero] at hK
                      apply Kept.mk
                      simp only [F2.Wp, Act.put, actv, fill, List.foldl_cons, List.foldl_nil, List.setIfInBounds_toArray, List.set_cons_succ, List.set_cons_zero]
                      go_simp
                      refine hK _ wz (Below.refl _ _) (Fact.eq_mk ?_)
                      with_reducible rfl
                    refine F2.Steps.consO rfl ?_ ?_
                    · intro vz wz hBz hDz hTz K hK
                      replace hK := hK.out
                      simp only [actv, fill, Act.put, F2.fc, List.getD_cons_zero, List.getD_cons_succ, List.foldl_cons, List.foldl_nil, List.setIfInBounds_toArray, List.set_cons_succ, List.set_cons_zero] at hK
                      apply Kept.mk
                      simp only [F2.Wp, Act.put, actv, fill, List.foldl_cons, List.foldl_nil, List.setIfInBounds_toArray, List.set_cons_succ, List.set_cons_zero]
                      go_simp
                      refine hK _ wz (Below.refl _ _) (Fact.eq_mk ?_)
                      with_reducible rfl
                    refine F2.Steps.consO rfl ?_ ?_
                    · intro vz wz hBz hDz hTz K hK
                      have E69 : vz 69 = _ := hDz 1 (by kernel_rfl) rfl
                      have E70 : vz 70 = _ := hDz 2 (by kernel_rfl) rfl
                      replace hK := hK.out
                      simp only [actv, fill, Act.put, F2.fc, List.getD_cons_zero, List.getD_cons_succ, List.foldl_cons, List.foldl_nil, List.setIfInBounds_toArray, List.set_cons_succ, List.set_cons_zero] at hK
                      apply Kept.mk
                      simp only [F2.Wp, Act.put, actv, fill, List.foldl_cons, List.foldl_nil, List.setIfInBounds_toArray, List.set_cons_succ, List.set_cons_zero]
                      simp only [E69, E70] at hK ⊢
                      go_simp
                      refine hK _ wz (Below.refl _ _) (Fact.eq_mk ?_)
                      with_reducible rfl
                    refine F2.Steps.consO rfl ?_ ?_
                    · intro vz wz hBz hDz hTz K hK
                      have E71 : vz 71 = _ := hDz 3 (by kernel_rfl) rfl
                      have hyz := hBz.blk hy.drew (fun h => by cases h)
                      have ez0 : wz.cell? ⟨wR.heap.size, j * 2, none⟩ = some (.bool (two m0 m1 j)) := (hyz.cell _).trans ((two_cells _ _ _ _ j hj2).1.trans (congrArg some (two_map Value.bool m0 m1 j)))
                      have ez1 : wz.cell? ⟨wR.heap.size, j * 2 + 1, none⟩ = some (.slice (two B0 B1 j) (two j0 j1 j) (two d0 d1 j)) := (hyz.cell _).trans ((two_cells _ _ _ _ j hj2).2.trans (congrArg some (two_slice B0 B1 j0 j1 d0 d1 j)))
                      replace hK := hK.out
                      simp only [actv, fill, Act.put, F2.fc, List.getD_cons_zero, List.getD_cons_succ, List.foldl_cons, List.foldl_nil, List.setIfInBounds_toArray, List.set_cons_succ, List.set_cons_zero] at hK
                      apply Kept.mk
                      simp only [F2.Wp, Act.put, actv, fill, List.foldl_cons, List.foldl_nil, List.setIfInBounds_toArray, List.set_cons_succ, List.set_cons_zero]
                      simp only [E71] at hK ⊢
                      go_simp
                      refine hK _ wz (Below.refl _ _) (Fact.eq_mk ?_)
                      with_reducible rfl
                    refine F2.Steps.consO rfl ?_ ?_
                    · intro vz wz hBz hDz hTz K hK
                      have E68 : vz 68 = _ := hDz 0 (by kernel_rfl) rfl
                      have E72 : vz 72 = _ := hDz 4 (by kernel_rfl) rfl
                      have HW := ext_drew hBz.ext
                      replace hK := hK.out
                      simp only [actv, fill, Act.put, F2.fc, List.getD_cons_zero, List.getD_cons_succ, List.foldl_cons, List.foldl_nil, List.setIfInBounds_toArray, List.set_cons_succ, List.set_cons_zero] at hK
                      apply Kept.mk
                      simp only [F2.Wp, Act.put, actv, fill, List.foldl_cons, List.foldl_nil, List.setIfInBounds_toArray, List.set_cons_succ, List.set_cons_zero]
                      simp only [E68, E72] at hK ⊢
                      go_simp
                      refine Calls.mono (HGZ.out ▸ up2_calls (q13.q.ext HW) (QYJ.ext HW) (by omega) (by omega) HYJ0.out) ?_
                      rintro e w2z ⟨hb2, u, d, rfl, hu, hd⟩
                      go_wp2_with fail
                      exact hK _ w2z hb2 (⟨_, rfl, intV (hu.mono (Nat.le_trans hSr hBz.size)) hd HLG.out⟩)
                    refine F2.Steps.consO rfl ?_ ?_
                    · intro vz wz hBz hDz hTz K hK
                      obtain ⟨x73_, E73, hx73⟩ := (show ∃ a, vz 73 = .tuple #[a, _] ∧ IntV _ _ _ wz a from hDz 5 (by kernel_rfl) rfl)
                      replace hK := hK.out
                      simp only [actv, fill, Act.put, F2.fc, List.getD_cons_zero, List.getD_cons_succ, List.foldl_cons, List.foldl_nil, List.setIfInBounds_toArray, List.set_cons_succ, List.set_cons_zero] at hK
                      apply Kept.mk
                      simp only [F2.Wp, Act.put, actv, fill, List.foldl_cons, List.foldl_nil, List.setIfInBounds_toArray, List.set_cons_succ, List.set_cons_zero]
                      simp only [E73] at hK ⊢
                      go_simp
                      exact hK _ wz (Below.refl _ _) (⟨_, rfl, hx73⟩)
                    refine F2.Steps.consO rfl ?_ ?_
                    · intro vz wz hBz hDz hTz K hK
                      obtain ⟨x67_, E67, hx67⟩ := (show ∃ a, vz 67 = .tuple #[a, _] ∧ IntV _ _ _ wz a from hDz 6 (by kernel_rfl) rfl)
                      replace hK := hK.out
                      simp only [actv, fill, Act.put, F2.fc, List.getD_cons_zero, List.getD_cons_succ, List.foldl_cons, List.foldl_nil, List.setIfInBounds_toArray, List.set_cons_succ, List.set_cons_zero] at hK
                      apply Kept.mk
                      simp only [F2.Wp, Act.put, actv, fill, List.foldl_cons, List.foldl_nil, List.setIfInBounds_toArray, List.set_cons_succ, List.set_cons_zero]
                      simp only [E67] at hK ⊢
                      go_simp
                      exact hK _ wz (Below.refl _ _) (hx67)
                    refine F2.Steps.consO rfl ?_ ?_
                    · intro vz wz hBz hDz hTz K hK
                      obtain ⟨x67_, E67, hx67⟩ := (show ∃ a, vz 67 = .tuple #[a, _] ∧ IntV _ _ _ wz a from hDz 6 (by kernel_rfl) rfl)
                      replace hK := hK.out
                      simp only [actv, fill, Act.put, F2.fc, List.getD_cons_zero, List.getD_cons_succ, List.foldl_cons, List.foldl_nil, List.setIfInBounds_toArray, List.set_cons_succ, List.set_cons_zero] at hK
                      apply Kept.mk
                      simp only [F2.Wp, Act.put, actv, fill, List.foldl_cons, List.foldl_nil, List.setIfInBounds_toArray, List.set_cons_succ, List.set_cons_zero]
                      simp only [E67] at hK ⊢
                      go_simp
                      exact hK _ wz (Below.refl _ _) (rfl)
                    refine F2.Steps.consA rfl ⟨NoU.two (by intro x h; cases h) (by intro x h; cases h), ?_⟩ ?_
                    · intro vz wz hBz K hK
                      replace hK := hK.out
                      simp only [actv, fill, Act.put, F2.fc, List.getD_cons_zero, List.getD_cons_succ, List.foldl_cons, List.foldl_nil, List.setIfInBounds_toArray, List.set_cons_succ, List.set_cons_zero] at hK
                      apply Kept.mk
                      simp only [F2.Wp, Act.put, actv, fill, List.foldl_cons, List.foldl_nil, List.setIfInBounds_toArray, List.set_cons_succ, List.set_cons_zero]
                      go_simp
                      exact hK
                    refine F2.Steps.consS rfl rfl ?_ ?_
                    · intro vz wz gz hBz hDz E14 hgz hbz K hK
                      obtain ⟨zc0, zc1, zc2, zc3⟩ := hbz.two
                      obtain ⟨n74_, A74_, l74_, c74_, E74, q74⟩ : IntV _ _ _ wz (vz 74) := hDz 7 (by kernel_rfl) rfl
                      have E14' : vz 14 = .pointer (some ⟨gz, 0, none⟩) := E14
                      replace hK := hK.out
                      simp only [actv, fill, Act.put, F2.fc, List.getD_cons_zero, List.getD_cons_succ, List.foldl_cons, List.foldl_nil, List.setIfInBounds_toArray, List.set_cons_succ, List.set_cons_zero] at hK
                      apply Kept.mk
                      simp only [F2.Wp, Act.put, actv, fill, List.foldl_cons, List.foldl_nil, List.setIfInBounds_toArray, List.set_cons_succ, List.set_cons_zero]
                      simp only [E14', E74] at hK ⊢
                      go_simp
                      exact hK _ ((Far.set _ gz 0 _).trans (Far.set _ gz 1 _)) ⟨_, blk_two hbz, NoU.two (by intro x h; cases h) (by intro x h; cases h), ⟨_, _, _, _, rfl, q74⟩⟩
                    refine F2.Steps.consO rfl ?_ ?_
                    · intro vz wz hBz hDz hTz K hK
                      have E75 : vz 75 = _ := hDz 8 (by kernel_rfl) rfl
                      replace hK := hK.out
                      simp only [actv, fill, Act.put, F2.fc, List.getD_cons_zero, List.getD_cons_succ, List.foldl_cons, List.foldl_nil, List.setIfInBounds_toArray, List.set_cons_succ, List.set_cons_zero] at hK
                      apply Kept.mk
                      simp only [F2.Wp, Act.put, actv, fill, List.foldl_cons, List.foldl_nil, List.setIfInBounds_toArray, List.set_cons_succ, List.set_cons_zero]
                      simp only [E75] at hK ⊢
                      go_simp
                      exact hK _ wz (Below.refl _ _) (rfl)
                    exact F2.Steps.nil
                  case finvo =>
                    intro vz wt hBz ⟨hOz, hAz, hNz, hSz⟩
                    have E68 : vz 68 = _ := hOz 0 (by decide) rfl
                    have E69 : vz 69 = _ := hOz 1 (by decide) rfl
                    have E70 : vz 70 = _ := hOz 2 (by decide) rfl
                    have E71 : vz 71 = _ := hOz 3 (by decide) rfl
                    have E72 : vz 72 = _ := hOz 4 (by decide) rfl
                    obtain ⟨x73_, E73, hx73⟩ := (show ∃ a, vz 73 = .tuple #[a, _] ∧ IntV _ _ _ wt a from hOz 5 (by decide) rfl)
                    obtain ⟨x67_, E67, hx67⟩ := (show ∃ a, vz 67 = .tuple #[a, _] ∧ IntV _ _ _ wt a from hOz 6 (by decide) rfl)
                    obtain ⟨n74_, A74_, l74_, c74_, E74, q74⟩ : IntV _ _ _ wt (vz 74) := hOz 7 (by decide) rfl
                    have E75 : vz 75 = _ := hOz 8 (by decide) rfl
                    obtain ⟨g14, cs14, E14, hg14, hb14, hs14, hz14⟩ := hAz 9 _ _ (by decide) rfl
                    obtain ⟨n14_, A14_, l14_, c14_, e14_, q14⟩ : IntV _ _ _ wt (.agg cs14) := hs14 10 (by decide) rfl
                    injection e14_ with e14_
                    subst e14_
                    have E15 : vz 15 = _ := hOz 11 (by decide) rfl
                    simp only [Act.put, actv, fill, List.foldl_cons, List.foldl_nil, List.setIfInBounds_toArray, List.set_cons_succ, List.set_cons_zero]
                    simp only [E68, E69, E70, E71, E72, E73, E67, E74, E75, (show vz 14 = _ from E14), E15]
                    clear hOz hAz hNz hSz hs14 hz14
                    have HBt := (hBz.below (B := wc.heap.size) (Nat.le_refl _) (fun g hg => by cases hg))
                    have hL := hL2.below HBt
                    have hH := hH.below HBt
                    have hBl := hBl.trans (HBt.mono hBl.size)
                    have hszH : wc.heap.size ≤ wt.heap.size := HBt.size
                    have hD := (fun g a b => hD g b a : ∀ g, u8.ownBlock = some g → L2.ownBlock = some g → False)
                    obtain ⟨zc0, zc1, -, -⟩ := hb14.two
                    have hLt := fun g hg => Nat.lt_of_lt_of_le (hL.lt g hg).2 (below_alloc wt (.cells #[.bool n14_, .slice A14_ l14_ c14_] 25)).size
                    have HBA := below_alloc wt (.cells #[.bool n14_, .slice A14_ l14_ c14_] 25)
                    have hszA := Nat.le_trans hBl.size HBA.size
                    clear HBt hBz
                    go_wp2_with (at_builtin; refine wpList_appendV rfl _ _ rfl rfl (hH.below HBA) rfl (Blk.new _ _ _) (q14.below HBA) (by rw [len_take_four G _ (by omega)]; omega) hszA ?_; intro H2 wd hH2 hgr hap hlow)
                    have hBA2 := HBA
                    have hL := (hL.below HBA).step hgr (off_or hD) hlow.ext
                    have hD := off_grow hD hap (fun g hg => ((hLt g hg)))
                    have hBl := (hBl.trans (HBA.mono hBl.size)).trans (hlow.below (B := wS.heap.size) hszA (hH.below HBA).near)
                    have eL : RowV wd wS.heap.size (k + 34) L2 ([F 0, F 1, F 2, F 3].take (2 * i + (j + 1))) := by
                      rw [show 2 * i + (j + 1) = (2 * i + j) + 1 by omega, take_four F _ (by omega), show F (2 * i + j) = fz' from ?_]
                      · exact hL
                      · rw [HF.out]
                        show vLo qa (two x0 x1 ((2 * i + j) / 2)) (two y0 y1 ((2 * i + j) % 2)) = _
                        rw [show (2 * i + j) / 2 = i by omega, show (2 * i + j) % 2 = j by omega, HYJ.out]
                        unfold vLo
                        rw [HXI.out]
                        exact HFZ.out
                    have eH : RowV wd wS.heap.size (k + 34) H2 ([G 0, G 1, G 2, G 3].take (2 * i + (j + 1))) := by
                      rw [show 2 * i + (j + 1) = (2 * i + j) + 1 by omega, take_four G _ (by omega), show G (2 * i + j) = gz' from ?_]
                      · exact hH2
                      · rw [HG.out]
                        show vHi qa (two x0 x1 ((2 * i + j) / 2)) (two y0 y1 ((2 * i + j) % 2)) = _
                        rw [show (2 * i + j) / 2 = i by omega, show (2 * i + j) % 2 = j by omega, HYJ.out]
                        unfold vHi
                        rw [HXI.out]
                        exact HGZ.out
                    have hD := (fun g a b => hD g b a : ∀ g, L2.ownBlock = some g → H2.ownBlock = some g → False)
                    clear hL hH hH2 hgr hap hlow HBA hszA
                    go_roundw
                    case rel => exact ⟨j + 1, by omega, by go_num, eL, eH, hD, hBl⟩
                    case measure => simp [intOf]; omega
            · have hj3 : j = 2 := by omega
              subst hj3
              have bj : ¬ ((2 : Nat) : Int) < 2 := by omega
              go_wp2_with fail
              go_roundw
              case rel => exact ⟨i + 1, by omega, by go_num, by rw [show 2 * (i + 1) = 2 * i + 2 by omega]; exact hL, by rw [show 2 * (i + 1) = 2 * i + 2 by omega]; exact hH, hD, hBl⟩
              case measure => simp [intOf]; omega
        · have hi3 : i = 2 := by omega
          subst hi3
          have bi : ¬ ((2 : Nat) : Int) < 2 := by omega
          have ha := ha.below hBl (by omega)
          have hr := hr.below hBl (by omega)
          have HB := hide (HB.out.trans (hBl.mono HB.out.size))
          have hSr := hBl.size
          have hL : RowV wr wS.heap.size (k + 34) u7 [F 0, F 1, F 2, F 3] := hL
          have hH : RowV wr wS.heap.size (k + 34) u8 [G 0, G 1, G 2, G 3] := hH
          clear hD hBl
          go_upto_region 20 with (fail)
          clear bi
          refine F2.region [.o, .o, .o, .o, .o, .o, .o, .so (w.heap.size + 2) 27 #[.bool false, .slice none 0 0, .bool false, .slice none 0 0, .int .i64 0], .o] [Fact.eq ?cfo80, Fact.int wS.heap.size (k + 34) mn, Fact.eq ?cfo82, Fact.int wS.heap.size (k + 34) mx, Fact.eq ?cfo84, Fact.eq ?cfo85, Fact.ball wS.heap.size (k + 34) mn mx qa, Fact.ball wS.heap.size (k + 34) mn mx qa, Fact.eq ?cfo5] [80, 81, 82, 83, 84, 85, 86, 5] [80, 81, 82, 83, 84, 85, 86, 0, 5] (by kernel_rfl) ?sofo ?sopfo (by kernel_rfl) ?stfo ?finfo
          case sofo => exact List.forall_mem_cons.2 ⟨⟨hr, NoU.five (by intro x h; cases h) (by intro x h; cases h) (by intro x h; cases h) (by intro x h; cases h) (by intro x h; cases h)⟩, fun x hx => by cases hx⟩
          case sopfo => exact List.Pairwise.cons (fun y hy => by cases hy) (List.Pairwise.nil)
          case stfo =>
            refine F2.Steps.consO rfl ?_ ?_
            · intro vz wz hBz hDz hTz K hK
              replace hK := hK.out
              simp only [actv, fill, Act.put, F2.fc, List.getD_cons_zero, List.getD_cons_succ, List.foldl_cons, List.foldl_nil, List.setIfInBounds_toArray, List.set_cons_succ, List.set_cons_zero] at hK
              apply Kept.mk
              simp only [F2.Wp, Act.put, actv, fill, List.foldl_cons, List.foldl_nil, List.setIfInBounds_toArray, List.set_cons_succ, List.set_cons_zero]
              go_simp
              refine hK _ wz (Below.refl _ _) (Fact.eq_mk ?_)
              with_reducible rfl
            refine F2.Steps.consO rfl ?_ ?_
            · intro vz wz hBz hDz hTz K hK
              have E80 : vz 80 = _ := hDz 0 (by kernel_rfl) rfl
              have HW := ext_drew hBz.ext
              have hLz := hL.drew.low1 hBz (g := w.heap.size + 2) (fun x hx => by simp [F2.olds] at hx; omega) (by omega)
              have hHz := hH.drew.low1 hBz (g := w.heap.size + 2) (fun x hx => by simp [F2.olds] at hx; omega) (by omega)
              replace hK := hK.out
              simp only [actv, fill, Act.put, F2.fc, List.getD_cons_zero, List.getD_cons_succ, List.foldl_cons, List.foldl_nil, List.setIfInBounds_toArray, List.set_cons_succ, List.set_cons_zero] at hK
              apply Kept.mk
              simp only [F2.Wp, Act.put, actv, fill, List.foldl_cons, List.foldl_nil, List.setIfInBounds_toArray, List.set_cons_succ, List.set_cons_zero]
              simp only [E80] at hK ⊢
              go_simp
              refine Calls.mono (HMN'.out ▸ RowV.least hLz (by omega)) ?_
              rintro e w2z ⟨hb2, n_, A_, l_, c_, rfl, hq⟩
              go_wp2_with fail
              exact hK _ w2z hb2 (⟨_, _, _, _, rfl, hq⟩)
            refine F2.Steps.consO rfl ?_ ?_
            · intro vz wz hBz hDz hTz K hK
              replace hK := hK.out
              simp only [actv, fill, Act.put, F2.fc, List.getD_cons_zero, List.getD_cons_succ, List.foldl_cons, List.foldl_nil, List.setIfInBounds_toArray, List.set_cons_succ, List.set_cons_zero] at hK
              apply Kept.mk
              simp only [F2.Wp, Act.put, actv, fill, List.foldl_cons, List.foldl_nil, List.setIfInBounds_toArray, List.set_cons_succ, List.set_cons_zero]
              go_simp
              refine hK _ wz (Below.refl _ _) (Fact.eq_mk ?_)
              with_reducible rfl
            refine F2.Steps.consO rfl ?_ ?_
            · intro vz wz hBz hDz hTz K hK
              have E82 : vz 82 = _ := hDz 2 (by kernel_rfl) rfl
              have HW := ext_drew hBz.ext
              have hLz := hL.drew.low1 hBz (g := w.heap.size + 2) (fun x hx => by simp [F2.olds] at hx; omega) (by omega)
              have hHz := hH.drew.low1 hBz (g := w.heap.size + 2) (fun x hx => by simp [F2.olds] at hx; omega) (by omega)
              replace hK := hK.out
              simp only [actv, fill, Act.put, F2.fc, List.getD_cons_zero, List.getD_cons_succ, List.foldl_cons, List.foldl_nil, List.setIfInBounds_toArray, List.set_cons_succ, List.set_cons_zero] at hK
              apply Kept.mk
              simp only [F2.Wp, Act.put, actv, fill, List.foldl_cons, List.foldl_nil, List.setIfInBounds_toArray, List.set_cons_succ, List.set_cons_zero]
              simp only [E82] at hK ⊢
              go_simp
              refine Calls.mono (HMX'.out ▸ RowV.greatest hHz (by omega)) ?_
              rintro e w2z ⟨hb2, n_, A_, l_, c_, rfl, hq⟩
              go_wp2_with fail
              exact hK _ w2z hb2 (⟨_, _, _, _, rfl, hq⟩)
            refine F2.Steps.consO rfl ?_ ?_
            · intro vz wz hBz hDz hTz K hK
              replace hK := hK.out
              simp only [actv, fill, Act.put, F2.fc, List.getD_cons_zero, List.getD_cons_succ, List.foldl_cons, List.foldl_nil, List.setIfInBounds_toArray, List.set_cons_succ, List.set_cons_zero] at hK
              apply Kept.mk
              simp only [F2.Wp, Act.put, actv, fill, List.foldl_cons, List.foldl_nil, List.setIfInBounds_toArray, List.set_cons_succ, List.set_cons_zero]
              go_simp
              refine hK _ wz (Below.refl _ _) (Fact.eq_mk ?_)
              with_reducible rfl
            refine F2.Steps.consO rfl ?_ ?_
            · intro vz wz hBz hDz hTz K hK
              have E84 : vz 84 = _ := hDz 4 (by kernel_rfl) rfl
              have haz := hBz.blk ha.drew (by simp [F2.olds] <;> omega)
              obtain ⟨hazc0, hazc1, hazc2, hazc3, hazc4, -⟩ := haz.five
              replace hK := hK.out
              simp only [actv, fill, Act.put, F2.fc, List.getD_cons_zero, List.getD_cons_succ, List.foldl_cons, List.foldl_nil, List.setIfInBounds_toArray, List.set_cons_succ, List.set_cons_zero] at hK
              apply Kept.mk
              simp only [F2.Wp, Act.put, actv, fill, List.foldl_cons, List.foldl_nil, List.setIfInBounds_toArray, List.set_cons_succ, List.set_cons_zero]
              simp only [E84] at hK ⊢
              go_simp
              refine hK _ wz (Below.refl _ _) (Fact.eq_mk ?_)
              with_reducible rfl
            refine F2.Steps.consO rfl ?_ ?_
            · intro vz wz hBz hDz hTz K hK
              obtain ⟨n81_, A81_, l81_, c81_, E81, q81⟩ : IntV _ _ _ wz (vz 81) := hDz 1 (by kernel_rfl) rfl
              obtain ⟨n83_, A83_, l83_, c83_, E83, q83⟩ : IntV _ _ _ wz (vz 83) := hDz 3 (by kernel_rfl) rfl
              have E85 : vz 85 = _ := hDz 5 (by kernel_rfl) rfl
              replace hK := hK.out
              simp only [actv, fill, Act.put, F2.fc, List.getD_cons_zero, List.getD_cons_succ, List.foldl_cons, List.foldl_nil, List.setIfInBounds_toArray, List.set_cons_succ, List.set_cons_zero] at hK
              apply Kept.mk
              simp only [F2.Wp, Act.put, actv, fill, List.foldl_cons, List.foldl_nil, List.setIfInBounds_toArray, List.set_cons_succ, List.set_cons_zero]
              simp only [E81, E83, E85] at hK ⊢
              go_simp
              exact hK _ wz (Below.refl _ _) (⟨_, _, _, _, _, _, _, _, rfl, q81, q83⟩)
            refine F2.Steps.consT rfl ?_ ?_
            · intro vz wz hBz hDz hbz K hK
              obtain ⟨zc0, zc1, zc2, zc3, zc4, zc5, zc6, zc7, zc8, zc9⟩ := hbz.five
              obtain ⟨n86_, A86_, l86_, c86_, m86_, B86_, j86_, d86_, E86, q86, p86⟩ : BallV _ _ _ _ _ wz (vz 86) := hDz 6 (by kernel_rfl) rfl
              replace hK := hK.out
              simp only [actv, fill, Act.put, F2.fc, List.getD_cons_zero, List.getD_cons_succ, List.foldl_cons, List.foldl_nil, List.setIfInBounds_toArray, List.set_cons_succ, List.set_cons_zero] at hK
              apply Kept.mk
              simp only [F2.Wp, Act.put, actv, fill, List.foldl_cons, List.foldl_nil, List.setIfInBounds_toArray, List.set_cons_succ, List.set_cons_zero]
              simp only [E86] at hK ⊢
              go_simp
              exact hK _ (((((Far.set _ _ 0 _).trans (Far.set _ _ 1 _)).trans (Far.set _ _ 2 _)).trans (Far.set _ _ 3 _)).trans (Far.set _ _ 4 _)) ⟨_, blk_five hbz, NoU.five (by intro x h; cases h) (by intro x h; cases h) (by intro x h; cases h) (by intro x h; cases h) (by intro x h; cases h), ⟨_, _, _, _, _, _, _, _, rfl, q86, p86⟩⟩
            refine F2.Steps.consO rfl ?_ ?_
            · intro vz wz hBz hDz hTz K hK
              replace hK := hK.out
              simp only [actv, fill, Act.put, F2.fc, List.getD_cons_zero, List.getD_cons_succ, List.foldl_cons, List.foldl_nil, List.setIfInBounds_toArray, List.set_cons_succ, List.set_cons_zero] at hK
              apply Kept.mk
              simp only [F2.Wp, Act.put, actv, fill, List.foldl_cons, List.foldl_nil, List.setIfInBounds_toArray, List.set_cons_succ, List.set_cons_zero]
              go_simp
              refine hK _ wz (Below.refl _ _) (Fact.eq_mk ?_)
              with_reducible rfl
            exact F2.Steps.nil
          case finfo =>
            intro vz wa hBz ⟨hOz, hAz, hNz, hSz⟩
            have E80 : vz 80 = _ := hOz 0 (by decide) rfl
            obtain ⟨n81_, A81_, l81_, c81_, E81, q81⟩ : IntV _ _ _ wa (vz 81) := hOz 1 (by decide) rfl
            have E82 : vz 82 = _ := hOz 2 (by decide) rfl
            obtain ⟨n83_, A83_, l83_, c83_, E83, q83⟩ : IntV _ _ _ wa (vz 83) := hOz 3 (by decide) rfl
            have E84 : vz 84 = _ := hOz 4 (by decide) rfl
            have E85 : vz 85 = _ := hOz 5 (by decide) rfl
            obtain ⟨n86_, A86_, l86_, c86_, m86_, B86_, j86_, d86_, E86, q86, p86⟩ : BallV _ _ _ _ _ wa (vz 86) := hOz 6 (by decide) rfl
            obtain ⟨cs4, hb4, hs4⟩ := hSz 7 _ _ _ (by decide) rfl
            obtain ⟨n4_, A4_, l4_, c4_, m4_, B4_, j4_, d4_, e4_, q4, p4⟩ : BallV _ _ _ _ _ wa (.agg cs4) := hs4
            injection e4_ with e4_
            subst e4_
            have E5 : vz 5 = _ := hOz 8 (by decide) rfl
            simp only [Act.put, actv, fill, List.foldl_cons, List.foldl_nil, List.setIfInBounds_toArray, List.set_cons_succ, List.set_cons_zero]
            simp only [E80, E81, E82, E83, E84, E85, E86, E5]
            clear hOz hAz hNz hSz
            have hB9 := hBz.below (B := w.heap.size) (by have := HB.out.size; omega) (fun g hg => by simp [F2.olds] at hg; omega)
            have HB := hide (HB.out.trans hB9)
            have hws := HB.out.size
            go_wp2_with fail
            exact bodyPost_ret (results_ball_tmp rfl _ _ _ _ _ _ _ _ _ rfl hb4) rfl ⟨HB.out, RetE.yes ⟨_, _, _, _, _, _, _, _, rfl, q4.mono (by omega), p4.mono (by omega)⟩⟩
end Go.Proofs.YtnfbngiabdlclaaGreat

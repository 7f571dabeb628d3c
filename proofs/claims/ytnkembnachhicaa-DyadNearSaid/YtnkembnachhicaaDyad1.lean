/- dyad: counts, near, up, down: dyads as they are handed, and integers moved by powers of two. -/
import Derived.Test.YtnkembnachhicaaZed4
import Derived.StillTailTactics
import Derived.RegionTactic
import Derived.BigRegion
set_option linter.unusedVariables false
namespace Go.Proofs.Ytnkembnachhicaa
open Go.RowKit
open L (val dig nth)

theorem start2 (w : World) (t t' : TypeId) (a b : Array Value) : ∃ W0, W0 = (w.alloc (.cells a t)).alloc (.cells b t') ∧ Blk W0 w.heap.size t a ∧ Blk W0 (w.heap.size + 1) t' b ∧
    Below w.heap.size w W0 ∧ W0.heap.size = w.heap.size + 2 :=
  ⟨_, rfl, (Blk.new w t _).alloc _, by have := Blk.new (w.alloc (.cells a t)) t' b; simpa using this, ((Below.refl _ _).alloc (Nat.le_refl _) _).alloc (by simp) _, by simp⟩
theorem start3 (w : World) (t t' t'' : TypeId) (a b c : Array Value) : ∃ W0, W0 = ((w.alloc (.cells a t)).alloc (.cells b t')).alloc (.cells c t'') ∧ Blk W0 w.heap.size t a ∧ Blk W0 (w.heap.size + 1) t' b ∧
    Blk W0 (w.heap.size + 2) t'' c ∧ Below w.heap.size w W0 ∧ W0.heap.size = w.heap.size + 3 :=
  ⟨_, rfl, ((Blk.new w t _).alloc _).alloc _, by have := (Blk.new (w.alloc (.cells a t)) t' b).alloc (.cells c t''); simpa using this,
    by have := Blk.new ((w.alloc (.cells a t)).alloc (.cells b t')) t'' c; simpa using this, (((Below.refl _ _).alloc (Nat.le_refl _) _).alloc (by simp) _).alloc (by simp; omega) _, by simp⟩

/-- A number of places that counts. -/
def nearZ (n : Int) : Int := max (-4000) (min n 4000)
theorem nearZ_bounds (n : Int) : -4000 ≤ nearZ n ∧ nearZ n ≤ 4000 := by unfold nearZ; omega
theorem near_calls (w : World) (n : Int) : Calls Try.prog 65 #[.int .i64 n] w fun e w' => w = w' ∧ e = .returned (.int .i64 (nearZ n)) := by
  go_enter Try.func65, Try.ntmps65
  go_wp2_with fail
  go_ret
  exact ⟨rfl, ret_int (by unfold nearZ; omega)⟩

/-- The integer, and the exponent, of a dyad that counts. -/
def cM (z e : Int) : Int := if e < -4000 ∨ 4000 < e ∨ z = 0 then 0 else z
def cE (z e : Int) : Int := if e < -4000 ∨ 4000 < e ∨ z = 0 then 0 else e
theorem cE_bounds (z e : Int) : -4000 ≤ cE z e ∧ cE z e ≤ 4000 := by unfold cE; split <;> omega

/-- The integer in a pair that is handed back: a sign and a number, wherever its limbs lie. -/
def RetM (k : Nat) (z : Int) (m : Bool) (u : Value) (d : List Nat) (w : World) : Prop := Nums w 0 u d ∧ d.length ≤ k ∧ ival m (val W d) = z

def RetC (k : Nat) (z x : Int) (e : Ending) (w : World) : Prop := ∃ m u d, e = .returned (.tuple #[.agg #[.bool m, u], .int .i64 x]) ∧ RetM k z m u d w

set_option maxRecDepth 100000 in
theorem counts_calls (w : World) (n : Bool) (B : Nat) (v : Value) (l : List Nat) (x : Int) (h : Nums w B v l) (hl : l.length ≤ 60000) (hx0 : -9223372036854775808 ≤ x) (hx1 : x ≤ 9223372036854775807) :
    Calls Try.prog 64 #[.agg #[.bool n, v, .int .i64 x]] w fun e w' => Below w.heap.size w w' ∧
      RetC l.length (cM (ival n (val W l)) x) (cE (ival n (val W l)) x) e w' := by
  have h0 := h
  obtain ⟨A, cap, rfl, -, -, -, hc⟩ := h
  obtain ⟨W0, hW, hbx, hrs, hB0, hs⟩ := start2 w 26 24 #[.bool n, .slice A l.length cap, .int .i64 x] #[.bool false, .slice none 0 0]
  have h1 := h0.up hB0
  have HS := hide hs
  have hs2 : w.heap.size + 1 < W0.heap.size := by omega
  clear hs hc
  obtain ⟨c0, c1, c2, -, -, -⟩ := hbx.three
  obtain ⟨z, HZ⟩ : ∃ z, Hid (ival n (val W l) = z) := ⟨_, hide rfl⟩
  go_enter Try.func64, Try.ntmps64
  go_upto_region 1 with (fail)
  rw [← hW]
  clear hW
  obtain ⟨g0, g1, g2, g3⟩ := hrs.two
  by_cases hx2 : x < -4000
  · have HM : Hid (cM z x = 0) := hide (by unfold cM; rw [if_pos]; omega)
    have HE : Hid (cE z x = 0) := hide (by unfold cE; rw [if_pos]; omega)
    go_wp2_with fail
    rw [HZ.out, HM.out, HE.out]
    refine bodyPost_ret (results_int_tmp rfl _ _ _ _ _ _ rfl ((hrs.set_ 0 _).set_ 1 _)) rfl ⟨below2 hB0 (by omega) _ _, ?_⟩
    exact ⟨false, _, [], rfl, Nums.nil _ _, by simp, ival_zero _⟩
  · by_cases hx3 : 4000 < x
    · have HM : Hid (cM z x = 0) := hide (by unfold cM; rw [if_pos]; omega)
      have HE : Hid (cE z x = 0) := hide (by unfold cE; rw [if_pos]; omega)
      go_wp2_with fail
      rw [HZ.out, HM.out, HE.out]
      refine bodyPost_ret (results_int_tmp rfl _ _ _ _ _ _ rfl ((hrs.set_ 0 _).set_ 1 _)) rfl ⟨below2 hB0 (by omega) _ _, ?_⟩
      exact ⟨false, _, [], rfl, Nums.nil _ _, by simp, ival_zero _⟩
    · go_wp2_with fail
      refine (zsign_eq _ n B _ l z.sign (by rw [HZ.out]) h1 hl).mono ?_
      rintro e w1 ⟨hb1, rfl⟩
      have hbx1 := hbx.below hb1 hbx.lt
      have hrs1 := hrs.below hb1 hrs.lt
      have h2 := h1.below hb1
      obtain ⟨e0, e1, e2, -, -, -⟩ := hbx1.three
      obtain ⟨k0, k1, k2, k3⟩ := hrs1.two
      have HB1 := hide (hB0.trans (hb1.mono (by omega)))
      have s1 := hb1.size
      by_cases hz : z = 0
      · have HM : Hid (cM z x = 0) := hide (by unfold cM; rw [if_pos]; omega)
        have HE : Hid (cE z x = 0) := hide (by unfold cE; rw [if_pos]; omega)
        have hsg : z.sign = 0 := by rw [hz]; rfl
        rw [hsg]
        go_wp2_with fail
        rw [HZ.out, HM.out, HE.out]
        refine bodyPost_ret (results_int_tmp rfl _ _ _ _ _ _ rfl ((hrs1.set_ 0 _).set_ 1 _)) rfl ⟨below2 HB1.out (by omega) _ _, ?_⟩
        exact ⟨false, _, [], rfl, Nums.nil _ _, by simp, ival_zero _⟩
      · have HM : Hid (cM z x = z) := hide (by unfold cM; rw [if_neg]; omega)
        have HE : Hid (cE z x = x) := hide (by unfold cE; rw [if_neg]; omega)
        have hsg : (z.sign == 0) = false := by
          rw [beq_eq_false_iff_ne]
          intro h
          exact hz (Int.sign_eq_zero_iff_zero.1 h)
        go_wp2_with fail
        go_big_region
        go_wp2_with fail
        rw [HZ.out, HM.out, HE.out]
        refine bodyPost_ret (results_int_tmp rfl _ _ _ _ _ _ rfl ((hrs1.drew.set_ 0 _).set_ 1 _)) rfl ⟨below2 HB1.out.drew (by omega) _ _, ?_⟩
        exact ⟨n, _, l, rfl, (h0.below (below2 HB1.out.drew (by omega) _ _)).mono (Nat.zero_le _), Nat.le_refl _, HZ.out⟩

theorem pow_le_W {n t : Nat} (h : n ≤ 64 * t) : 2 ^ n ≤ W ^ t := by rw [W_pow]; exact Nat.pow_le_pow_right (by omega) h
theorem len_mul2 {d : List Nat} {z : Int} {k n t : Nat} (hd : Canon d (z * 2 ^ n).natAbs) (hz : z.natAbs < W ^ k) (hn : n ≤ 64 * t) : d.length ≤ k + t := by
  rw [hd.len, Int.natAbs_mul, Int.natAbs_pow, Nat.pow_add]
  exact Nat.mul_lt_mul_of_lt_of_le hz (pow_le_W hn) (Nat.pos_of_ne_zero (by rw [W_pow]; exact Nat.pos_iff_ne_zero.1 (Nat.two_pow_pos _)))
theorem len_div2 {d : List Nat} {z : Int} {k n : Nat} (hd : Canon d (z / 2 ^ n).natAbs) (hz : z.natAbs < W ^ k) : d.length ≤ k := by
  rw [hd.len]
  exact Nat.lt_of_le_of_lt (Int.natAbs_ediv_le_natAbs _ _) hz
theorem natAbs_lt {n : Bool} {l : List Nat} (h : ∀ x ∈ l, x < W) : (ival n (val W l)).natAbs < W ^ l.length := by rw [ival_natAbs]; exact L.val_lt l h
theorem clampN_of {k : Nat} (h : k ≤ 8192) : clampN (k : Int) = k := by unfold clampN; omega
theorem blk_two {w : World} {r : Nat} {t : TypeId} {a b x y : Value} (h : Blk w r t #[a, b]) : Blk ((w.setCell ⟨r, 0, none⟩ x).setCell ⟨r, 1, none⟩ y) r t #[x, y] := by
  have := (h.set_ 0 x).set_ 1 y
  simpa using this
theorem blk_far2 {w : World} {r g : Nat} {t : TypeId} {cs : Array Value} (h : Blk w g t cs) (hn : g ≠ r) (x y : Value) : Blk ((w.setCell ⟨r, 0, none⟩ x).setCell ⟨r, 1, none⟩ y) g t cs :=
  (h.far (p := ⟨r, 0, none⟩) hn x).far (p := ⟨r, 1, none⟩) hn y
theorem nums_low2 {w : World} {B r : Nat} {v : Value} {l : List Nat} (h : Nums w B v l) (hr : r < B) (x y : Value) : Nums ((w.setCell ⟨r, 0, none⟩ x).setCell ⟨r, 1, none⟩ y) B v l :=
  (h.set_low (p := ⟨r, 0, none⟩) hr x).set_low (p := ⟨r, 1, none⟩) hr y

theorem zshl_eq (w : World) (n : Bool) (B : Nat) (v : Value) (l : List Nat) (k : Int) (c : Nat) (z : Int) (h : Nums w B v l) (hl : l.length ≤ 60000) (hk0 : 0 ≤ k) (hk1 : k ≤ 8192) (hc : c = k) (hz : ival n (val W l) * 2 ^ c = z) :
    Calls Try.prog 61 #[.agg #[.bool n, v], .int .i64 k] w fun e w' => Below w.heap.size w w' ∧ RetZ w.heap.size z e w' := by
  subst hc
  have := zshl_calls w n B v l c h hl (by omega) (by omega)
  rw [clampN_of (by omega), hz] at this
  exact this
theorem zshr_eq (w : World) (n : Bool) (B : Nat) (v : Value) (l : List Nat) (k : Int) (c : Nat) (z : Int) (h : Nums w B v l) (hl : l.length ≤ 50000) (hk0 : 0 ≤ k) (hk1 : k ≤ 8192) (hc : c = k) (hz : ival n (val W l) / 2 ^ c = z) :
    Calls Try.prog 92 #[.agg #[.bool n, v], .int .i64 k] w fun e w' => Below w.heap.size w w' ∧ RetZ w.heap.size z e w' := by
  subst hc
  have := zshr_calls w n B v l c h hl (by omega) (by omega)
  rw [clampN_of (by omega), hz] at this
  exact this

set_option maxRecDepth 100000 in
theorem up_calls (w : World) (n : Bool) (B : Nat) (v : Value) (l : List Nat) (k : Nat) (h : Nums w B v l) (hl : l.length ≤ 10000) (hk : k ≤ 8000) :
    Calls Try.prog 66 #[.agg #[.bool n, v], .int .i64 k] w fun e w' => Below w.heap.size w w' ∧ RetZ w.heap.size (ival n (val W l) * 2 ^ k) e w' := by
  have h0 := h
  obtain ⟨A, cap, rfl, -, -, -, hc⟩ := h
  obtain ⟨W0, hW, hbx, hrs, hB0, hs⟩ := start2 w 24 24 #[.bool n, .slice A l.length cap] #[.bool false, .slice none 0 0]
  have h1 := h0.up hB0
  have hs2 : w.heap.size + 1 < W0.heap.size := by omega
  clear hs hc
  obtain ⟨z, HZ⟩ : ∃ z, Hid (ival n (val W l) = z) := ⟨_, hide rfl⟩
  go_enter Try.func66, Try.ntmps66
  go_upto_region 1 with (fail)
  rw [← hW]
  clear hW
  go_loopw [1] (fun s wr => ∃ (j : Nat) (m : Bool) (u : Value) (d : List Nat), s = .int .i64 j ∧ Blk wr w.heap.size 24 #[.bool m, u] ∧ Blk wr (w.heap.size + 1) 24 #[.bool false, .slice none 0 0] ∧
      Below w.heap.size w wr ∧ w.heap.size + 1 < wr.heap.size ∧ Nums wr 0 u d ∧ Hid (ival m (val W d) * 2 ^ j = z * 2 ^ k) ∧ d.length ≤ 20000 ∧ j ≤ 8000 ∧ (d.length ≤ 10000 ∨ j ≤ 4000)) (fun s _ => (intOf s).toNat)
  case atStart => exact ⟨k, n, _, l, rfl, hbx, hrs, hB0, hs2, h1.mono (Nat.zero_le _), hide (by rw [HZ.out]), by omega, hk, .inl hl⟩
  case round =>
    obtain ⟨j, m, u, d, rfl, hbx1, hrs1, hB1, hsr, hu, HV, hd1, hj, hdj⟩ := hrel
    obtain ⟨Au, capu, rfl⟩ := hu.form
    obtain ⟨c0, c1, c2, c3⟩ := hbx1.two
    by_cases hlt : 4000 < j
    · have hlt' : (4000 : Int) < (j : Int) := by omega
      have hw : IntKind.i64.wrap ((j : Int) - 4000) = ((j - 4000 : Nat) : Int) := by rw [IntWalk.i64_in _ (by omega)]; omega
      have HU := hide hu.lt
      go_wp2_with fail
      obtain ⟨c, HC⟩ : ∃ c : Nat, Hid (c = 4000) := ⟨_, hide rfl⟩
      obtain ⟨y, HY⟩ : ∃ y, Hid (ival m (val W d) * 2 ^ c = y) := ⟨_, hide rfl⟩
      refine (zshl_eq _ m 0 _ d 4000 c y hu (by omega) (by omega) (by omega) (by have := HC.out; omega) HY.out).mono ?_
      rintro e w1 ⟨hb1, u1, d1, rfl, hu1, hd1'⟩
      have hbx2 := hbx1.below hb1 (by omega)
      have hrs2 := hrs1.below hb1 (by omega)
      obtain ⟨f0, f1, f2, f3⟩ := hbx2.two
      have hln := len_mul2 (t := 63) (HY.out ▸ hd1') (natAbs_lt HU.out) (by have := HC.out; omega)
      obtain ⟨A1, cap1, rfl⟩ := hu1.form
      go_wp2_with fail
      have s1 := hb1.size
      go_roundw
      case rel =>
        refine ⟨j - 4000, _, _, d1, rfl, blk_two hbx2, blk_far2 hrs2 (by omega) _ _, below2 (hB1.trans (hb1.mono (by omega))) (by omega) _ _, by simp; omega, (nums_low2 hu1 (by omega) _ _).mono (Nat.zero_le _), ?_, by omega, by omega, by omega⟩
        refine hide ?_
        rw [← HV.out, hd1'.val, ival_self, ← HY.out, Int.mul_assoc, ← Int.pow_add]
        congr 2
        have := HC.out
        omega
      case measure => simp [intOf]; omega
    · have hlt' : (j : Int) ≤ 4000 := by omega
      have HU := hide hu.lt
      go_wp2_with fail
      obtain ⟨y, HY⟩ : ∃ y, Hid (z * 2 ^ k = y) := ⟨_, hide rfl⟩
      refine (zshl_eq _ m 0 _ d j j y hu (by omega) (by omega) (by omega) rfl (HV.out.trans HY.out)).mono ?_
      rintro e w1 ⟨hb1, u1, d1, rfl, hu1, hd1'⟩
      have hrs2 := hrs1.below hb1 (by omega)
      obtain ⟨g0, g1, g2, g3⟩ := hrs2.two
      obtain ⟨A1, cap1, rfl⟩ := hu1.form
      go_wp2_with fail
      have s1 := hb1.size
      refine bodyPost_ret (results_int rfl _ _ _ _ _ _ rfl ((hrs2.set_ 0 _).set_ 1 _)) rfl ⟨below2 (hB1.trans (hb1.mono (by omega))) (by omega) _ _, ?_⟩
      rw [HZ.out, HY.out]
      exact ⟨_, d1, rfl, (nums_low2 hu1 (by omega) _ _).mono (by omega), hd1'⟩
set_option maxRecDepth 100000 in
theorem down_calls (w : World) (n : Bool) (B : Nat) (v : Value) (l : List Nat) (k : Nat) (h : Nums w B v l) (hl : l.length ≤ 50000) (hk : k ≤ 9223372036854775807) :
    Calls Try.prog 67 #[.agg #[.bool n, v], .int .i64 k] w fun e w' => Below w.heap.size w w' ∧ RetZ w.heap.size (ival n (val W l) / 2 ^ k) e w' := by
  have h0 := h
  obtain ⟨A, cap, rfl, -, -, -, hc⟩ := h
  obtain ⟨W0, hW, hbx, hrs, hB0, hs⟩ := start2 w 24 24 #[.bool n, .slice A l.length cap] #[.bool false, .slice none 0 0]
  have h1 := h0.up hB0
  have hs2 : w.heap.size + 1 < W0.heap.size := by omega
  clear hs hc
  obtain ⟨z, HZ⟩ : ∃ z, Hid (ival n (val W l) = z) := ⟨_, hide rfl⟩
  go_enter Try.func67, Try.ntmps67
  go_upto_region 1 with (fail)
  rw [← hW]
  clear hW
  go_loopw [1] (fun s wr => ∃ (j : Nat) (m : Bool) (u : Value) (d : List Nat), s = .int .i64 j ∧ Blk wr w.heap.size 24 #[.bool m, u] ∧ Blk wr (w.heap.size + 1) 24 #[.bool false, .slice none 0 0] ∧
      Below w.heap.size w wr ∧ w.heap.size + 1 < wr.heap.size ∧ Nums wr 0 u d ∧ Hid (ival m (val W d) / 2 ^ j = z / 2 ^ k) ∧ d.length ≤ 50000 ∧ j ≤ 9223372036854775807) (fun s _ => (intOf s).toNat)
  case atStart => exact ⟨k, n, _, l, rfl, hbx, hrs, hB0, hs2, h1.mono (Nat.zero_le _), hide (by rw [HZ.out]), hl, hk⟩
  case round =>
    obtain ⟨j, m, u, d, rfl, hbx1, hrs1, hB1, hsr, hu, HV, hd1, hj⟩ := hrel
    obtain ⟨Au, capu, rfl⟩ := hu.form
    obtain ⟨c0, c1, c2, c3⟩ := hbx1.two
    by_cases hlt : 4000 < j
    · have hlt' : (4000 : Int) < (j : Int) := by omega
      have hw : IntKind.i64.wrap ((j : Int) - 4000) = ((j - 4000 : Nat) : Int) := by rw [IntWalk.i64_in _ (by omega)]; omega
      have HU := hide hu.lt
      go_wp2_with fail
      obtain ⟨c, HC⟩ : ∃ c : Nat, Hid (c = 4000) := ⟨_, hide rfl⟩
      obtain ⟨y, HY⟩ : ∃ y, Hid (ival m (val W d) / 2 ^ c = y) := ⟨_, hide rfl⟩
      refine (zshr_eq _ m 0 _ d 4000 c y hu (by omega) (by omega) (by omega) (by have := HC.out; omega) HY.out).mono ?_
      rintro e w1 ⟨hb1, u1, d1, rfl, hu1, hd1'⟩
      have hbx2 := hbx1.below hb1 (by omega)
      have hrs2 := hrs1.below hb1 (by omega)
      obtain ⟨f0, f1, f2, f3⟩ := hbx2.two
      have hln := len_div2 (HY.out ▸ hd1') (natAbs_lt HU.out)
      obtain ⟨A1, cap1, rfl⟩ := hu1.form
      go_wp2_with fail
      have s1 := hb1.size
      go_roundw
      case rel =>
        refine ⟨j - 4000, _, _, d1, rfl, blk_two hbx2, blk_far2 hrs2 (by omega) _ _, below2 (hB1.trans (hb1.mono (by omega))) (by omega) _ _, by simp; omega, (nums_low2 hu1 (by omega) _ _).mono (Nat.zero_le _), ?_, by omega, by omega⟩
        refine hide ?_
        rw [← HV.out, hd1'.val, ival_self, ← HY.out, Int.ediv_ediv_of_nonneg (Int.le_of_lt (two_pow_int _)), ← Int.pow_add]
        congr 2
        have := HC.out
        omega
      case measure => simp [intOf]; omega
    · have hlt' : (j : Int) ≤ 4000 := by omega
      have HU := hide hu.lt
      go_wp2_with fail
      obtain ⟨y, HY⟩ : ∃ y, Hid (z / 2 ^ k = y) := ⟨_, hide rfl⟩
      refine (zshr_eq _ m 0 _ d j j y hu (by omega) (by omega) (by omega) rfl (HV.out.trans HY.out)).mono ?_
      rintro e w1 ⟨hb1, u1, d1, rfl, hu1, hd1'⟩
      have hrs2 := hrs1.below hb1 (by omega)
      obtain ⟨g0, g1, g2, g3⟩ := hrs2.two
      obtain ⟨A1, cap1, rfl⟩ := hu1.form
      go_wp2_with fail
      have s1 := hb1.size
      refine bodyPost_ret (results_int rfl _ _ _ _ _ _ rfl ((hrs2.set_ 0 _).set_ 1 _)) rfl ⟨below2 (hB1.trans (hb1.mono (by omega))) (by omega) _ _, ?_⟩
      rw [HZ.out, HY.out]
      exact ⟨_, d1, rfl, (nums_low2 hu1 (by omega) _ _).mono (by omega), hd1'⟩
end Go.Proofs.Ytnkembnachhicaa

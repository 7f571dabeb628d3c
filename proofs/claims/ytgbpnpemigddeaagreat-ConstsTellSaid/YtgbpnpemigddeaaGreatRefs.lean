/- The document's numbers: digits of thirty-two bits: Trim, Digits, Limbs, Norm. The document's numbers: sums, differences of digits. The document's numbers: differences of digits, comparing, a digit's multiple. The document's numbers: products of digits. The document's numbers: Add, Sub, Mul, Shl, Shr, BitLen, Same. The document's numbers: Shl, Shr, BitLen. -/
import Derived.Test.YtgbpnpemigddeaaGreatNats
set_option linter.unusedVariables false
namespace Go.Proofs.YtgbpnpemigddeaaGreat
section
section
open Go.RowKit
open L (val dig nth)
def B32 : Nat := 4294967296
theorem jdu : 1 < B32 := by unfold B32; omega
theorem jbh : 0 < B32 := by unfold B32; omega
theorem jbo : B32 ≤ W := by unfold B32 W; omega
theorem ju2 : W = B32 * B32 := rfl
def CanonD (d : List Nat) (N : Nat) : Prop := d = dig B32 N
theorem CanonD.val {d : List Nat} {N : Nat} (h : CanonD d N) : L.val B32 d = N := by rw [show d = dig B32 N from h, L.val_dig jdu]
theorem CanonD.lt {d : List Nat} {N : Nat} (h : CanonD d N) : ∀ x ∈ d, x < B32 := by rw [show d = dig B32 N from h]; exact L.dig_lt jdu N
theorem CanonD.len {d : List Nat} {N m : Nat} (h : CanonD d N) : d.length ≤ m ↔ N < B32 ^ m := by rw [show d = dig B32 N from h]; exact L.dig_len jdu N m
def RetG (B N : Nat) (e : Ending) (w : World) : Prop := ∃ u d, e = .returned u ∧ Nums w B u d ∧ CanonD d N
theorem jbl {l : List Nat} (h : ∀ x ∈ l, x < B32) (i : Nat) : nth l i < 4294967296 := L.lt_of_getD jbh l h i
theorem jbx (w : World) (B : Nat) (v : Value) (l : List Nat) (h : Nums w B v l) (hl : ∀ x ∈ l, x < B32) :
    Calls Tryz.prog 105 #[v] w fun e w' => w = w' ∧ RetG B (val B32 l) e w' := by
  have h0 := h; obtain ⟨A, cap, rfl, hcap, hmax, hlt, hc⟩ := h
  go_enter Tryz.func105, Tryz.ntmps105
  go_wp2
  go_loop [3] (fun s => ∃ n : Nat, n ≤ l.length ∧ s = .int .i64 n ∧ ∀ i, n ≤ i → i < l.length → nth l i = 0) (fun s => (intOf s).toNat)
  case atStart => exact ⟨_, Nat.le_refl _, rfl, fun i h1 h2 => by omega⟩
  case round =>
    obtain ⟨n, hn, rfl, hz⟩ := hrel; have HZ := hide hz; clear hz
    cases n with
    | zero =>
      go_wp2
      go_ret
      refine ⟨rfl, _, _, rfl, h0.first (Nat.zero_le _), ?_⟩; exact (L.dig_val_take jdu l hl 0 (Nat.zero_le _) HZ.out (.inl rfl)).symm
    | succ m =>
      obtain ⟨b, off, rfl, hB, hb, hcell⟩ := hc (by omega); have hm := hcell m (by omega); have hcap' : m + 1 ≤ cap := by omega
      clear hcell hc
      go_wp2
      · have hz : ((nth l m : Nat) : Int) == 0 := by assumption
        go_round
        case rel =>
          refine ⟨m, by omega, by go_num, fun i h1 h2 => ?_⟩
          by_cases e : i = m
          · subst e; simpa using hz
          · exact HZ.out i (by omega) h2
        case measure => simp [intOf]
      · have hz : (((nth l m : Nat) : Int) == 0) = false := by assumption
        go_ret
        refine ⟨rfl, _, _, rfl, h0.first hn, ?_⟩; exact (L.dig_val_take jdu l hl (m + 1) hn HZ.out (.inr (by simpa using hz))).symm
theorem jfw (k : Nat) : B32 ^ (2 * k) = W ^ k := by rw [Nat.pow_mul, ju2, Nat.pow_two]
theorem jak (w : World) (B : Nat) (v : Value) (l : List Nat) (h : Nums w B v l) (hl : l.length ≤ 100000) :
    Calls Tryz.prog 103 #[v] w fun e w' => Below w.heap.size w w' ∧ RetG w.heap.size (val W l) e w' := by
  have hl0 := h.lt; obtain ⟨A, cap, rfl, -, -, -, hc⟩ := h; have hmk := jb2 (2 * (l.length : Int)) (2 * l.length) (by omega) (by omega)
  go_enter Tryz.func103, Tryz.ntmps103
  go_wp2_with fail
  clear hmk
  go_loopw [4] (fun i wr => ∃ (k : Nat) (o : List Nat), k ≤ l.length ∧ i = .int .i64 k ∧ Out wr w.heap.size o ∧ Hid (o.length = 2 * l.length) ∧ Hid (∀ x ∈ o, x < B32) ∧
      Hid (val B32 (o.take (2 * k)) = val W (l.take k)) ∧ Below w.heap.size w wr) (fun i _ => l.length - (intOf i).toNat)
  case atStart => exact ⟨0, _, Nat.zero_le _, rfl, Out.made w _, hide (by simp), hide (fun x hx => by rw [(List.mem_replicate.1 hx).2]; exact jbh), hide (by simp [L.val]), (Below.refl _ _).alloc (Nat.le_refl _) _⟩
  case round =>
    obtain ⟨k, o, hk, rfl, hO, HO, HOlt, HI, hB⟩ := hrel
    by_cases hlt : k < l.length
    · obtain ⟨b1, o1, rfl, -, hb1, hcell1⟩ := hc (by omega)
      have h1 : wr.cell? ⟨b1, o1 + k, none⟩ = _ := (hB.cell (p := ⟨b1, o1 + k, none⟩) hb1).trans (hcell1 k hlt); have hol : 2 * k + 1 < o.length := by have := HO.out; omega
      have h3 := hO.cell (i := 2 * k) (by omega); have h4 := hO.frozen (2 * k); have h5 := hO.cell hol; have h6 := hO.frozen (2 * k + 1); have px := jbc hl0 k; have bi : 2 * (k : Int) + 1 < 2 * (l.length : Int) := by omega
      have hgb : b1 ≠ w.heap.size := by omega
      clear hcell1 hc
      go_wp2_with fail
      go_roundw
      case rel =>
        have e1 : ((nth l k : Nat) : Int) % 4294967296 = ((nth l k % B32 : Nat) : Int) := by unfold B32; omega
        have e2 : ((nth l k : Nat) : Int) / 4294967296 = ((nth l k / B32 : Nat) : Int) := by unfold B32; omega
        have q1 : nth l k % B32 < B32 := Nat.mod_lt _ jbh; have q2 : nth l k / B32 < B32 := by unfold B32; omega
        refine ⟨k + 1, _, by omega, by go_num, (hO.set_of (2 * k) _ e1).set_of (2 * k + 1) _ e2, hide (by simpa using HO.out), hide (L.mem_set_lt _ (L.mem_set_lt o HOlt.out _ _ q1) _ _ q2), hide ?_,
          (hB.setCell (Nat.le_refl _) _).setCell (Nat.le_refl _) _⟩
        rw [show 2 * (k + 1) = 2 * k + 1 + 1 from by omega, L.val_set_take B32 _ (2 * k + 1) _ (by simpa using hol), L.val_set_take B32 o (2 * k) _ (by omega), HI.out, L.val_take_step W l k, Nat.pow_succ, jfw]; have e3 := Nat.mod_add_div (nth l k) B32
        generalize nth l k % B32 = x at *
        generalize nth l k / B32 = y at *
        rw [← e3, Nat.mul_add, ← Nat.mul_assoc]
        omega
      case measure => simp [intOf]; omega
    · have hke : k = l.length := by omega
      subst hke
      have HV : Hid (val B32 o = val W l) := hide (by
        have := HI.out
        rwa [List.take_of_length_le (by have := HO.out; omega), List.take_of_length_le (Nat.le_refl _)] at this)
      have hN := hO.nums (Nat.le_refl _) (by have := HO.out; omega) (fun x hx => Nat.lt_of_lt_of_le (HOlt.out x hx) jbo); rw [HO.out] at hN; have HN := hide hN; clear hN hc
      go_wp2_with fail
      refine (jbx _ _ _ _ HN.out HOlt.out).mono ?_; rintro e w1 ⟨rfl, u, d, rfl, hu, hd⟩
      go_wp2_with fail
      go_ret
      refine ⟨hB, u, d, rfl, hu, ?_⟩; rw [← HV.out]; exact hd
theorem jnn {b : Nat} (hb : 1 < b) (l : List Nat) (hl : ∀ x ∈ l, x < b) (hge : l.length = 0 ∨ b ^ (l.length - 1) ≤ val b l) : dig b (val b l) = l := by
  refine L.dig_val hb l hl ?_; intro x hx h0
  have hp : 0 < l.length := by
    rcases Nat.eq_zero_or_pos l.length with h | h
    · rw [List.eq_nil_of_length_eq_zero h] at hx; cases hx
    · exact h
  rcases hge with hge | hge
  · omega
  · have e := L.val_take_step b l (l.length - 1)
    rw [List.take_of_length_le (by omega)] at e
    have hn : nth l (l.length - 1) = 0 := by
      rw [L.nth_def, List.getD_eq_getElem?_getD, ← List.getLast?_eq_getElem?, hx, h0]; rfl
    rw [hn] at e; have h1 := L.val_lt (b := b) (l.take (l.length - 1)) (fun x hx => hl x (List.mem_of_mem_take hx)); rw [List.length_take, Nat.min_eq_left (by omega)] at h1
    omega
theorem jgn (d o : List Nat) (k x : Nat) (ho : o.length = k) (h : val W o = val B32 (d.take (2 * k))) (hx : x = nth d (2 * k) + B32 * nth d (2 * k + 1)) :
    val W (o ++ [x]) = val B32 (d.take (2 * (k + 1))) := by
  rw [L.val_append, ho, h, show 2 * (k + 1) = 2 * k + 1 + 1 from by omega, L.val_take_step B32 d (2 * k + 1), L.val_take_step B32 d (2 * k), Nat.pow_succ, jfw, L.val_cons, L.val_nil, hx]; rw [Nat.mul_zero, Nat.add_zero, Nat.mul_add, Nat.mul_assoc]
  omega
theorem ja3 (w : World) (B : Nat) (v : Value) (l : List Nat) (h : Nums w B v l) (hl : ∀ x ∈ l, x < B32) (hl2 : l.length ≤ 400000) :
    Calls Tryz.prog 104 #[v] w fun e w' => Below w.heap.size w w' ∧ RetU w.heap.size (val B32 l) e w' := by
  go_enter Tryz.func104, Tryz.ntmps104
  go_wp2_with fail
  refine (jbx _ B _ l h hl).mono ?_; rintro e w1 ⟨rfl, u, d, rfl, hu, hd⟩; have hdl : d.length ≤ 400000 := by rw [show d = dig B32 (val B32 l) from hd]; exact Nat.le_trans (L.dig_len_val jdu l hl) hl2
  have hd0 := hd.lt; obtain ⟨A, cap, rfl, -, -, -, hc⟩ := hu
  go_wp2_with fail
  go_loopw [3, 4] (fun v i wr => ∃ (k : Nat) (o : List Nat), 2 * k ≤ d.length + 1 ∧ i = .int .i64 (2 * (k : Int)) ∧ OwnU wr w.heap.size v o ∧ Hid (o.length = k) ∧ Hid (∀ x ∈ o, x < W) ∧
      Hid (val W o = val B32 (d.take (2 * k))) ∧ Below w.heap.size w wr) (fun _ i _ => d.length + 1 - (intOf i).toNat)
  case atStart => exact ⟨0, [], by omega, rfl, OwnU.nil w _, hide rfl, hide (by simp), hide (by simp [L.val]), Below.refl _ _⟩
  case round =>
    obtain ⟨k, o, hk, rfl, hO, HO, HOlt, HI, hB⟩ := hrel; have hbs := hB.size
    by_cases hlt : 2 * k < d.length
    · obtain ⟨b1, o1, rfl, -, hb1, hcell1⟩ := hc (by omega)
      have h1 : wr.cell? ⟨b1, o1 + 2 * k, none⟩ = _ := (hB.cell (p := ⟨b1, o1 + 2 * k, none⟩) hb1).trans (hcell1 (2 * k) hlt); have px := jbl hd0 (2 * k); have py := jbl hd0 (2 * k + 1); have bi : 2 * (k : Int) < (d.length : Int) := by omega
      have hol : o.length ≤ 400000 := by have := HO.out; omega
      by_cases hlt2 : 2 * k + 1 < d.length
      · have h2 : wr.cell? ⟨b1, o1 + (2 * k + 1), none⟩ = _ := (hB.cell (p := ⟨b1, o1 + (2 * k + 1), none⟩) hb1).trans (hcell1 (2 * k + 1) hlt2)
        have bi2 : 2 * (k : Int) + 1 < (d.length : Int) := by omega
        have ez : ((nth d (2 * k) : Nat) : Int) + 4294967296 * ((nth d (2 * k + 1) : Nat) : Int) = ((nth d (2 * k) + B32 * nth d (2 * k + 1) : Nat) : Int) := by unfold B32; omega
        have EZ := hide ez; have ezl : nth d (2 * k) + B32 * nth d (2 * k + 1) < W := by unfold B32 W; omega
        clear hcell1 hc ez
        go_wp2_with (at_builtin; refine jae _ rfl _ _ rfl w.heap.size _ o rfl (hO.alloc _) 0 _ [nth d (2 * k) + B32 * nth d (2 * k + 1)] rfl (Nums.one wr _ _ EZ.out ezl) (by simp; omega) (by simp; omega) ?_; intro v1 w1 hown1 hgrow1)
        go_roundw
        case rel =>
          refine ⟨k + 1, _, by omega, by go_num, hown1, hide (by simp; exact HO.out), hide ?_, hide (jgn d o k _ HO.out HI.out rfl), (hB.alloc hbs _).grown hgrow1 (by simp; omega) hO.own_ge⟩; intro x hx
          rcases List.mem_append.1 hx with hx | hx
          · exact HOlt.out x hx
          · rw [List.mem_singleton.1 hx]; exact ezl
        case measure => simp [intOf]; omega
      · have bi2 : ¬ (2 * (k : Int) + 1 < (d.length : Int)) := by omega
        have ezl : nth d (2 * k) < W := by unfold W; omega
        have hz : nth d (2 * k + 1) = 0 := L.getD_ge d _ (by omega); have HZ := hide hz; clear hcell1 hc hz
        go_wp2_with (at_builtin; refine jae _ rfl _ _ rfl w.heap.size _ o rfl (hO.alloc _) 0 _ [nth d (2 * k)] rfl (Nums.one wr _ _ rfl ezl) (by simp; omega) (by simp; omega) ?_; intro v1 w1 hown1 hgrow1)
        go_roundw
        case rel =>
          refine ⟨k + 1, _, by omega, by go_num, hown1, hide (by simp; exact HO.out), hide ?_, hide (jgn d o k _ HO.out HI.out (by rw [HZ.out]; omega)), (hB.alloc hbs _).grown hgrow1 (by simp; omega) hO.own_ge⟩; intro x hx
          rcases List.mem_append.1 hx with hx | hx
          · exact HOlt.out x hx
          · rw [List.mem_singleton.1 hx]; exact ezl
        case measure => simp [intOf]; omega
    · have bi : ¬ (2 * (k : Int) < (d.length : Int)) := by omega
      have HV : Hid (Canon o (val B32 l)) := hide (by
        have h1 := HI.out; rw [List.take_of_length_le (by omega), hd.val] at h1; unfold Canon; rw [← h1]; refine (jnn W_gt o HOlt.out ?_).symm
        rcases Nat.eq_zero_or_pos d.length with h2 | h2
        · left; rw [HO.out]; omega
        · right
          have h3 : ¬ d.length ≤ d.length - 1 := by omega
          rw [hd.len] at h3; rw [h1, HO.out]; refine Nat.le_trans ?_ (Nat.not_lt.1 h3); rw [← jfw]; exact Nat.pow_le_pow_right jbh (by omega))
      go_wp2_with fail
      go_ret
      exact ⟨hB, _, o, rfl, hO.nums HOlt.out, HV.out⟩
theorem jjz (w : World) (B : Nat) (v : Value) (l : List Nat) (h : Nums w B v l) (hl : l.length ≤ 100000) :
    Calls Tryz.prog 90 #[v] w fun e w' => Below w.heap.size w w' ∧ RetU w.heap.size (val W l) e w' := by
  go_enter Tryz.func90, Tryz.ntmps90
  go_wp2_with fail
  refine (jak _ B _ l h hl).mono ?_; rintro e w1 ⟨hB1, u, d, rfl, hu, hd⟩
  have hdl2 : d.length ≤ 2 * l.length := by
    rw [hd.len]; have h1 := L.val_lt l h.lt
    rwa [← jfw] at h1
  have hdl : d.length ≤ 400000 := by omega
  go_wp2_with fail
  refine (ja3 _ _ _ d hu hd.lt hdl).mono ?_; rintro e w2 ⟨hB2, u2, d2, rfl, hu2, hd2⟩; rw [hd.val] at hd2
  go_wp2_with fail
  go_ret
  exact ⟨hB1.trans (hB2.mono hB1.size), u2, d2, rfl, hu2.mono hB1.size, hd2⟩
end
end
section
section
open Go.RowKit
open L (val dig nth)
def RetV (B N m : Nat) (e : Ending) (w : World) : Prop := ∃ u o, e = .returned u ∧ Nums w B u o ∧ (∀ x ∈ o, x < B32) ∧ val B32 o = N ∧ o.length ≤ m
set_option maxHeartbeats 1000000 in
theorem jmj (w : World) (B C : Nat) (va vb : Value) (p q : List Nat) (hp : Nums w B va p) (hq : Nums w C vb q) (hp0 : ∀ x ∈ p, x < B32) (hq0 : ∀ x ∈ q, x < B32) (hpl : p.length ≤ 400000) (hql : q.length ≤ 400000) :
    Calls Tryz.prog 110 #[va, vb] w fun e w' => Below w.heap.size w w' ∧ RetV w.heap.size (val B32 p + val B32 q) (max p.length q.length + 1) e w' := by
  obtain ⟨A1, c1, rfl, -, -, -, hcp⟩ := hp; obtain ⟨A2, c2, rfl, -, -, -, hcq⟩ := hq
  go_enter Tryz.func110, Tryz.ntmps110
  go_wp2_with fail
  go_loopw [5, 6, 7] (fun v cv i wr => ∃ (k c : Nat) (o : List Nat), k ≤ max p.length q.length + 1 ∧ i = .int .i64 k ∧ cv = .int .u64 c ∧ c ≤ 1 ∧ Hid (p.length < k → q.length < k → c = 0) ∧ OwnU wr w.heap.size v o ∧ Hid (o.length = k) ∧ Hid (∀ x ∈ o, x < B32) ∧
      Hid (val B32 o + B32 ^ k * c = val B32 (p.take k) + val B32 (q.take k)) ∧ Below w.heap.size w wr) (fun _ _ i _ => max p.length q.length + 1 - (intOf i).toNat)
  case atStart => exact ⟨0, 0, [], by omega, rfl, rfl, by omega, hide (fun _ _ => rfl), OwnU.nil w _, hide rfl, hide (by simp), hide (by simp [L.val]), Below.refl _ _⟩
  case round =>
    obtain ⟨k, c, o, hk, rfl, rfl, hc1, HE, hO, HO, HOlt, HI, hB⟩ := hrel; have hbs := hB.size
    have hkm : c = 0 ∨ k ≤ max p.length q.length := by
      by_cases h : k ≤ max p.length q.length
      · exact .inr h
      · exact .inl (HE.out (by omega) (by omega))
    have px := jbl hp0 k; have qx := jbl hq0 k; have hol : o.length ≤ 500000 := by have := HO.out; omega
    by_cases hkp : k < p.length
    · by_cases hkq : k < q.length
      · skip
        obtain ⟨b1, o1, rfl, -, hb1, hcell1⟩ := hcp (by omega); have h1 : wr.cell? ⟨b1, o1 + k, none⟩ = _ := (hB.cell (p := ⟨b1, o1 + k, none⟩) hb1).trans (hcell1 k hkp); have bp : (k : Int) < (p.length : Int) := by omega
        clear hcell1 hcp; obtain ⟨b2, o2, rfl, -, hb2, hcell2⟩ := hcq (by omega); have h2 : wr.cell? ⟨b2, o2 + k, none⟩ = _ := (hB.cell (p := ⟨b2, o2 + k, none⟩) hb2).trans (hcell2 k hkq); have bq : (k : Int) < (q.length : Int) := by omega
        clear hcell2 hcq; have ez : ((c : Int) + ((nth p k : Nat) : Int) + ((nth q k : Nat) : Int)) % 4294967296 = (((c + nth p k + nth q k) % B32 : Nat) : Int) := by unfold B32; omega
        have ey : ((c : Int) + ((nth p k : Nat) : Int) + ((nth q k : Nat) : Int)) / 4294967296 = (((c + nth p k + nth q k) / B32 : Nat) : Int) := by unfold B32; omega
        have EZ := hide ez; have EY := hide ey; have ezl : (c + nth p k + nth q k) % B32 < B32 := Nat.mod_lt _ jbh; have eyl : (c + nth p k + nth q k) / B32 ≤ 1 := by unfold B32; omega
        have EF : Hid (p.length ≤ k → q.length ≤ k → (c + nth p k + nth q k) / B32 = 0) := hide (fun h1 h2 => by rw [L.getD_ge p k h1, L.getD_ge q k h2]; unfold B32; omega); clear ez ey
        go_wp2_with (at_builtin; refine jae _ rfl _ _ rfl w.heap.size _ o rfl (hO.alloc _) 0 _ [(c + nth p k + nth q k) % B32] rfl (Nums.one wr _ _ EZ.out (Nat.lt_of_lt_of_le ezl jbo)) (by simp; omega) (by simp; omega) ?_; intro v1 w1 hown1 hgrow1)
        go_roundw
        case rel =>
          refine ⟨k + 1, (c + nth p k + nth q k) / B32, _, by omega, by go_num, by rw [EY.out], eyl, hide ?_, hown1, hide (by simp; exact HO.out), hide ?_, hide (L.addD_step B32 p q o k c _ HO.out HI.out rfl), (hB.alloc hbs _).grown hgrow1 (by simp; omega) hO.own_ge⟩
          · intro h1 h2; exact EF.out (by omega) (by omega)
          · intro x hx
            rcases List.mem_append.1 hx with hx | hx
            · exact HOlt.out x hx
            · rw [List.mem_singleton.1 hx]; exact ezl
        case measure => simp [intOf]; omega
      · skip
        obtain ⟨b1, o1, rfl, -, hb1, hcell1⟩ := hcp (by omega); have h1 : wr.cell? ⟨b1, o1 + k, none⟩ = _ := (hB.cell (p := ⟨b1, o1 + k, none⟩) hb1).trans (hcell1 k hkp); have bp : (k : Int) < (p.length : Int) := by omega
        clear hcell1 hcp; have bq : ¬ ((k : Int) < (q.length : Int)) := by omega
        have hzq : nth q k = 0 := L.getD_ge q k (by omega); have HZQ := hide hzq; clear hzq; have ez : ((c : Int) + ((nth p k : Nat) : Int)) % 4294967296 = (((c + nth p k + nth q k) % B32 : Nat) : Int) := by rw [HZQ.out]; unfold B32; omega
        have ey : ((c : Int) + ((nth p k : Nat) : Int)) / 4294967296 = (((c + nth p k + nth q k) / B32 : Nat) : Int) := by rw [HZQ.out]; unfold B32; omega
        have EZ := hide ez; have EY := hide ey; have ezl : (c + nth p k + nth q k) % B32 < B32 := Nat.mod_lt _ jbh; have eyl : (c + nth p k + nth q k) / B32 ≤ 1 := by unfold B32; omega
        have EF : Hid (p.length ≤ k → q.length ≤ k → (c + nth p k + nth q k) / B32 = 0) := hide (fun h1 h2 => by rw [L.getD_ge p k h1, L.getD_ge q k h2]; unfold B32; omega); clear ez ey
        go_wp2_with (at_builtin; refine jae _ rfl _ _ rfl w.heap.size _ o rfl (hO.alloc _) 0 _ [(c + nth p k + nth q k) % B32] rfl (Nums.one wr _ _ EZ.out (Nat.lt_of_lt_of_le ezl jbo)) (by simp; omega) (by simp; omega) ?_; intro v1 w1 hown1 hgrow1)
        go_roundw
        case rel =>
          refine ⟨k + 1, (c + nth p k + nth q k) / B32, _, by omega, by go_num, by rw [EY.out], eyl, hide ?_, hown1, hide (by simp; exact HO.out), hide ?_, hide (L.addD_step B32 p q o k c _ HO.out HI.out rfl), (hB.alloc hbs _).grown hgrow1 (by simp; omega) hO.own_ge⟩
          · intro h1 h2; exact EF.out (by omega) (by omega)
          · intro x hx
            rcases List.mem_append.1 hx with hx | hx
            · exact HOlt.out x hx
            · rw [List.mem_singleton.1 hx]; exact ezl
        case measure => simp [intOf]; omega
    · by_cases hkq : k < q.length
      · skip
        have bp : ¬ ((k : Int) < (p.length : Int)) := by omega
        have hzp : nth p k = 0 := L.getD_ge p k (by omega); have HZP := hide hzp; clear hzp; obtain ⟨b2, o2, rfl, -, hb2, hcell2⟩ := hcq (by omega); have h2 : wr.cell? ⟨b2, o2 + k, none⟩ = _ := (hB.cell (p := ⟨b2, o2 + k, none⟩) hb2).trans (hcell2 k hkq); have bq : (k : Int) < (q.length : Int) := by omega
        clear hcell2 hcq; have ez : ((c : Int) + ((nth q k : Nat) : Int)) % 4294967296 = (((c + nth p k + nth q k) % B32 : Nat) : Int) := by rw [HZP.out]; unfold B32; omega
        have ey : ((c : Int) + ((nth q k : Nat) : Int)) / 4294967296 = (((c + nth p k + nth q k) / B32 : Nat) : Int) := by rw [HZP.out]; unfold B32; omega
        have EZ := hide ez; have EY := hide ey; have ezl : (c + nth p k + nth q k) % B32 < B32 := Nat.mod_lt _ jbh; have eyl : (c + nth p k + nth q k) / B32 ≤ 1 := by unfold B32; omega
        have EF : Hid (p.length ≤ k → q.length ≤ k → (c + nth p k + nth q k) / B32 = 0) := hide (fun h1 h2 => by rw [L.getD_ge p k h1, L.getD_ge q k h2]; unfold B32; omega); clear ez ey
        go_wp2_with (at_builtin; refine jae _ rfl _ _ rfl w.heap.size _ o rfl (hO.alloc _) 0 _ [(c + nth p k + nth q k) % B32] rfl (Nums.one wr _ _ EZ.out (Nat.lt_of_lt_of_le ezl jbo)) (by simp; omega) (by simp; omega) ?_; intro v1 w1 hown1 hgrow1)
        go_roundw
        case rel =>
          refine ⟨k + 1, (c + nth p k + nth q k) / B32, _, by omega, by go_num, by rw [EY.out], eyl, hide ?_, hown1, hide (by simp; exact HO.out), hide ?_, hide (L.addD_step B32 p q o k c _ HO.out HI.out rfl), (hB.alloc hbs _).grown hgrow1 (by simp; omega) hO.own_ge⟩
          · intro h1 h2; exact EF.out (by omega) (by omega)
          · intro x hx
            rcases List.mem_append.1 hx with hx | hx
            · exact HOlt.out x hx
            · rw [List.mem_singleton.1 hx]; exact ezl
        case measure => simp [intOf]; omega
      · by_cases hc0 : c = 0
        · subst hc0
          have bp : ¬ ((k : Int) < (p.length : Int)) := by omega
          have bq : ¬ ((k : Int) < (q.length : Int)) := by omega
          have HV : Hid (val B32 o = val B32 p + val B32 q) := hide (by
            have := HI.out
            rwa [List.take_of_length_le (by omega), List.take_of_length_le (by omega), Nat.mul_zero, Nat.add_zero] at this)
          go_wp2_with fail
          go_ret
          exact ⟨hB, _, o, rfl, hO.nums (fun x hx => Nat.lt_of_lt_of_le (HOlt.out x hx) jbo), HOlt.out, HV.out, by have := HO.out; omega⟩
        · skip
          have bp : ¬ ((k : Int) < (p.length : Int)) := by omega
          have hzp : nth p k = 0 := L.getD_ge p k (by omega); have HZP := hide hzp; clear hzp; have bq : ¬ ((k : Int) < (q.length : Int)) := by omega
          have hzq : nth q k = 0 := L.getD_ge q k (by omega); have HZQ := hide hzq; clear hzq; have hc1' : (0 : Int) < (c : Int) := by omega
          have ez : ((c : Int)) % 4294967296 = (((c + nth p k + nth q k) % B32 : Nat) : Int) := by rw [HZP.out, HZQ.out]; unfold B32; omega
          have ey : ((c : Int)) / 4294967296 = (((c + nth p k + nth q k) / B32 : Nat) : Int) := by rw [HZP.out, HZQ.out]; unfold B32; omega
          have EZ := hide ez; have EY := hide ey; have ezl : (c + nth p k + nth q k) % B32 < B32 := Nat.mod_lt _ jbh; have eyl : (c + nth p k + nth q k) / B32 ≤ 1 := by unfold B32; omega
          have EF : Hid (p.length ≤ k → q.length ≤ k → (c + nth p k + nth q k) / B32 = 0) := hide (fun h1 h2 => by rw [L.getD_ge p k h1, L.getD_ge q k h2]; unfold B32; omega); clear ez ey
          go_wp2_with (at_builtin; refine jae _ rfl _ _ rfl w.heap.size _ o rfl (hO.alloc _) 0 _ [(c + nth p k + nth q k) % B32] rfl (Nums.one wr _ _ EZ.out (Nat.lt_of_lt_of_le ezl jbo)) (by simp; omega) (by simp; omega) ?_; intro v1 w1 hown1 hgrow1)
          go_roundw
          case rel =>
            refine ⟨k + 1, (c + nth p k + nth q k) / B32, _, by omega, by go_num, by rw [EY.out], eyl, hide ?_, hown1, hide (by simp; exact HO.out), hide ?_, hide (L.addD_step B32 p q o k c _ HO.out HI.out rfl), (hB.alloc hbs _).grown hgrow1 (by simp; omega) hO.own_ge⟩
            · intro h1 h2; exact EF.out (by omega) (by omega)
            · intro x hx
              rcases List.mem_append.1 hx with hx | hx
              · exact HOlt.out x hx
              · rw [List.mem_singleton.1 hx]; exact ezl
          case measure => simp [intOf]; omega
end
end
section
section
open Go.RowKit
open L (val dig nth)
theorem jgo (w : World) (B C : Nat) (va vb : Value) (p q : List Nat) (hp : Nums w B va p) (hq : Nums w C vb q) (hp0 : ∀ x ∈ p, x < B32) (hq0 : ∀ x ∈ q, x < B32) (hpl : p.length ≤ 400000) (hqp : q.length ≤ p.length) (hle : val B32 q ≤ val B32 p) :
    Calls Tryz.prog 108 #[va, vb] w fun e w' => Below w.heap.size w w' ∧ RetG w.heap.size (val B32 p - val B32 q) e w' := by
  have HLE := hide hle; clear hle; obtain ⟨A1, c1, rfl, -, -, -, hcp⟩ := hp; obtain ⟨A2, c2, rfl, -, -, -, hcq⟩ := hq
  go_enter Tryz.func108, Tryz.ntmps108
  go_wp2_with fail
  go_loopw [5, 6, 7] (fun v cv i wr => ∃ (k c : Nat) (o : List Nat), k ≤ p.length ∧ i = .int .i64 k ∧ cv = .int .u64 c ∧ c ≤ 1 ∧ OwnU wr w.heap.size v o ∧ Hid (o.length = k) ∧ Hid (∀ x ∈ o, x < B32) ∧
      Hid (val B32 o + val B32 (q.take k) = val B32 (p.take k) + B32 ^ k * c) ∧ Below w.heap.size w wr) (fun _ _ i _ => p.length - (intOf i).toNat)
  case atStart => exact ⟨0, 0, [], by omega, rfl, rfl, by omega, OwnU.nil w _, hide rfl, hide (by simp), hide (by simp [L.val]), Below.refl _ _⟩
  case round =>
    obtain ⟨k, c, o, hk, rfl, rfl, hc1, hO, HO, HOlt, HI, hB⟩ := hrel; have hbs := hB.size
    by_cases hlt : k < p.length
    · have px := jbl hp0 k
      have qx := jbl hq0 k; have hol : o.length ≤ 500000 := by have := HO.out; omega
      obtain ⟨b1, o1, rfl, -, hb1, hcell1⟩ := hcp (by omega); have h1 : wr.cell? ⟨b1, o1 + k, none⟩ = _ := (hB.cell (p := ⟨b1, o1 + k, none⟩) hb1).trans (hcell1 k hlt); have bp : (k : Int) < (p.length : Int) := by omega
      clear hcell1 hcp
      by_cases hkq : k < q.length
      · obtain ⟨b2, o2, rfl, -, hb2, hcell2⟩ := hcq (by omega)
        have h2 : wr.cell? ⟨b2, o2 + k, none⟩ = _ := (hB.cell (p := ⟨b2, o2 + k, none⟩) hb2).trans (hcell2 k hkq); have bq : (k : Int) < (q.length : Int) := by omega
        clear hcell2 hcq
        by_cases hbo : nth p k < nth q k + c
        · skip
          have hbo' : (((nth p k : Nat) : Int) < (c : Int) + ((nth q k : Nat) : Int)) := by omega
          have ez : ((nth p k : Nat) : Int) + 4294967296 - ((c : Int) + ((nth q k : Nat) : Int)) = (((nth p k + B32 - (nth q k + c)) : Nat) : Int) := by (try unfold B32); omega
          have EZ := hide ez; have ezl : (nth p k + B32 - (nth q k + c)) < B32 := by unfold B32; omega
          have EST := hide (L.subD_step B32 p q o k c (nth p k + B32 - (nth q k + c)) 1 HO.out HI.out (by unfold B32; omega)); clear ez hbo
          go_wp2_with (at_builtin; refine jae _ rfl _ _ rfl w.heap.size _ o rfl (hO.alloc _) 0 _ [(nth p k + B32 - (nth q k + c))] rfl (Nums.one wr _ _ EZ.out (Nat.lt_of_lt_of_le ezl jbo)) (by simp; omega) (by simp; omega) ?_; intro v1 w1 hown1 hgrow1)
          go_roundw
          case rel =>
            refine ⟨k + 1, 1, _, by omega, by go_num, rfl, by omega, hown1, hide (by simp; exact HO.out), hide ?_, EST, (hB.alloc hbs _).grown hgrow1 (by simp; omega) hO.own_ge⟩; intro x hx
            rcases List.mem_append.1 hx with hx | hx
            · exact HOlt.out x hx
            · rw [List.mem_singleton.1 hx]; exact ezl
          case measure => simp [intOf]; omega
        · skip
          have hbo' : ¬ (((nth p k : Nat) : Int) < (c : Int) + ((nth q k : Nat) : Int)) := by omega
          have ez : ((nth p k : Nat) : Int) - ((c : Int) + ((nth q k : Nat) : Int)) = (((nth p k - (nth q k + c)) : Nat) : Int) := by (try unfold B32); omega
          have EZ := hide ez; have ezl : (nth p k - (nth q k + c)) < B32 := by unfold B32; omega
          have EST := hide (L.subD_step B32 p q o k c (nth p k - (nth q k + c)) 0 HO.out HI.out (by unfold B32; omega)); clear ez hbo
          go_wp2_with (at_builtin; refine jae _ rfl _ _ rfl w.heap.size _ o rfl (hO.alloc _) 0 _ [(nth p k - (nth q k + c))] rfl (Nums.one wr _ _ EZ.out (Nat.lt_of_lt_of_le ezl jbo)) (by simp; omega) (by simp; omega) ?_; intro v1 w1 hown1 hgrow1)
          go_roundw
          case rel =>
            refine ⟨k + 1, 0, _, by omega, by go_num, rfl, by omega, hown1, hide (by simp; exact HO.out), hide ?_, EST, (hB.alloc hbs _).grown hgrow1 (by simp; omega) hO.own_ge⟩; intro x hx
            rcases List.mem_append.1 hx with hx | hx
            · exact HOlt.out x hx
            · rw [List.mem_singleton.1 hx]; exact ezl
          case measure => simp [intOf]; omega
      · have bq : ¬ ((k : Int) < (q.length : Int)) := by omega
        have hzq : nth q k = 0 := L.getD_ge q k (by omega); have HZQ := hide hzq; clear hzq
        by_cases hbo : nth p k < nth q k + c
        · skip
          have hbo' : (((nth p k : Nat) : Int) < (c : Int)) := by rw [HZQ.out] at hbo; omega
          have ez : ((nth p k : Nat) : Int) + 4294967296 - (c : Int) = (((nth p k + B32 - (nth q k + c)) : Nat) : Int) := by rw [HZQ.out]; (try unfold B32); rw [HZQ.out] at hbo; omega
          have EZ := hide ez; have ezl : (nth p k + B32 - (nth q k + c)) < B32 := by unfold B32; omega
          have EST := hide (L.subD_step B32 p q o k c (nth p k + B32 - (nth q k + c)) 1 HO.out HI.out (by unfold B32; omega)); clear ez hbo
          go_wp2_with (at_builtin; refine jae _ rfl _ _ rfl w.heap.size _ o rfl (hO.alloc _) 0 _ [(nth p k + B32 - (nth q k + c))] rfl (Nums.one wr _ _ EZ.out (Nat.lt_of_lt_of_le ezl jbo)) (by simp; omega) (by simp; omega) ?_; intro v1 w1 hown1 hgrow1)
          go_roundw
          case rel =>
            refine ⟨k + 1, 1, _, by omega, by go_num, rfl, by omega, hown1, hide (by simp; exact HO.out), hide ?_, EST, (hB.alloc hbs _).grown hgrow1 (by simp; omega) hO.own_ge⟩; intro x hx
            rcases List.mem_append.1 hx with hx | hx
            · exact HOlt.out x hx
            · rw [List.mem_singleton.1 hx]; exact ezl
          case measure => simp [intOf]; omega
        · skip
          have hbo' : ¬ (((nth p k : Nat) : Int) < (c : Int)) := by rw [HZQ.out] at hbo; omega
          have ez : ((nth p k : Nat) : Int) - (c : Int) = (((nth p k - (nth q k + c)) : Nat) : Int) := by rw [HZQ.out]; (try unfold B32); rw [HZQ.out] at hbo; omega
          have EZ := hide ez; have ezl : (nth p k - (nth q k + c)) < B32 := by unfold B32; omega
          have EST := hide (L.subD_step B32 p q o k c (nth p k - (nth q k + c)) 0 HO.out HI.out (by unfold B32; omega)); clear ez hbo
          go_wp2_with (at_builtin; refine jae _ rfl _ _ rfl w.heap.size _ o rfl (hO.alloc _) 0 _ [(nth p k - (nth q k + c))] rfl (Nums.one wr _ _ EZ.out (Nat.lt_of_lt_of_le ezl jbo)) (by simp; omega) (by simp; omega) ?_; intro v1 w1 hown1 hgrow1)
          go_roundw
          case rel =>
            refine ⟨k + 1, 0, _, by omega, by go_num, rfl, by omega, hown1, hide (by simp; exact HO.out), hide ?_, EST, (hB.alloc hbs _).grown hgrow1 (by simp; omega) hO.own_ge⟩; intro x hx
            rcases List.mem_append.1 hx with hx | hx
            · exact HOlt.out x hx
            · rw [List.mem_singleton.1 hx]; exact ezl
          case measure => simp [intOf]; omega
    · have hke : k = p.length := by omega
      subst hke; have bp : ¬ ((p.length : Int) < (p.length : Int)) := by omega
      obtain ⟨A3, c3, rfl⟩ := hO.form
      have HV : Hid (val B32 o = val B32 p - val B32 q) := hide (by
        have h1 := HI.out; have h2 := HLE.out; rw [List.take_of_length_le (Nat.le_refl _), List.take_of_length_le hqp] at h1; have h3 := L.val_lt o HOlt.out; rw [HO.out] at h3
        have h4 : c = 0 := by
          rcases Nat.eq_zero_or_pos c with h | h
          · exact h
          · have : c = 1 := by omega
            subst this; rw [Nat.mul_one] at h1
            omega
        subst h4
        omega)
      have HN := hide (hO.nums (fun x hx => Nat.lt_of_lt_of_le (HOlt.out x hx) jbo))
      go_wp2_with fail
      refine (jbx _ _ _ _ HN.out HOlt.out).mono ?_; rintro e w1 ⟨rfl, u, d, rfl, hu, hd⟩
      go_wp2_with fail
      go_ret
      refine ⟨hB, u, d, rfl, hu, ?_⟩; rw [← HV.out]; exact hd
theorem jer (w : World) (B C : Nat) (va vb : Value) (p q : List Nat) (M N : Nat) (hp : Nums w B va p) (hq : Nums w C vb q) (hM : CanonD p M) (hN : CanonD q N) :
    Calls Tryz.prog 106 #[va, vb] w fun e w' => Dr w w' ∧ e = .returned (.int .i64 (cmpN M N)) := by
  obtain ⟨A1, c1, rfl, hl1, hm1, hlt1, hc1⟩ := hp; obtain ⟨A2, c2, rfl, hl2, hm2, hlt2, hc2⟩ := hq; have HM := hide hM; have HN := hide hN; clear hM hN
  go_enter Tryz.func106, Tryz.ntmps106
  by_cases hne : p.length < q.length
  · have hv : M < N := by
      rw [show p = dig B32 M from HM.out, show q = dig B32 N from HN.out] at hne; exact L.lt_of_dig_len jdu hne
    have d1 : ((p.length : Int) != (q.length : Int)) = true := by rw [bne_iff_ne]; omega
    have d2 : (p.length : Int) < (q.length : Int) := by omega
    go_wp2_with fail
    go_ret
    exact ⟨Dr.refl w, ja8 (jdy hv).symm⟩
  · by_cases hne2 : q.length < p.length
    · have hv : N < M := by
        rw [show p = dig B32 M from HM.out, show q = dig B32 N from HN.out] at hne2; exact L.lt_of_dig_len jdu hne2
      have d1 : ((p.length : Int) != (q.length : Int)) = true := by rw [bne_iff_ne]; omega
      have d2 : ¬ ((p.length : Int) < (q.length : Int)) := by omega
      go_wp2_with fail
      go_ret
      exact ⟨Dr.refl w, ja8 (jep hv).symm⟩
    · have HL : Hid (p.length = q.length) := hide (by omega)
      have d1 : ((p.length : Int) != (q.length : Int)) = false := by simp; omega
      clear hne hne2
      go_wp2_with fail
      go_loopw [5] (fun s wr => ∃ i : Int, -1 ≤ i ∧ i < p.length ∧ s = .int .i64 i ∧ Hid (p.drop (i + 1).toNat = q.drop (i + 1).toNat) ∧ Dr w wr) (fun s _ => (intOf s + 1).toNat)
      case atStart => exact ⟨(p.length : Int) - 1, by omega, by omega, rfl, hide (by have := HL.out; rw [List.drop_of_length_le (by omega), List.drop_of_length_le (by omega)]), Dr.refl w⟩
      case round =>
        obtain ⟨i, hi1, hi2, rfl, hd, hdr0⟩ := hrel
        by_cases hneg : i = -1
        · subst hneg
          have E1 : Hid (M = N) := hide (by
            have e : p = q := by simpa using hd.out
            rw [← HM.out.val, ← HN.out.val, e])
          go_wp2_with fail
          go_ret
          exact ⟨hdr0, ja8 (jfs E1.out).symm⟩
        · obtain ⟨m, rfl⟩ := Int.eq_ofNat_of_zero_le (show 0 ≤ i by omega)
          obtain ⟨b1, o1, rfl, _, hb1, hcell1⟩ := hc1 (by omega); obtain ⟨b2, o2, rfl, _, hb2, hcell2⟩ := hc2 (by have := HL.out; omega); have h1 : wr.cell? ⟨b1, o1 + m, none⟩ = _ := ((hdr0.below w.heap.size).cell (p := ⟨b1, o1 + m, none⟩) hb1).trans (hcell1 m (by omega)); have h2 : wr.cell? ⟨b2, o2 + m, none⟩ = _ := ((hdr0.below w.heap.size).cell (p := ⟨b2, o2 + m, none⟩) hb2).trans (hcell2 m (by have := HL.out; omega)); clear hcell1 hcell2 hc1 hc2; have b0 : (0 : Int) ≤ (m : Int) := by omega
          have b1' : (m : Int) < (p.length : Int) := by omega
          have b2' : (m : Int) < (q.length : Int) := by have := HL.out; omega
          go_wp2_with fail
          go_quiet (fail)
          go_wp2_with fail
          · have hlt : nth p m < nth q m := by assumption
            have hv := L.val_lt_of_top p q HM.out.lt HL.out m (by omega) (by simpa using hd.out) hlt; rw [HM.out.val, HN.out.val] at hv
            go_ret
            exact ⟨hdr0.next _, ja8 (jdy hv).symm⟩
          · have hge : ¬ nth p m < nth q m := by assumption
            go_quiet (fail)
            go_wp2_with fail
            · have hlt : nth q m < nth p m := by assumption
              have hv := L.val_lt_of_top q p HN.out.lt HL.out.symm m (by omega) (by simpa using hd.out.symm) hlt; rw [HM.out.val, HN.out.val] at hv
              go_ret
              exact ⟨by repeat (first | exact hdr0 | refine Dr.next ?_ _), ja8 (jep hv).symm⟩
            · have hge2 : ¬ nth q m < nth p m := by assumption
              have he : nth p m = nth q m := by omega
              have hdr : p.drop m = q.drop m := by
                have e1 : p.drop m = nth p m :: p.drop (m + 1) := by
                  rw [List.drop_eq_getElem_cons (by omega), L.nth_def, List.getD_eq_getElem?_getD, List.getElem?_eq_getElem (by omega)]; rfl
                have e2 : q.drop m = nth q m :: q.drop (m + 1) := by
                  rw [List.drop_eq_getElem_cons (by omega), L.nth_def, List.getD_eq_getElem?_getD, List.getElem?_eq_getElem (by omega)]; rfl
                rw [e1, e2, he, show p.drop (m + 1) = q.drop (m + 1) from by simpa using hd.out]
              go_roundw
              case rel => exact ⟨(m : Int) - 1, by omega, by omega, rfl, hide (by simpa using hdr), by repeat (first | exact hdr0 | refine Dr.next ?_ _)⟩
              case measure => simp [intOf]
theorem jc8 (w : World) (B : Nat) (va : Value) (p : List Nat) (y : Nat) (hp : Nums w B va p) (hp0 : ∀ x ∈ p, x < B32) (hpl : p.length ≤ 400000) (hy : y < 4294967296) :
    Calls Tryz.prog 107 #[va, .int .u64 y] w fun e w' => Below w.heap.size w w' ∧ RetG w.heap.size (val B32 p * y) e w' := by
  obtain ⟨A1, c1, rfl, -, -, -, hcp⟩ := hp
  go_enter Tryz.func107, Tryz.ntmps107
  go_wp2_with fail
  go_loopw [5, 6, 7] (fun v cv i wr => ∃ (k c : Nat) (o : List Nat), k ≤ p.length + 1 ∧ i = .int .i64 k ∧ cv = .int .u64 c ∧ c < 4294967296 ∧ Hid (p.length < k → c = 0) ∧ OwnU wr w.heap.size v o ∧ Hid (o.length = k) ∧ Hid (∀ x ∈ o, x < B32) ∧
      Hid (val B32 o + B32 ^ k * c = val B32 (p.take k) * y) ∧ Below w.heap.size w wr) (fun _ _ i _ => p.length + 1 - (intOf i).toNat)
  case atStart => exact ⟨0, 0, [], by omega, rfl, rfl, by omega, hide (fun _ => rfl), OwnU.nil w _, hide rfl, hide (by simp), hide (by simp [L.val]), Below.refl _ _⟩
  case round =>
    obtain ⟨k, c, o, hk, rfl, rfl, hc1, HE, hO, HO, HOlt, HI, hB⟩ := hrel; have hbs := hB.size; have px := jbl hp0 k; have hol : o.length ≤ 500000 := by have := HO.out; omega
    have hmul : nth p k * y ≤ 4294967295 * 4294967295 := Nat.mul_le_mul (by omega) (by omega); obtain ⟨P, HP⟩ : ∃ P, Hid (nth p k * y = P) := ⟨_, hide rfl⟩; rw [HP.out] at hmul
    by_cases hkp : k < p.length
    · obtain ⟨b1, o1, rfl, -, hb1, hcell1⟩ := hcp (by omega)
      have h1 : wr.cell? ⟨b1, o1 + k, none⟩ = _ := (hB.cell (p := ⟨b1, o1 + k, none⟩) hb1).trans (hcell1 k hkp); have bp : (k : Int) < (p.length : Int) := by omega
      clear hcell1 hcp; have hcP : c + P < 18446744073709551616 := by omega
      have hw1 : IntKind.u64.wrap (((nth p k : Nat) : Int) * (y : Int)) = (P : Int) := by rw [← Int.natCast_mul, HP.out]; exact IntWalk.u64_in _ (by omega)
      have ez : ((c : Int) + (P : Int)) % 4294967296 = (((c + P) % B32 : Nat) : Int) := by unfold B32; omega
      have ey : ((c : Int) + (P : Int)) / 4294967296 = (((c + P) / B32 : Nat) : Int) := by unfold B32; omega
      have EZ := hide ez; have EY := hide ey; have ezl : (c + P) % B32 < B32 := Nat.mod_lt _ jbh; have eyl : (c + P) / B32 < 4294967296 := by unfold B32; omega
      have EF : Hid (p.length ≤ k → (c + P) / B32 = 0) := hide (fun h1 => by rw [← HP.out, L.getD_ge p k h1, Nat.zero_mul, Nat.add_zero, Nat.div_eq_of_lt]; exact hc1); have EM := hide hmul; clear ez ey hmul
      go_wp2_with (at_builtin; refine jae _ rfl _ _ rfl w.heap.size _ o rfl (hO.alloc _) 0 _ [(c + P) % B32] rfl (Nums.one wr _ _ EZ.out (Nat.lt_of_lt_of_le ezl jbo)) (by simp; omega) (by simp; omega) ?_; intro v1 w1 hown1 hgrow1)
      go_roundw
      case rel =>
        refine ⟨k + 1, (c + P) / B32, _, by omega, by go_num, by rw [EY.out], eyl, hide ?_, hown1, hide (by simp; exact HO.out), hide ?_, hide (L.timesD_step B32 p o k c _ y HO.out HI.out (by rw [HP.out])), (hB.alloc hbs _).grown hgrow1 (by simp; omega) hO.own_ge⟩
        · intro h1; exact EF.out (by omega)
        · intro x hx
          rcases List.mem_append.1 hx with hx | hx
          · exact HOlt.out x hx
          · rw [List.mem_singleton.1 hx]; exact ezl
      case measure => simp [intOf]; omega
    · have bp : ¬ ((k : Int) < (p.length : Int)) := by omega
      by_cases hc0 : c = 0
      · subst hc0
        obtain ⟨A3, c3, rfl⟩ := hO.form
        have HV : Hid (val B32 o = val B32 p * y) := hide (by
          have := HI.out
          rwa [List.take_of_length_le (by omega), Nat.mul_zero, Nat.add_zero] at this)
        have HN := hide (hO.nums (fun x hx => Nat.lt_of_lt_of_le (HOlt.out x hx) jbo)); clear hmul
        go_wp2_with fail
        refine (jbx _ _ _ _ HN.out HOlt.out).mono ?_; rintro e w1 ⟨rfl, u, d, rfl, hu, hd⟩
        go_wp2_with fail
        go_ret
        refine ⟨hB, u, d, rfl, hu, ?_⟩; rw [← HV.out]; exact hd
      · have hc2 : (0 : Int) < (c : Int) := by omega
        have hzp : nth p k = 0 := L.getD_ge p k (by omega); have HZP := hide hzp
        have hkm : k ≤ p.length := by
          rcases Nat.lt_or_ge p.length k with h | h
          · exact absurd (HE.out h) hc0
          · exact h
        clear hzp; have hP0 : P = 0 := by rw [← HP.out, HZP.out, Nat.zero_mul]
        have ez : ((c : Int)) % 4294967296 = (((c + P) % B32 : Nat) : Int) := by unfold B32; omega
        have ey : ((c : Int)) / 4294967296 = (((c + P) / B32 : Nat) : Int) := by unfold B32; omega
        have EZ := hide ez; have EY := hide ey; have ezl : (c + P) % B32 < B32 := Nat.mod_lt _ jbh; have eyl : (c + P) / B32 < 4294967296 := by unfold B32; omega
        have EF : Hid (p.length ≤ k → (c + P) / B32 = 0) := hide (fun h1 => by rw [← HP.out, L.getD_ge p k h1, Nat.zero_mul, Nat.add_zero, Nat.div_eq_of_lt]; exact hc1); have EM := hide hmul; clear ez ey hmul
        go_wp2_with (at_builtin; refine jae _ rfl _ _ rfl w.heap.size _ o rfl (hO.alloc _) 0 _ [(c + P) % B32] rfl (Nums.one wr _ _ EZ.out (Nat.lt_of_lt_of_le ezl jbo)) (by simp; omega) (by simp; omega) ?_; intro v1 w1 hown1 hgrow1)
        go_roundw
        case rel =>
          refine ⟨k + 1, (c + P) / B32, _, by omega, by go_num, by rw [EY.out], eyl, hide ?_, hown1, hide (by simp; exact HO.out), hide ?_, hide (L.timesD_step B32 p o k c _ y HO.out HI.out (by rw [HP.out])), (hB.alloc hbs _).grown hgrow1 (by simp; omega) hO.own_ge⟩
          · intro h1; exact EF.out (by omega)
          · intro x hx
            rcases List.mem_append.1 hx with hx | hx
            · exact HOlt.out x hx
            · rw [List.mem_singleton.1 hx]; exact ezl
        case measure => simp [intOf]; omega
end
end
section
section
open Go.RowKit
open L (val dig nth)
set_option maxHeartbeats 1000000 in
theorem jmk (w : World) (B C : Nat) (va vb : Value) (p q : List Nat) (hp : Nums w B va p) (hq : Nums w C vb q) (hp0 : ∀ x ∈ p, x < B32) (hq0 : ∀ x ∈ q, x < B32) (hpl : p.length ≤ 400000) (hql : q.length ≤ 400000) :
    Calls Tryz.prog 111 #[va, vb] w fun e w' => Below w.heap.size w w' ∧ RetG w.heap.size (val B32 p * val B32 q) e w' := by
  obtain ⟨A1, c1, rfl, -, -, -, hcp⟩ := hp; obtain ⟨A2, c2, rfl, -, -, -, hcq⟩ := hq; have hmk := jb2 ((p.length : Int) + (q.length : Int) + 1) (p.length + q.length + 1) (by omega) (by omega)
  go_enter Tryz.func111, Tryz.ntmps111
  go_wp2_with fail
  clear hmk
  go_loopw [6] (fun i wr => ∃ (k : Nat) (o : List Nat), k ≤ p.length ∧ i = .int .i64 k ∧ Out wr w.heap.size o ∧ Hid (o.length = p.length + q.length + 1) ∧ Hid (∀ x ∈ o, x < B32) ∧
      Hid (val B32 o = val B32 (p.take k) * val B32 q) ∧ Hid (∀ j, k + q.length ≤ j → nth o j = 0) ∧ Below w.heap.size w wr) (fun i _ => p.length - (intOf i).toNat)
  case atStart => exact ⟨0, _, Nat.zero_le _, rfl, Out.made w _, hide (by simp), hide (fun x hx => by rw [(List.mem_replicate.1 hx).2]; exact jbh), hide (by simp [L.val, L.val_replicate]), hide (fun j _ => by simp [L.nth_def, List.getD_eq_getElem?_getD, List.getElem?_replicate]; split <;> rfl), (Below.refl _ _).alloc (Nat.le_refl _) _⟩
  case round =>
    obtain ⟨i, o, hi, rfl, hO, HO, HOlt, HI, HZ, hB⟩ := hrel
    by_cases hlt : i < p.length
    · obtain ⟨b1, o1, rfl, -, hb1, hcell1⟩ := hcp (by omega)
      have px := jbl hp0 i; have bp : (i : Int) < (p.length : Int) := by omega
      obtain ⟨wo, rfl⟩ : ∃ wo : World, wo = wr := ⟨_, rfl⟩; have HC1 := hide (hcell1 i hlt); clear hcell1 hcp
      go_wp2_with fail
      go_loopw [7, 8] (fun c k wr => ∃ (k' cN : Nat) (o' : List Nat), k' ≤ q.length ∧ k = .int .i64 k' ∧ c = .int .u64 cN ∧ cN < 4294967296 ∧ Out wr w.heap.size o' ∧ Hid (o'.length = p.length + q.length + 1) ∧ Hid (∀ x ∈ o', x < B32) ∧
        Hid (val B32 o' + B32 ^ (i + k') * cN = val B32 (p.take i) * val B32 q + B32 ^ i * (nth p i * val B32 (q.take k'))) ∧ Hid (∀ j, i + q.length ≤ j → nth o' j = 0) ∧ Below w.heap.size w wr) (fun _ k _ => q.length - (intOf k).toNat)
      case atStart => exact ⟨0, 0, o, Nat.zero_le _, rfl, rfl, by omega, hO, HO, HOlt, hide (by rw [HI.out]; simp [L.val]), HZ, hB⟩
      case round =>
        obtain ⟨k, cN, o', hk, rfl, rfl, hcN, hO', HO', HOlt', HI', HZ', hB'⟩ := hrel
        by_cases hltq : k < q.length
        · have hol : i + k < o'.length := by have := HO'.out; omega
          obtain ⟨b2, o2, rfl, -, hb2, hcell2⟩ := hcq (by omega); have h1 : wr.cell? ⟨b1, o1 + i, none⟩ = _ := (hB'.cell (p := ⟨b1, o1 + i, none⟩) hb1).trans HC1.out; have h2 : wr.cell? ⟨b2, o2 + k, none⟩ = _ := (hB'.cell (p := ⟨b2, o2 + k, none⟩) hb2).trans (hcell2 k hltq); have h3 := hO'.cell hol; have h4 := hO'.frozen (i + k); have qx := jbl hq0 k; have ox := jbl HOlt'.out (i + k); have hmul : nth p i * nth q k ≤ 4294967295 * 4294967295 := Nat.mul_le_mul (by omega) (by omega); obtain ⟨P, HP⟩ : ∃ P, Hid (nth p i * nth q k = P) := ⟨_, hide rfl⟩; rw [HP.out] at hmul; have hw1 : IntKind.u64.wrap (((nth p i : Nat) : Int) * ((nth q k : Nat) : Int)) = (P : Int) := by rw [← Int.natCast_mul, HP.out]; exact IntWalk.u64_in _ (by omega)
          have hw2 : IntKind.u64.wrap (((nth o' (i + k) : Nat) : Int) + (P : Int)) = ((nth o' (i + k) : Nat) : Int) + (P : Int) := IntWalk.u64_in _ (by omega); have hw3 : IntKind.u64.wrap (((nth o' (i + k) : Nat) : Int) + (P : Int) + (cN : Int)) = ((nth o' (i + k) + P + cN : Nat) : Int) := by rw [IntWalk.u64_in _ (by omega)]; omega
          have bi : (i : Int) + (k : Int) < (p.length : Int) + (q.length : Int) + 1 := by omega
          have s1 : IntKind.i64.wrap ((i : Int) + (k : Int)) = (i : Int) + (k : Int) := IntWalk.i64_in _ (by omega); have s3 : (0 : Int) ≤ (i : Int) + (k : Int) := by omega
          have s4 : ((i : Int) + (k : Int)).toNat = i + k := by omega
          have bq : (k : Int) < (q.length : Int) := by omega
          have b0 : (0 : Int) ≤ (i : Int) := by omega
          have b0' : (0 : Int) ≤ (k : Int) := by omega
          obtain ⟨S, HS⟩ : ∃ S, Hid (nth o' (i + k) + P + cN = S) := ⟨_, hide rfl⟩; rw [HS.out] at hw3; have hS : S < 18446744073709551616 := by have := HS.out; omega
          have HST := hide (L.mul_step B32 q o' _ (nth p i) i k cN (S % B32) (S / B32) hol HI'.out (by rw [Nat.mod_add_div, HP.out, ← HS.out]; omega)); have e1 : (S : Int) % 4294967296 = ((S % B32 : Nat) : Int) := by unfold B32; omega
          have e2 : (S : Int) / 4294967296 = ((S / B32 : Nat) : Int) := by unfold B32; omega
          have E1 := hide e1; have E2 := hide e2; have e3 : S % B32 < B32 := Nat.mod_lt _ jbh; have e4 : S / B32 < 4294967296 := by unfold B32; omega
          clear hcell2 hcq hmul e1 e2
          go_wp2_with fail
          go_quiet (fail)
          clear hw1 hw2 hw3 s1 s4
          go_wp2_with fail
          go_roundw
          case rel =>
            exact ⟨k + 1, S / B32, _, by omega, by go_num, by rw [E2.out], e4, hO'.drewN _ |>.set_of (i + k) _ E1.out, hide (by simpa using HO'.out), hide (L.mem_set_lt o' HOlt'.out (i + k) _ e3), HST,
              hide (fun j hj => by rw [L.getD_set_ne _ _ _ _ (by omega)]; exact HZ'.out j hj), (hB'.trans ((Dr.refl wr).next _ |>.below _)).setCell (Nat.le_refl _) _⟩
          case measure => simp [intOf]; omega
        · have hke : k = q.length := by omega
          subst hke; have hol : i + q.length < o'.length := by have := HO'.out; omega
          have h3 := hO'.cell hol; have h4 := hO'.frozen (i + q.length); have bi : (i : Int) + (q.length : Int) < (p.length : Int) + (q.length : Int) + 1 := by omega
          have bq : ¬ ((q.length : Int) < (q.length : Int)) := by omega
          have hzz := HZ'.out (i + q.length) (Nat.le_refl _); have HZZ := hide hzz; have HST := hide (L.mul_row B32 p q o' i cN hol hzz (by have := HI'.out; rwa [List.take_of_length_le (Nat.le_refl _)] at this)); have ox := jbl HOlt'.out (i + q.length); clear hzz
          go_wp2_with fail
          go_roundw
          case rel =>
            exact ⟨i + 1, _, by omega, by go_num, hO'.set_of (i + q.length) cN (by rw [HZZ.out]; omega), hide (by simpa using HO'.out), hide (L.mem_set_lt o' HOlt'.out _ _ hcN), HST,
              hide (fun j hj => by rw [L.getD_set_ne _ _ _ _ (by omega)]; exact HZ'.out j (by omega)), hB'.setCell (Nat.le_refl _) _⟩
          case measure => simp [intOf]; omega
    · have hke : i = p.length := by omega
      subst hke; have bp : ¬ ((p.length : Int) < (p.length : Int)) := by omega
      have HV : Hid (val B32 o = val B32 p * val B32 q) := hide (by rw [HI.out, List.take_of_length_le (Nat.le_refl _)]); have hN := hO.nums (Nat.le_refl _) (by have := HO.out; omega) (fun x hx => Nat.lt_of_lt_of_le (HOlt.out x hx) jbo); rw [HO.out] at hN; have HN := hide hN; clear hN hcp hcq
      go_wp2_with fail
      refine (jbx _ _ _ _ HN.out HOlt.out).mono ?_; rintro e w1 ⟨rfl, u, d, rfl, hu, hd⟩
      go_wp2_with fail
      go_ret
      refine ⟨hB, u, d, rfl, hu, ?_⟩; rw [← HV.out]; exact hd
end
end
section
section
open Go.RowKit
open L (val dig nth)
theorem jba {d l : List Nat} (hd : CanonD d (val W l)) (hl : ∀ x ∈ l, x < W) : d.length ≤ 2 * l.length := by
  rw [hd.len]; have h1 := L.val_lt l hl
  rwa [← jfw] at h1
theorem jgp (w : World) (B C : Nat) (va vb : Value) (la lb : List Nat) (ha : Nums w B va la) (hb : Nums w C vb lb) (hla : la.length ≤ 100000) (hlb : lb.length ≤ 100000) :
    Calls Tryz.prog 82 #[va, vb] w fun e w' => Below w.heap.size w w' ∧ RetU w.heap.size (val W la + val W lb) e w' := by
  go_enter Tryz.func82, Tryz.ntmps82
  go_wp2_with fail
  refine (jak _ B _ la ha hla).mono ?_; rintro e w1 ⟨hB1, u1, d1, rfl, hu1, hd1⟩
  go_wp2_with fail
  refine (jak _ C _ lb (hb.below hB1) hlb).mono ?_; rintro e w2 ⟨hB2, u2, d2, rfl, hu2, hd2⟩; have l1 := jba hd1 ha.lt; have l2 := jba hd2 hb.lt
  go_wp2_with fail
  refine (jmj _ _ _ _ _ d1 d2 (hu1.below hB2) hu2 hd1.lt hd2.lt (by omega) (by omega)).mono ?_; rintro e w3 ⟨hB3, u3, o, rfl, hu3, ho, hv, hol⟩
  go_wp2_with fail
  refine (ja3 _ _ _ o hu3 ho (by omega)).mono ?_; rintro e w4 ⟨hB4, u4, d4, rfl, hu4, hd4⟩
  go_wp2_with fail
  go_ret
  have s1 := hB1.size; have s2 := hB2.size; have s3 := hB3.size; refine ⟨((hB1.trans (hB2.mono (by omega))).trans (hB3.mono (by omega))).trans (hB4.mono (by omega)), u4, d4, rfl, hu4.mono (by omega), ?_⟩; rw [hv, hd1.val, hd2.val] at hd4; exact hd4
theorem jml (w : World) (B C : Nat) (va vb : Value) (la lb : List Nat) (ha : Nums w B va la) (hb : Nums w C vb lb) (hla : la.length ≤ 60000) (hlb : lb.length ≤ 60000) :
    Calls Tryz.prog 86 #[va, vb] w fun e w' => Below w.heap.size w w' ∧ RetU w.heap.size (val W la * val W lb) e w' := by
  go_enter Tryz.func86, Tryz.ntmps86
  go_wp2_with fail
  refine (jak _ B _ la ha (by omega)).mono ?_; rintro e w1 ⟨hB1, u1, d1, rfl, hu1, hd1⟩
  go_wp2_with fail
  refine (jak _ C _ lb (hb.below hB1) (by omega)).mono ?_; rintro e w2 ⟨hB2, u2, d2, rfl, hu2, hd2⟩; have l1 := jba hd1 ha.lt; have l2 := jba hd2 hb.lt
  go_wp2_with fail
  refine (jmk _ _ _ _ _ d1 d2 (hu1.below hB2) hu2 hd1.lt hd2.lt (by omega) (by omega)).mono ?_; rintro e w3 ⟨hB3, u3, o, rfl, hu3, ho⟩
  have hol : o.length ≤ d1.length + d2.length := by
    rw [ho.len, Nat.pow_add]; exact Nat.mul_lt_mul'' (L.val_lt d1 hd1.lt) (L.val_lt d2 hd2.lt)
  go_wp2_with fail
  refine (ja3 _ _ _ o hu3 ho.lt (by omega)).mono ?_; rintro e w4 ⟨hB4, u4, d4, rfl, hu4, hd4⟩
  go_wp2_with fail
  go_ret
  have s1 := hB1.size; have s2 := hB2.size; have s3 := hB3.size; refine ⟨((hB1.trans (hB2.mono (by omega))).trans (hB3.mono (by omega))).trans (hB4.mono (by omega)), u4, d4, rfl, hu4.mono (by omega), ?_⟩; rw [ho.val, hd1.val, hd2.val] at hd4; exact hd4
theorem jhi (w : World) (B C : Nat) (va vb : Value) (la lb : List Nat) (ha : Nums w B va la) (hb : Nums w C vb lb) (hla : la.length ≤ 100000) (hlb : lb.length ≤ 100000) (hlt : val W la < val W lb) :
    Calls Tryz.prog 83 #[va, vb] w fun e w' => Below w.heap.size w w' ∧ e = .returned (.tuple #[.slice none 0 0, .bool false]) := by
  have HC := hide (jdy hlt); clear hlt
  go_enter Tryz.func83, Tryz.ntmps83
  go_wp2_with fail
  refine (jak _ B _ la ha hla).mono ?_; rintro e w1 ⟨hB1, u1, d1, rfl, hu1, hd1⟩
  go_wp2_with fail
  refine (jak _ C _ lb (hb.below hB1) hlb).mono ?_; rintro e w2 ⟨hB2, u2, d2, rfl, hu2, hd2⟩
  go_wp2_with fail
  refine (jer _ _ _ _ _ d1 d2 _ _ (hu1.below hB2) hu2 hd1 hd2).mono ?_; rintro e w3 ⟨hd, rfl⟩; rw [HC.out]
  go_wp2_with fail
  go_ret2
  exact ⟨(hB1.trans (hB2.mono hB1.size)).trans (hd.below _), rfl⟩
theorem jes (w : World) (B C : Nat) (va vb : Value) (la lb : List Nat) (ha : Nums w B va la) (hb : Nums w C vb lb) (hla : la.length ≤ 100000) (hlb : lb.length ≤ 100000) (hle : val W lb ≤ val W la) :
    Calls Tryz.prog 83 #[va, vb] w fun e w' => Below w.heap.size w w' ∧ ∃ u d, e = .returned (.tuple #[u, .bool true]) ∧ Nums w' w.heap.size u d ∧ Canon d (val W la - val W lb) := by
  have hcmp : 0 ≤ cmpN (val W la) (val W lb) := by
    rcases Nat.lt_or_ge (val W lb) (val W la) with h | h
    · rw [jep h]; omega
    · rw [jfs (by omega)]; omega
  have HLE := hide hle; clear hle
  go_enter Tryz.func83, Tryz.ntmps83
  go_wp2_with fail
  refine (jak _ B _ la ha hla).mono ?_; rintro e w1 ⟨hB1, u1, d1, rfl, hu1, hd1⟩
  go_wp2_with fail
  refine (jak _ C _ lb (hb.below hB1) hlb).mono ?_; rintro e w2 ⟨hB2, u2, d2, rfl, hu2, hd2⟩; have l1 := jba hd1 ha.lt
  have l2 : d2.length ≤ d1.length := by
    rw [show d1 = dig B32 (val W la) from hd1, show d2 = dig B32 (val W lb) from hd2]; exact L.dig_len_mono jdu HLE.out
  go_wp2_with fail
  refine (jer _ _ _ _ _ d1 d2 _ _ (hu1.below hB2) hu2 hd1 hd2).mono ?_; rintro e w3 ⟨hd, rfl⟩; have hB3 := hd.below w2.heap.size
  generalize cmpN (val W la) (val W lb) = cmp at *
  go_wp2_with fail
  refine (jgo _ _ _ _ _ d1 d2 ((hu1.below hB2).below hB3) (hu2.below hB3) hd1.lt hd2.lt (by omega) l2 (by rw [hd1.val, hd2.val]; exact HLE.out)).mono ?_; rintro e w4 ⟨hB4, u4, o, rfl, hu4, ho⟩
  have hol : o.length ≤ d1.length := by
    rw [ho.len]; exact Nat.lt_of_le_of_lt (Nat.sub_le _ _) (L.val_lt d1 hd1.lt)
  go_wp2_with fail
  refine (ja3 _ _ _ o hu4 ho.lt (by omega)).mono ?_; rintro e w5 ⟨hB5, u5, d5, rfl, hu5, hd5⟩
  go_wp2_with fail
  go_ret2
  have s1 := hB1.size; have s2 := hB2.size; have s3 := hB3.size; have s4 := hB4.size; refine ⟨(((hB1.trans (hB2.mono (by omega))).trans (hB3.mono (by omega))).trans (hB4.mono (by omega))).trans (hB5.mono (by omega)), u5, d5, rfl, hu5.mono (by omega), ?_⟩; rw [ho.val, hd1.val, hd2.val] at hd5; exact hd5
theorem jfx (w : World) (n : Int) : Calls Tryz.prog 109 #[.int .i64 n] w fun e w' => w = w' ∧ e = .returned (.int .i64 (clampN n : Nat)) := by
  go_enter Tryz.func109, Tryz.ntmps109
  go_wp2_with fail
  go_ret
  exact ⟨rfl, ja8 (jeq n)⟩
theorem jj0 (w : World) (B C : Nat) (va vb : Value) (p q : List Nat) (hp : Nums w B va p) (hq : Nums w C vb q) :
    Calls Tryz.prog 60 #[va, vb] w fun e w' => Dr w w' ∧ e = .returned (.bool (p == q)) := by
  obtain ⟨A1, c1, rfl, hl1, hm1, hlt1, hc1⟩ := hp; obtain ⟨A2, c2, rfl, hl2, hm2, hlt2, hc2⟩ := hq
  go_enter Tryz.func60, Tryz.ntmps60
  by_cases hne : p.length = q.length
  · have HL := hide hne
    have d1 : ((p.length : Int) != (q.length : Int)) = false := by simp; omega
    clear hne
    go_wp2_with fail
    go_loopw [5] (fun s wr => ∃ k : Nat, k ≤ p.length ∧ s = .int .i64 k ∧ Hid (p.take k = q.take k) ∧ Dr w wr) (fun s _ => p.length - (intOf s).toNat)
    case atStart => exact ⟨0, by omega, rfl, hide (by simp), Dr.refl w⟩
    case round =>
      obtain ⟨k, hk, rfl, hd, hdr0⟩ := hrel
      by_cases hlt : k < p.length
      · obtain ⟨b1, o1, rfl, _, hb1, hcell1⟩ := hc1 (by omega)
        obtain ⟨b2, o2, rfl, _, hb2, hcell2⟩ := hc2 (by have := HL.out; omega); have h1 : wr.cell? ⟨b1, o1 + k, none⟩ = _ := ((hdr0.below w.heap.size).cell (p := ⟨b1, o1 + k, none⟩) hb1).trans (hcell1 k (by omega)); have h2 : wr.cell? ⟨b2, o2 + k, none⟩ = _ := ((hdr0.below w.heap.size).cell (p := ⟨b2, o2 + k, none⟩) hb2).trans (hcell2 k (by have := HL.out; omega)); have b0 : (0 : Int) ≤ (k : Int) := by omega
        have b1' : (k : Int) < (p.length : Int) := by omega
        have b2' : (k : Int) < (q.length : Int) := by have := HL.out; omega
        clear hcell1 hcell2 hc1 hc2
        by_cases he : nth p k = nth q k
        · have hb : (((nth p k : Nat) : Int) != ((nth q k : Nat) : Int)) = false := by simp [he]
          have HE := hide he; clear he
          go_wp2_with fail
          go_quiet (fail)
          go_wp2_with fail
          go_roundw
          case rel =>
            exact ⟨k + 1, by omega, by go_num, hide (by rw [L.take_succ' p k hlt, L.take_succ' q k (by have := HL.out; omega), hd.out, HE.out]), hdr0.next _⟩
          case measure => simp [intOf]; omega
        · have hb : (((nth p k : Nat) : Int) != ((nth q k : Nat) : Int)) = true := by rw [bne_iff_ne]; omega
          have HF : Hid ((p == q) = false) := hide (by
            rw [beq_eq_false_iff_ne]; intro h; subst h; exact he rfl)
          clear he
          go_wp2_with fail
          go_quiet (fail)
          go_wp2_with fail
          go_ret
          exact ⟨hdr0.next _, jhh HF.out.symm⟩
      · have b1' : ¬ ((k : Int) < (p.length : Int)) := by omega
        have HT : Hid ((p == q) = true) := hide (by
          have := hd.out; rw [List.take_of_length_le (by omega), List.take_of_length_le (by have := HL.out; omega)] at this; rw [beq_iff_eq]; exact this)
        go_wp2_with fail
        go_ret
        exact ⟨hdr0, jhh HT.out.symm⟩
  · have d1 : ((p.length : Int) != (q.length : Int)) = true := by rw [bne_iff_ne]; omega
    have HF : Hid ((p == q) = false) := hide (by
      rw [beq_eq_false_iff_ne]; intro h; subst h; exact hne rfl)
    go_wp2_with fail
    go_ret
    exact ⟨Dr.refl w, jhh HF.out.symm⟩
end
end
section
section
open Go.RowKit
open L (val dig nth)
theorem jhj {s : Nat} (hs : s < 32) : 2 ^ s < 4294967296 := by
  have : 2 ^ s ≤ 2 ^ 31 := Nat.pow_le_pow_right (by omega) (by omega)
  omega
theorem jin {s : Nat} (hs : s < 32) : IntKind.u64.wrap ((2 : Int) ^ s) = ((2 ^ s : Nat) : Int) := by
  rw [natpow]; have := jhj hs
  generalize 2 ^ s = x at *
  exact IntWalk.u64_in _ (by omega)
theorem jhk (k : Nat) : B32 ^ k = 2 ^ (32 * k) := by rw [Nat.pow_mul]; rfl
set_option maxRecDepth 100000 in
theorem jgq (w : World) (B : Nat) (v : Value) (l : List Nat) (n : Int) (h : Nums w B v l) (hl : l.length ≤ 100000) (hn0 : -9223372036854775808 ≤ n) (hn1 : n ≤ 9223372036854775807) :
    Calls Tryz.prog 81 #[v, .int .i64 n] w fun e w' => Below w.heap.size w w' ∧ RetU w.heap.size (val W l * 2 ^ clampN n) e w' := by
  go_enter Tryz.func81, Tryz.ntmps81
  go_wp2_with fail
  refine (jfx _ n).mono ?_; rintro e w1 ⟨rfl, rfl⟩; have hm := jci n; obtain ⟨m, HCl⟩ : ∃ m, Hid (clampN n = m) := ⟨_, hide rfl⟩; rw [HCl.out] at hm ⊢
  go_wp2_with fail
  refine (jak _ B _ l h hl).mono ?_; rintro e w1 ⟨hB1, u1, d1, rfl, hu1, hd1⟩
  go_wp2_with fail
  rw [jin (show m % 32 < 32 from by omega)]; have l1 := jba hd1 h.lt; refine (jc8 _ _ _ d1 (2 ^ (m % 32)) hu1 hd1.lt (by omega) (jhj (by omega))).mono ?_; rintro e w2 ⟨hB2, u2, d2, rfl, hu2, hd2⟩
  have l2 : d2.length ≤ d1.length + 1 := by
    rw [hd2.len, Nat.pow_succ]; exact Nat.mul_lt_mul'' (L.val_lt d1 hd1.lt) (show 2 ^ (m % 32) < B32 from jhj (by omega))
  have HV : Hid (val B32 (List.replicate (m / 32) 0 ++ d2) = val W l * 2 ^ clampN n) := hide (by
    rw [L.val_append, L.val_replicate, List.length_replicate, hd2.val, hd1.val, jhk, HCl.out, Nat.zero_add, Nat.mul_left_comm, ← Nat.pow_add, show 32 * (m / 32) + m % 32 = m from by omega])
  have hmk := jb2 ((m : Int) / 32) (m / 32) (by omega) (by omega); have hle : m / 32 ≤ 256 := by omega
  have hu2' := hu2.below (w' := w2.alloc (.cells (zer (m / 32)) 49)) ((Below.refl _ _).alloc (Nat.le_refl _) _); have s1 := hB1.size; have s2 := hB2.size; have hd20 := hd2.lt
  go_wp2_with (at_builtin; refine jae _ rfl _ _ rfl w2.heap.size _ (List.replicate (m / 32) 0) rfl (OwnU.made w2 (Nat.le_refl _) (m / 32) (by omega)) w1.heap.size _ d2 rfl hu2' (by simp; omega) (by simp) ?_; intro v1 w3 hown1 hgrow1)
  have hlt : ∀ x ∈ List.replicate (m / 32) 0 ++ d2, x < B32 := by
    intro x hx
    rcases List.mem_append.1 hx with hx | hx
    · rw [(List.mem_replicate.1 hx).2]; exact jbh
    · exact hd20 x hx
  refine (ja3 _ _ _ _ (hown1.nums (fun x hx => Nat.lt_of_lt_of_le (hlt x hx) jbo)) hlt (by simp; omega)).mono ?_; rintro e w4 ⟨hB4, u4, d4, rfl, hu4, hd4⟩
  go_wp2_with fail
  go_ret
  have hB3 : Below w.heap.size w2 w3 := ((Below.refl _ w2).alloc (by omega) _).grown hgrow1 (by simp; omega) (fun k hk => by injection hk with e; simp at e; omega); have s3 := hB3.size; refine ⟨(((hB1.trans (hB2.mono (by omega))).trans hB3).trans (hB4.mono (by omega))), u4, d4, rfl, hu4.mono (by omega), ?_⟩; rw [HV.out] at hd4; exact hd4
set_option maxRecDepth 100000 in
theorem jgr (w : World) (B : Nat) (v : Value) (l : List Nat) (n : Int) (h : Nums w B v l) (hl : l.length ≤ 100000) (hn0 : -9223372036854775808 ≤ n) (hn1 : n ≤ 9223372036854775807) :
    Calls Tryz.prog 112 #[v, .int .i64 n] w fun e w' => Below w.heap.size w w' ∧ RetU w.heap.size (val W l / 2 ^ clampN n) e w' := by
  go_enter Tryz.func112, Tryz.ntmps112
  go_wp2_with fail
  refine (jfx _ n).mono ?_; rintro e w1 ⟨rfl, rfl⟩; have hm := jci n; obtain ⟨m, HCl⟩ : ∃ m, Hid (clampN n = m) := ⟨_, hide rfl⟩; rw [HCl.out] at hm ⊢
  go_wp2_with fail
  refine (jak _ B _ l h hl).mono ?_; rintro e w1 ⟨hB1, u1, d, rfl, hu1, hd⟩; have l1 := jba hd h.lt; have hd0 := hd.lt; have hdn := hu1; have s1 := hB1.size; obtain ⟨A, cap, rfl, hcap, -, -, hc⟩ := hu1
  by_cases hge : d.length ≤ m / 32
  · have hge' : (d.length : Int) ≤ (m : Int) / 32 := by omega
    have HV : Hid (val W l / 2 ^ clampN n = 0) := hide (by
      rw [HCl.out, ← hd.val]; apply Nat.div_eq_of_lt; have h1 := L.val_lt d hd0; rw [jhk] at h1; exact Nat.lt_of_lt_of_le h1 (Nat.pow_le_pow_right (by omega) (by omega)))
    go_wp2_with fail
    go_ret
    exact ⟨hB1, _, [], rfl, Nums.nil _ _, by rw [HV.out]; exact (L.dig_zero W).symm⟩
  · obtain ⟨b1, o1, rfl, hb1g, hb1, hcell1⟩ := hc (by omega)
    have HQ : Hid (val B32 (d.drop (m / 32)) / 2 ^ (m % 32) = val W l / 2 ^ clampN n) := hide (by
      rw [HCl.out, ← hd.val, L.val_drop B32 jbh d hd0, jhk, Nat.div_div_eq_div_mul, ← Nat.pow_add, show 32 * (m / 32) + m % 32 = m from by omega])
    have HWD : Hid (m = 32 * (m / 32) + m % 32) := hide (by omega); have hs : m % 32 < 32 := by omega
    have e32 : (m : Int) / 32 = ((m / 32 : Nat) : Int) := by omega
    have hwp := jin hs; have hs2 := jhj hs; have hs3 : 0 < 2 ^ (m % 32) := Nat.two_pow_pos _; obtain ⟨wd, HWD2⟩ : ∃ wd, Hid (m / 32 = wd) := ⟨_, hide rfl⟩; rw [HWD2.out] at hge HQ e32; have hwl : (wd : Int) < (d.length : Int) := by omega
    have hsub := hdn.from_ (k := wd) (by omega); have hdl : (d.drop wd).length = d.length - wd := List.length_drop; have hne : ¬ cap = wd := by omega
    have hle' : wd ≤ d.length := by omega
    have HDL := hide hdl; have hP0 : ∀ x ∈ d.drop wd, x < B32 := fun x hx => hd0 x (List.mem_of_mem_drop hx)
    have HP0 := hide hP0; have h0 : Nums (w1.alloc (.cells #[] 49)) w.heap.size (.slice (some ⟨b1, o1 + wd, none⟩) (d.length - wd) (cap - wd)) (d.drop wd) := hsub.below ((Below.refl _ _).alloc (Nat.le_refl _) _); have HWP := hide hwp; clear hge hdl hP0 hcell1 hc hsub hdn hd0 hd hwp; have hPl : (d.drop wd).length ≤ 400000 := by have := HDL.out; omega
    go_upto_region 7 with (at_builtin; refine jae _ rfl _ _ rfl w1.heap.size _ [] rfl (OwnU.empty w1 (Nat.le_refl _)) w.heap.size _ (d.drop wd) (by rfl) h0 (by simp; omega) (by simp) ?_; intro v1 w2 hown1 hgrow1)
    rw [HWP.out]; obtain ⟨Y, HY⟩ : ∃ Y, Hid (2 ^ (m % 32) = Y) := ⟨_, hide rfl⟩; rw [HY.out] at hs2 hs3 HQ ⊢; rw [List.nil_append] at hown1; obtain ⟨g, cap2, rfl, hown2⟩ := OwnU.toN hown1 (by rw [HDL.out]; omega); have hB3 : Below w.heap.size w1 w2 := ((Below.refl _ w1).alloc (by omega) _).grown hgrow1 (by simp; omega) (fun k hk => by injection hk with e; simp at e; omega); have hB0 := hB1.trans hB3; obtain ⟨N, HN⟩ : ∃ N, Hid ((d.drop wd).length = N) := ⟨_, hide rfl⟩; rw [HN.out] at hown2 ⊢; have hN1 : 0 < N := by have := HN.out; have := HDL.out; omega
    have hN2 : N ≤ 400000 := by have := HN.out; omega
    obtain ⟨P, HPe⟩ : ∃ P, Hid (d.drop wd = P) := ⟨_, hide rfl⟩; rw [HPe.out] at hown2 HQ HP0 HN; have hgl := hown2.ge; clear hown1 hPl h0
    go_wp2_with fail
    go_loopw [7, 8] (fun rv i wr => ∃ (i' : Int) (r : Nat) (o : List Nat), -1 ≤ i' ∧ i' < N ∧ i = .int .i64 i' ∧ rv = .int .u64 r ∧ r < Y ∧ OwnN wr w1.heap.size g N cap2 o ∧ Hid (∀ x ∈ o, x < B32) ∧
      Hid (val B32 (P.drop (i' + 1).toNat) = Y * val B32 (o.drop (i' + 1).toNat) + r) ∧ Hid (∀ t : Nat, (t : Int) ≤ i' → nth o t = nth P t) ∧ Below w.heap.size w wr) (fun _ i _ => (intOf i + 1).toNat)
    case atStart => exact ⟨(N : Int) - 1, 0, P, by omega, by omega, rfl, rfl, hs3, hown2, HP0, hide (by have := HN.out; rw [List.drop_of_length_le (by omega)]; simp [L.val]), hide (fun _ _ => rfl), hB0⟩
    case round =>
      obtain ⟨i, r, o, hi1, hi2, rfl, rfl, hr, hO, HOlt, HI, HZ, hB⟩ := hrel; have hol := hO.len; have HOL := hide hol; clear hol
      by_cases hneg : i = -1
      · subst hneg
        have HV : Hid (val B32 o = val W l / 2 ^ clampN n) := hide (by
          have h1 := HI.out; simp only [Int.reduceNeg, Int.add_left_neg, Int.toNat_zero, List.drop_zero] at h1; rw [← HQ.out, h1, Nat.mul_add_div hs3, Nat.div_eq_of_lt hr, Nat.add_zero])
        have HNm := hide (hO.nums (fun x hx => Nat.lt_of_lt_of_le (HOlt.out x hx) jbo))
        go_wp2_with fail
        refine (ja3 _ _ _ _ HNm.out HOlt.out (by rw [HOL.out]; omega)).mono ?_; rintro e w4 ⟨hB4, u4, d4, rfl, hu4, hd4⟩
        go_wp2_with fail
        go_ret
        have s4 := hB.size; refine ⟨hB.trans (hB4.mono s4), u4, d4, rfl, hu4.mono s4, ?_⟩; rw [HV.out] at hd4; exact hd4
      · obtain ⟨k, rfl⟩ := Int.eq_ofNat_of_zero_le (show 0 ≤ i by omega)
        have hlt : k < N := by omega
        have h3 := hO.cell hlt; have h4 := hO.frozen k; rw [HZ.out k (Int.le_refl _)] at h3; have px := jbl HP0.out k; have bk : (k : Int) < (N : Int) := by omega
        have hY : (0 : Int) < (Y : Int) := by omega
        have hYn : ¬ ((Y : Int) = 0) := by omega
        have hr2 : r < 4294967296 := by omega
        obtain ⟨S, HS⟩ : ∃ S, Hid (r * B32 + nth P k = S) := ⟨_, hide rfl⟩; have hw1 : (r : Int) * 4294967296 + ((nth P k : Nat) : Int) = (S : Int) := by have := HS.out; unfold B32 at this; omega
        have hSl : S < Y * B32 := by
          have h1 : (r + 1) * B32 ≤ Y * B32 := Nat.mul_le_mul_right _ hr; rw [Nat.add_mul] at h1; have := HS.out; unfold B32 at *
          omega
        have hq : S / Y < B32 := by rw [Nat.div_lt_iff_lt_mul hs3, Nat.mul_comm]; exact hSl
        have hr3 : S % Y < Y := Nat.mod_lt _ hs3; have HST := hide (L.divD_step B32 Y P o k r (by have := HN.out; omega) (by have := HOL.out; omega) (by have := HI.out; simpa using this)); rw [HS.out] at HST; have e1 : (S : Int) / (Y : Int) = ((S / Y : Nat) : Int) := by norm_cast
        have e2 : (S : Int) % (Y : Int) = ((S % Y : Nat) : Int) := by norm_cast
        have hS64 : S < 18446744073709551616 := by have := HS.out; unfold B32 at this; omega
        have E1 := hide e1; have E2 := hide e2; have HSL := hide hSl; clear e1 e2 hSl
        go_wp2_with fail
        go_roundw
        case rel =>
          have e3 : IntKind.u64.wrap ((S : Int) / (Y : Int)) = ((S / Y : Nat) : Int) := by
            rw [E1.out]; have h1 : S / Y ≤ S := Nat.div_le_self _ _
            generalize S / Y = z at *
            exact IntWalk.u64_in _ (by omega)
          refine ⟨(k : Int) - 1, S % Y, _, by omega, by omega, rfl, by rw [E2.out], hr3, hO.set_of k _ e3, hide (L.mem_set_lt o HOlt.out _ _ hq), hide ?_, hide (fun t ht => ?_), hB.setCell (Nat.le_trans s1 hgl.1) _⟩
          · have := HST.out
            simpa using this
          · rw [L.getD_set_ne _ _ _ _ (by omega)]; exact HZ.out t (by omega)
        case measure => simp [intOf]
end
end
end Go.Proofs.YtgbpnpemigddeaaGreat
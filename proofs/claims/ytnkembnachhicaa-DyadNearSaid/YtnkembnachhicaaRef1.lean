/- The document's numbers: digits of thirty-two bits: Trim, Digits, Limbs, Norm. -/
import Derived.Test.YtnkembnachhicaaNat2
set_option linter.unusedVariables false
namespace Go.Proofs.Ytnkembnachhicaa
open Go.RowKit
open L (val dig nth)

/-- The base of the digits. -/
def B32 : Nat := 4294967296
theorem B32_gt : 1 < B32 := by unfold B32; omega
theorem B32_pos : 0 < B32 := by unfold B32; omega
theorem B32_lt : B32 ≤ W := by unfold B32 W; omega
theorem W_B32 : W = B32 * B32 := rfl

/-- The digits d are those of the number N, without noughts on top. -/
def CanonD (d : List Nat) (N : Nat) : Prop := d = dig B32 N
theorem CanonD.val {d : List Nat} {N : Nat} (h : CanonD d N) : L.val B32 d = N := by rw [show d = dig B32 N from h, L.val_dig B32_gt]
theorem CanonD.lt {d : List Nat} {N : Nat} (h : CanonD d N) : ∀ x ∈ d, x < B32 := by rw [show d = dig B32 N from h]; exact L.dig_lt B32_gt N
theorem CanonD.len {d : List Nat} {N m : Nat} (h : CanonD d N) : d.length ≤ m ↔ N < B32 ^ m := by rw [show d = dig B32 N from h]; exact L.dig_len B32_gt N m
def RetG (B N : Nat) (e : Ending) (w : World) : Prop := ∃ u d, e = .returned u ∧ Nums w B u d ∧ CanonD d N
theorem nthD_lt {l : List Nat} (h : ∀ x ∈ l, x < B32) (i : Nat) : nth l i < 4294967296 := L.lt_of_getD B32_pos l h i

theorem trimD_calls (w : World) (B : Nat) (v : Value) (l : List Nat) (h : Nums w B v l) (hl : ∀ x ∈ l, x < B32) :
    Calls Try.prog 128 #[v] w fun e w' => w = w' ∧ RetG B (val B32 l) e w' := by
  have h0 := h
  obtain ⟨A, cap, rfl, hcap, hmax, hlt, hc⟩ := h
  go_enter Try.func128, Try.ntmps128
  go_wp2
  go_loop [3] (fun s => ∃ n : Nat, n ≤ l.length ∧ s = .int .i64 n ∧ ∀ i, n ≤ i → i < l.length → nth l i = 0) (fun s => (intOf s).toNat)
  case atStart => exact ⟨_, Nat.le_refl _, rfl, fun i h1 h2 => by omega⟩
  case round =>
    obtain ⟨n, hn, rfl, hz⟩ := hrel
    have HZ := hide hz
    clear hz
    cases n with
    | zero =>
      go_wp2
      go_ret
      refine ⟨rfl, _, _, rfl, h0.first (Nat.zero_le _), ?_⟩
      exact (L.dig_val_take B32_gt l hl 0 (Nat.zero_le _) HZ.out (.inl rfl)).symm
    | succ m =>
      obtain ⟨b, off, rfl, hB, hb, hcell⟩ := hc (by omega)
      have hm := hcell m (by omega)
      have hcap' : m + 1 ≤ cap := by omega
      clear hcell hc
      go_wp2
      · have hz : ((nth l m : Nat) : Int) == 0 := by assumption
        go_round
        case rel =>
          refine ⟨m, by omega, by go_num, fun i h1 h2 => ?_⟩
          by_cases e : i = m
          · subst e; simpa using hz
          · exact HZ.out i (by omega) h2
        case measure => simp [intOf]
      · have hz : (((nth l m : Nat) : Int) == 0) = false := by assumption
        go_ret
        refine ⟨rfl, _, _, rfl, h0.first hn, ?_⟩
        exact (L.dig_val_take B32_gt l hl (m + 1) hn HZ.out (.inr (by simpa using hz))).symm

theorem B32_pow (k : Nat) : B32 ^ (2 * k) = W ^ k := by rw [Nat.pow_mul, W_B32, Nat.pow_two]

theorem digits_calls (w : World) (B : Nat) (v : Value) (l : List Nat) (h : Nums w B v l) (hl : l.length ≤ 100000) :
    Calls Try.prog 114 #[v] w fun e w' => Below w.heap.size w w' ∧ RetG w.heap.size (val W l) e w' := by
  have hl0 := h.lt
  obtain ⟨A, cap, rfl, -, -, -, hc⟩ := h
  have hmk := mkU_run (2 * (l.length : Int)) (2 * l.length) (by omega) (by omega)
  go_enter Try.func114, Try.ntmps114
  go_wp2_with fail
  clear hmk
  go_loopw [4] (fun i wr => ∃ (k : Nat) (o : List Nat), k ≤ l.length ∧ i = .int .i64 k ∧ Out wr w.heap.size o ∧ Hid (o.length = 2 * l.length) ∧ Hid (∀ x ∈ o, x < B32) ∧
      Hid (val B32 (o.take (2 * k)) = val W (l.take k)) ∧ Below w.heap.size w wr) (fun i _ => l.length - (intOf i).toNat)
  case atStart => exact ⟨0, _, Nat.zero_le _, rfl, Out.made w _, hide (by simp), hide (fun x hx => by rw [(List.mem_replicate.1 hx).2]; exact B32_pos), hide (by simp [L.val]), (Below.refl _ _).alloc (Nat.le_refl _) _⟩
  case round =>
    obtain ⟨k, o, hk, rfl, hO, HO, HOlt, HI, hB⟩ := hrel
    by_cases hlt : k < l.length
    · obtain ⟨b1, o1, rfl, -, hb1, hcell1⟩ := hc (by omega)
      have h1 : wr.cell? ⟨b1, o1 + k, none⟩ = _ := (hB.cell (p := ⟨b1, o1 + k, none⟩) hb1).trans (hcell1 k hlt)
      have hol : 2 * k + 1 < o.length := by have := HO.out; omega
      have h3 := hO.cell (i := 2 * k) (by omega)
      have h4 := hO.frozen (2 * k)
      have h5 := hO.cell hol
      have h6 := hO.frozen (2 * k + 1)
      have px := nth_lt hl0 k
      have bi : 2 * (k : Int) + 1 < 2 * (l.length : Int) := by omega
      have hgb : b1 ≠ w.heap.size := by omega
      clear hcell1 hc
      go_wp2_with fail
      go_roundw
      case rel =>
        have e1 : ((nth l k : Nat) : Int) % 4294967296 = ((nth l k % B32 : Nat) : Int) := by unfold B32; omega
        have e2 : ((nth l k : Nat) : Int) / 4294967296 = ((nth l k / B32 : Nat) : Int) := by unfold B32; omega
        have q1 : nth l k % B32 < B32 := Nat.mod_lt _ B32_pos
        have q2 : nth l k / B32 < B32 := by unfold B32; omega
        refine ⟨k + 1, _, by omega, by go_num, (hO.set_of (2 * k) _ e1).set_of (2 * k + 1) _ e2, hide (by simpa using HO.out), hide (L.mem_set_lt _ (L.mem_set_lt o HOlt.out _ _ q1) _ _ q2), hide ?_,
          (hB.setCell (Nat.le_refl _) _).setCell (Nat.le_refl _) _⟩
        rw [show 2 * (k + 1) = 2 * k + 1 + 1 from by omega, L.val_set_take B32 _ (2 * k + 1) _ (by simpa using hol), L.val_set_take B32 o (2 * k) _ (by omega), HI.out, L.val_take_step W l k, Nat.pow_succ, B32_pow]
        have e3 := Nat.mod_add_div (nth l k) B32
        generalize nth l k % B32 = x at *
        generalize nth l k / B32 = y at *
        rw [← e3, Nat.mul_add, ← Nat.mul_assoc]
        omega
      case measure => simp [intOf]; omega
    · have hke : k = l.length := by omega
      subst hke
      have HV : Hid (val B32 o = val W l) := hide (by
        have := HI.out
        rwa [List.take_of_length_le (by have := HO.out; omega), List.take_of_length_le (Nat.le_refl _)] at this)
      have hN := hO.nums (Nat.le_refl _) (by have := HO.out; omega) (fun x hx => Nat.lt_of_lt_of_le (HOlt.out x hx) B32_lt)
      rw [HO.out] at hN
      have HN := hide hN
      clear hN hc
      go_wp2_with fail
      refine (trimD_calls _ _ _ _ HN.out HOlt.out).mono ?_
      rintro e w1 ⟨rfl, u, d, rfl, hu, hd⟩
      go_wp2_with fail
      go_ret
      refine ⟨hB, u, d, rfl, hu, ?_⟩
      rw [← HV.out]
      exact hd

theorem dig_of_ge {b : Nat} (hb : 1 < b) (l : List Nat) (hl : ∀ x ∈ l, x < b) (hge : l.length = 0 ∨ b ^ (l.length - 1) ≤ val b l) : dig b (val b l) = l := by
  refine L.dig_val hb l hl ?_
  intro x hx h0
  have hp : 0 < l.length := by
    rcases Nat.eq_zero_or_pos l.length with h | h
    · rw [List.eq_nil_of_length_eq_zero h] at hx; cases hx
    · exact h
  rcases hge with hge | hge
  · omega
  · have e := L.val_take_step b l (l.length - 1)
    rw [List.take_of_length_le (by omega)] at e
    have hn : nth l (l.length - 1) = 0 := by
      rw [L.nth_def, List.getD_eq_getElem?_getD, ← List.getLast?_eq_getElem?, hx, h0]; rfl
    rw [hn] at e
    have h1 := L.val_lt (b := b) (l.take (l.length - 1)) (fun x hx => hl x (List.mem_of_mem_take hx))
    rw [List.length_take, Nat.min_eq_left (by omega)] at h1
    omega

theorem limbs_step (d o : List Nat) (k x : Nat) (ho : o.length = k) (h : val W o = val B32 (d.take (2 * k))) (hx : x = nth d (2 * k) + B32 * nth d (2 * k + 1)) :
    val W (o ++ [x]) = val B32 (d.take (2 * (k + 1))) := by
  rw [L.val_append, ho, h, show 2 * (k + 1) = 2 * k + 1 + 1 from by omega, L.val_take_step B32 d (2 * k + 1), L.val_take_step B32 d (2 * k), Nat.pow_succ, B32_pow, L.val_cons, L.val_nil, hx]
  rw [Nat.mul_zero, Nat.add_zero, Nat.mul_add, Nat.mul_assoc]
  omega

theorem limbs_calls (w : World) (B : Nat) (v : Value) (l : List Nat) (h : Nums w B v l) (hl : ∀ x ∈ l, x < B32) (hl2 : l.length ≤ 400000) :
    Calls Try.prog 117 #[v] w fun e w' => Below w.heap.size w w' ∧ RetU w.heap.size (val B32 l) e w' := by
  go_enter Try.func117, Try.ntmps117
  go_wp2_with fail
  refine (trimD_calls _ B _ l h hl).mono ?_
  rintro e w1 ⟨rfl, u, d, rfl, hu, hd⟩
  have hdl : d.length ≤ 400000 := by rw [show d = dig B32 (val B32 l) from hd]; exact Nat.le_trans (L.dig_len_val B32_gt l hl) hl2
  have hd0 := hd.lt
  obtain ⟨A, cap, rfl, -, -, -, hc⟩ := hu
  go_wp2_with fail
  go_loopw [3, 4] (fun v i wr => ∃ (k : Nat) (o : List Nat), 2 * k ≤ d.length + 1 ∧ i = .int .i64 (2 * (k : Int)) ∧ OwnU wr w.heap.size v o ∧ Hid (o.length = k) ∧ Hid (∀ x ∈ o, x < W) ∧
      Hid (val W o = val B32 (d.take (2 * k))) ∧ Below w.heap.size w wr) (fun _ i _ => d.length + 1 - (intOf i).toNat)
  case atStart => exact ⟨0, [], by omega, rfl, OwnU.nil w _, hide rfl, hide (by simp), hide (by simp [L.val]), Below.refl _ _⟩
  case round =>
    obtain ⟨k, o, hk, rfl, hO, HO, HOlt, HI, hB⟩ := hrel
    have hbs := hB.size
    by_cases hlt : 2 * k < d.length
    · obtain ⟨b1, o1, rfl, -, hb1, hcell1⟩ := hc (by omega)
      have h1 : wr.cell? ⟨b1, o1 + 2 * k, none⟩ = _ := (hB.cell (p := ⟨b1, o1 + 2 * k, none⟩) hb1).trans (hcell1 (2 * k) hlt)
      have px := nthD_lt hd0 (2 * k)
      have py := nthD_lt hd0 (2 * k + 1)
      have bi : 2 * (k : Int) < (d.length : Int) := by omega
      have hol : o.length ≤ 400000 := by have := HO.out; omega
      by_cases hlt2 : 2 * k + 1 < d.length
      · have h2 : wr.cell? ⟨b1, o1 + (2 * k + 1), none⟩ = _ := (hB.cell (p := ⟨b1, o1 + (2 * k + 1), none⟩) hb1).trans (hcell1 (2 * k + 1) hlt2)
        have bi2 : 2 * (k : Int) + 1 < (d.length : Int) := by omega
        have ez : ((nth d (2 * k) : Nat) : Int) + 4294967296 * ((nth d (2 * k + 1) : Nat) : Int) = ((nth d (2 * k) + B32 * nth d (2 * k + 1) : Nat) : Int) := by unfold B32; omega
        have EZ := hide ez
        have ezl : nth d (2 * k) + B32 * nth d (2 * k + 1) < W := by unfold B32 W; omega
        clear hcell1 hc ez
        go_wp2_with (at_builtin; refine wpList_appendU _ rfl _ _ rfl w.heap.size _ o rfl (hO.alloc _) 0 _ [nth d (2 * k) + B32 * nth d (2 * k + 1)] rfl (Nums.one wr _ _ EZ.out ezl) (by simp; omega) (by simp; omega) ?_; intro v1 w1 hown1 hgrow1)
        go_roundw
        case rel =>
          refine ⟨k + 1, _, by omega, by go_num, hown1, hide (by simp; exact HO.out), hide ?_, hide (limbs_step d o k _ HO.out HI.out rfl), (hB.alloc hbs _).grown hgrow1 (by simp; omega) hO.own_ge⟩
          intro x hx
          rcases List.mem_append.1 hx with hx | hx
          · exact HOlt.out x hx
          · rw [List.mem_singleton.1 hx]; exact ezl
        case measure => simp [intOf]; omega
      · have bi2 : ¬ (2 * (k : Int) + 1 < (d.length : Int)) := by omega
        have ezl : nth d (2 * k) < W := by unfold W; omega
        have hz : nth d (2 * k + 1) = 0 := L.getD_ge d _ (by omega)
        have HZ := hide hz
        clear hcell1 hc hz
        go_wp2_with (at_builtin; refine wpList_appendU _ rfl _ _ rfl w.heap.size _ o rfl (hO.alloc _) 0 _ [nth d (2 * k)] rfl (Nums.one wr _ _ rfl ezl) (by simp; omega) (by simp; omega) ?_; intro v1 w1 hown1 hgrow1)
        go_roundw
        case rel =>
          refine ⟨k + 1, _, by omega, by go_num, hown1, hide (by simp; exact HO.out), hide ?_, hide (limbs_step d o k _ HO.out HI.out (by rw [HZ.out]; omega)), (hB.alloc hbs _).grown hgrow1 (by simp; omega) hO.own_ge⟩
          intro x hx
          rcases List.mem_append.1 hx with hx | hx
          · exact HOlt.out x hx
          · rw [List.mem_singleton.1 hx]; exact ezl
        case measure => simp [intOf]; omega
    · have bi : ¬ (2 * (k : Int) < (d.length : Int)) := by omega
      have HV : Hid (Canon o (val B32 l)) := hide (by
        have h1 := HI.out
        rw [List.take_of_length_le (by omega), hd.val] at h1
        unfold Canon
        rw [← h1]
        refine (dig_of_ge W_gt o HOlt.out ?_).symm
        rcases Nat.eq_zero_or_pos d.length with h2 | h2
        · left; rw [HO.out]; omega
        · right
          have h3 : ¬ d.length ≤ d.length - 1 := by omega
          rw [hd.len] at h3
          rw [h1, HO.out]
          refine Nat.le_trans ?_ (Nat.not_lt.1 h3)
          rw [← B32_pow]
          exact Nat.pow_le_pow_right B32_pos (by omega))
      go_wp2_with fail
      go_ret
      exact ⟨hB, _, o, rfl, hO.nums HOlt.out, HV.out⟩

theorem normR_calls (w : World) (B : Nat) (v : Value) (l : List Nat) (h : Nums w B v l) (hl : l.length ≤ 100000) :
    Calls Try.prog 113 #[v] w fun e w' => Below w.heap.size w w' ∧ RetU w.heap.size (val W l) e w' := by
  go_enter Try.func113, Try.ntmps113
  go_wp2_with fail
  refine (digits_calls _ B _ l h hl).mono ?_
  rintro e w1 ⟨hB1, u, d, rfl, hu, hd⟩
  have hdl2 : d.length ≤ 2 * l.length := by
    rw [hd.len]
    have h1 := L.val_lt l h.lt
    rwa [← B32_pow] at h1
  have hdl : d.length ≤ 400000 := by omega
  go_wp2_with fail
  refine (limbs_calls _ _ _ d hu hd.lt hdl).mono ?_
  rintro e w2 ⟨hB2, u2, d2, rfl, hu2, hd2⟩
  rw [hd.val] at hd2
  go_wp2_with fail
  go_ret
  exact ⟨hB1.trans (hB2.mono hB1.size), u2, d2, rfl, hu2.mono hB1.size, hd2⟩
end Go.Proofs.Ytnkembnachhicaa

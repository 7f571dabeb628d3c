/- Plain facts about numbers written in limbs, the least first, in any base: no program in sight. -/
import Derived.Below
set_option linter.unusedVariables false
namespace Go.Proofs.Ytnkembnachhicaa.L

/-- The number that limbs stand for. -/
def val (b : Nat) : List Nat → Nat
  | [] => 0
  | x :: xs => x + b * val b xs

/-- The limbs of a number, without noughts on top. -/
def dig (b n : Nat) : List Nat := if h : 1 < b ∧ n ≠ 0 then n % b :: dig b (n / b) else []
termination_by n
decreasing_by exact Nat.div_lt_self (by omega) h.1

/-- What stands at a place, 0 behind the last one. -/
def nth (l : List Nat) (i : Nat) : Nat := l.getD i 0
theorem nth_def (l : List Nat) (i : Nat) : nth l i = l.getD i 0 := rfl

theorem dig_zero (b : Nat) : dig b 0 = [] := by unfold dig; simp
theorem dig_pos {b n : Nat} (hb : 1 < b) (hn : n ≠ 0) : dig b n = n % b :: dig b (n / b) := by rw [dig]; simp [hb, hn]

theorem val_nil (b : Nat) : val b [] = 0 := rfl
theorem val_cons (b x : Nat) (xs : List Nat) : val b (x :: xs) = x + b * val b xs := rfl

theorem val_dig {b : Nat} (hb : 1 < b) (n : Nat) : val b (dig b n) = n := by
  induction n using Nat.strongRecOn with
  | _ n ih =>
    by_cases hn : n = 0
    · subst hn; rw [dig_zero]; rfl
    · rw [dig_pos hb hn, val_cons, ih (n / b) (Nat.div_lt_self (by omega) hb)]
      exact Nat.mod_add_div n b

theorem dig_lt {b : Nat} (hb : 1 < b) (n : Nat) : ∀ x ∈ dig b n, x < b := by
  induction n using Nat.strongRecOn with
  | _ n ih =>
    intro x hx
    by_cases hn : n = 0
    · subst hn; rw [dig_zero] at hx; cases hx
    · rw [dig_pos hb hn] at hx
      cases hx with
      | head => exact Nat.mod_lt _ (by omega)
      | tail _ h => exact ih (n / b) (Nat.div_lt_self (by omega) hb) x h

theorem dig_eq_nil {b : Nat} (hb : 1 < b) (n : Nat) : dig b n = [] ↔ n = 0 := by
  constructor
  · intro h
    by_cases hn : n = 0
    · exact hn
    · rw [dig_pos hb hn] at h; cases h
  · rintro rfl; exact dig_zero b

theorem val_append (b : Nat) (l m : List Nat) : val b (l ++ m) = val b l + b ^ l.length * val b m := by
  induction l with
  | nil => simp [val]
  | cons x xs ih =>
    simp only [List.cons_append, val_cons, ih, List.length_cons, Nat.pow_succ]
    grind

theorem val_lt {b : Nat} (l : List Nat) (h : ∀ x ∈ l, x < b) : val b l < b ^ l.length := by
  induction l with
  | nil => simp [val]
  | cons x xs ih =>
    have hx := h x (by simp)
    have h1 := ih (fun y hy => h y (by simp [hy]))
    rw [val_cons, List.length_cons, Nat.pow_succ]
    have : b * (val b xs + 1) ≤ b * b ^ xs.length := Nat.mul_le_mul_left _ h1
    rw [Nat.mul_add] at this
    rw [Nat.mul_comm (b ^ xs.length)]
    omega

theorem val_zeros (b : Nat) (l : List Nat) (h : ∀ x ∈ l, x = 0) : val b l = 0 := by
  induction l with
  | nil => rfl
  | cons x xs ih => rw [val_cons, h x (by simp), ih (fun y hy => h y (by simp [hy]))]; simp

theorem val_replicate (b n : Nat) : val b (List.replicate n 0) = 0 := val_zeros b _ (fun x hx => (List.mem_replicate.1 hx).2)

/-- Canonical limbs are what 'dig' gives. -/
theorem dig_val {b : Nat} (hb : 1 < b) (l : List Nat) (h : ∀ x ∈ l, x < b) (ht : ∀ x, l.getLast? = some x → x ≠ 0) : dig b (val b l) = l := by
  induction l with
  | nil => exact dig_zero b
  | cons x xs ih =>
    have hx := h x (by simp)
    have hxs : ∀ y ∈ xs, y < b := fun y hy => h y (by simp [hy])
    have hd : (x + b * val b xs) / b = val b xs := by rw [Nat.add_mul_div_left _ _ (by omega), Nat.div_eq_of_lt hx]; omega
    have hm : (x + b * val b xs) % b = x := by rw [Nat.add_mul_mod_self_left, Nat.mod_eq_of_lt hx]
    have hn : val b (x :: xs) ≠ 0 := by
      rw [val_cons]
      cases xs with
      | nil => have := ht x (by simp); simp [val]; omega
      | cons y ys =>
        have hlast : ∀ z, (y :: ys).getLast? = some z → z ≠ 0 := fun z hz => ht z (by rw [List.getLast?_cons_cons]; exact hz)
        have := ih hxs hlast
        intro h0
        have hv : val b (y :: ys) = 0 := by
          have : b * val b (y :: ys) = 0 := by omega
          rcases Nat.mul_eq_zero.1 this with h | h
          · omega
          · exact h
        rw [hv, dig_zero] at this
        cases this
    rw [dig_pos hb hn, val_cons, hm, hd]
    congr 1
    cases xs with
    | nil => exact dig_zero b
    | cons y ys => exact ih hxs (fun z hz => ht z (by rw [List.getLast?_cons_cons]; exact hz))

/-- What stands behind place n is noughts, and what stands before it is none: the limbs up to n are canonical. -/
theorem dig_val_take {b : Nat} (hb : 1 < b) (l : List Nat) (h : ∀ x ∈ l, x < b) (n : Nat) (hn : n ≤ l.length)
    (hz : ∀ i, n ≤ i → i < l.length → nth l i = 0) (ht : n = 0 ∨ nth l (n - 1) ≠ 0) : dig b (val b l) = l.take n := by
  have e : val b l = val b (l.take n) := by
    conv => lhs; rw [← List.take_append_drop n l]
    rw [val_append, val_zeros b (l.drop n)]
    · simp
    · intro x hx
      obtain ⟨i, hi, rfl⟩ := List.mem_iff_getElem.1 hx
      rw [List.getElem_drop]
      rw [List.length_drop] at hi
      have := hz (n + i) (by omega) (by omega)
      rwa [nth_def, List.getD_eq_getElem?_getD, List.getElem?_eq_getElem (by omega), Option.getD_some] at this
  rw [e]
  refine dig_val hb _ (fun x hx => h x (List.mem_of_mem_take hx)) ?_
  intro x hx h0
  rcases ht with rfl | ht
  · simp at hx
  · apply ht
    rw [List.getLast?_eq_getElem?, List.length_take, Nat.min_eq_left hn] at hx
    by_cases h1 : n = 0
    · subst h1; simp at hx
    · rw [List.getElem?_take_of_lt (by omega)] at hx
      rw [nth_def, List.getD_eq_getElem?_getD, hx, h0]; rfl

theorem take_succ' (l : List Nat) (i : Nat) (h : i < l.length) : l.take (i + 1) = l.take i ++ [nth l i] := by
  rw [List.take_succ_eq_append_getElem h]
  congr
  rw [nth_def, List.getD_eq_getElem?_getD, List.getElem?_eq_getElem h]; rfl

theorem val_take_succ (b : Nat) (l : List Nat) (i : Nat) (h : i < l.length) : val b (l.take (i + 1)) = val b (l.take i) + b ^ i * nth l i := by
  rw [take_succ' l i h, val_append, List.length_take, Nat.min_eq_left (by omega)]
  simp [val]

theorem val_take_ge (b : Nat) (l : List Nat) (i : Nat) (h : l.length ≤ i) : val b (l.take i) = val b l := by rw [List.take_of_length_le h]

theorem getD_ge (l : List Nat) (i : Nat) (h : l.length ≤ i) : nth l i = 0 := by
  rw [nth_def, List.getD_eq_getElem?_getD, List.getElem?_eq_none h]; rfl

/-- One step further, in the list or behind it. -/
theorem val_take_step (b : Nat) (l : List Nat) (i : Nat) : val b (l.take (i + 1)) = val b (l.take i) + b ^ i * nth l i := by
  by_cases h : i < l.length
  · exact val_take_succ b l i h
  · rw [val_take_ge b l _ (by omega), val_take_ge b l _ (by omega), getD_ge l i (by omega)]; simp

theorem take_set_self (l : List Nat) (i x : Nat) : (l.set i x).take i = l.take i := by
  rw [List.take_set_of_le (Nat.le_refl _)]

theorem getD_set_self (l : List Nat) (i x : Nat) (h : i < l.length) : nth (l.set i x) i = x := by
  rw [nth_def, List.getD_eq_getElem?_getD, List.getElem?_set_self h]; rfl
theorem getD_set_ne (l : List Nat) (i j x : Nat) (h : i ≠ j) : nth (l.set i x) j = nth l j := by
  rw [nth_def, List.getD_eq_getElem?_getD, List.getElem?_set_ne h, ← List.getD_eq_getElem?_getD, ← nth_def]

theorem val_set_take (b : Nat) (l : List Nat) (i x : Nat) (h : i < l.length) : val b ((l.set i x).take (i + 1)) = val b (l.take i) + b ^ i * x := by
  rw [val_take_succ b _ i (by simpa using h), take_set_self, getD_set_self l i x h]

theorem lt_of_getD {b : Nat} (hb : 0 < b) (l : List Nat) (h : ∀ x ∈ l, x < b) (i : Nat) : nth l i < b := by
  by_cases hi : i < l.length
  · rw [nth_def, List.getD_eq_getElem?_getD, List.getElem?_eq_getElem hi]; exact h _ (List.getElem_mem hi)
  · rw [getD_ge l i (by omega)]; exact hb

theorem mem_set_lt {b : Nat} (l : List Nat) (h : ∀ x ∈ l, x < b) (i x : Nat) (hx : x < b) : ∀ y ∈ l.set i x, y < b := by
  intro y hy
  rcases List.mem_or_eq_of_mem_set hy with h' | h'
  · exact h y h'
  · omega

/-- How long the limbs of a number are. -/
theorem dig_len {b : Nat} (hb : 1 < b) (n m : Nat) : (dig b n).length ≤ m ↔ n < b ^ m := by
  induction m generalizing n with
  | zero =>
    rw [Nat.pow_zero, Nat.le_zero, List.length_eq_zero_iff, dig_eq_nil hb]; omega
  | succ m ih =>
    by_cases hn : n = 0
    · subst hn
      rw [dig_zero]
      simp
      exact Nat.pow_pos (by omega)
    · rw [dig_pos hb hn, List.length_cons, Nat.add_le_add_iff_right, ih, Nat.pow_succ, Nat.div_lt_iff_lt_mul (by omega)]

theorem dig_len_val {b : Nat} (hb : 1 < b) (l : List Nat) (h : ∀ x ∈ l, x < b) : (dig b (val b l)).length ≤ l.length := (dig_len hb _ _).2 (val_lt l h)

/-- Longer canonical limbs, a greater number. -/
theorem lt_of_dig_len {b : Nat} (hb : 1 < b) {m n : Nat} (h : (dig b m).length < (dig b n).length) : m < n := by
  have h1 : ¬ (dig b n).length ≤ (dig b m).length := by omega
  rw [dig_len hb] at h1
  have h2 := (dig_len hb m (dig b m).length).1 (Nat.le_refl _)
  omega

theorem dig_len_mono {b : Nat} (hb : 1 < b) {m n : Nat} (h : m ≤ n) : (dig b m).length ≤ (dig b n).length := by
  rcases Nat.lt_or_ge (dig b n).length (dig b m).length with h1 | h1
  · have := lt_of_dig_len hb h1; omega
  · exact h1

theorem dig_inj {b : Nat} (hb : 1 < b) {m n : Nat} (h : dig b m = dig b n) : m = n := by
  have := congrArg (val b) h
  rwa [val_dig hb, val_dig hb] at this

/-- Two of one length: the first place from the top at which they part decides. -/
theorem val_lt_of_top {b : Nat} (l m : List Nat) (hl : ∀ x ∈ l, x < b) (hlen : l.length = m.length) (i : Nat) (hi : i < l.length)
    (he : l.drop (i + 1) = m.drop (i + 1)) (hlt : nth l i < nth m i) : val b l < val b m := by
  have e1 : val b l = val b (l.take (i + 1)) + b ^ (i + 1) * val b (l.drop (i + 1)) := by
    conv => lhs; rw [← List.take_append_drop (i + 1) l]
    rw [val_append, List.length_take, Nat.min_eq_left (by omega)]
  have e2 : val b m = val b (m.take (i + 1)) + b ^ (i + 1) * val b (m.drop (i + 1)) := by
    conv => lhs; rw [← List.take_append_drop (i + 1) m]
    rw [val_append, List.length_take, Nat.min_eq_left (by omega)]
  rw [e1, e2, he, val_take_succ b l i hi, val_take_succ b m i (by omega)]
  have h1 : val b (l.take i) < b ^ i := by
    have := val_lt (l.take i) (fun x hx => hl x (List.mem_of_mem_take hx))
    rwa [List.length_take, Nat.min_eq_left (by omega)] at this
  have h2 : b ^ i * (nth l i + 1) ≤ b ^ i * nth m i := Nat.mul_le_mul_left _ hlt
  rw [Nat.mul_add] at h2
  omega
end Go.Proofs.Ytnkembnachhicaa.L

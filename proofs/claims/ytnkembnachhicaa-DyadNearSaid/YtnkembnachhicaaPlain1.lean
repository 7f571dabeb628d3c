/- Plain steps of sums, differences, products of limbs, in any base. -/
import Derived.Test.YtnkembnachhicaaLimbs
set_option linter.unusedVariables false
set_option linter.unusedSimpArgs false
namespace Go.Proofs.Ytnkembnachhicaa.L

theorem add_step (b : Nat) (p q o : List Nat) (k c s d : Nat) (hk : k < o.length) (h : val b (o.take k) + b ^ k * c = val b (p.take k) + val b (q.take k))
    (hs : nth p k + nth q k + c = s + b * d) :
    val b ((o.set k s).take (k + 1)) + b ^ (k + 1) * d = val b (p.take (k + 1)) + val b (q.take (k + 1)) := by
  rw [val_set_take b o k s hk, val_take_step b p k, val_take_step b q k, Nat.pow_succ]
  have : b ^ k * (nth p k + nth q k + c) = b ^ k * (s + b * d) := by rw [hs]
  generalize b ^ k = X at *
  simp only [Nat.mul_add] at this
  rw [Nat.mul_assoc]
  omega

theorem sub_step (b : Nat) (p q o : List Nat) (k c s d : Nat) (hk : k < o.length) (h : val b (o.take k) + val b (q.take k) = val b (p.take k) + b ^ k * c)
    (hs : nth p k + b * d = s + nth q k + c) :
    val b ((o.set k s).take (k + 1)) + val b (q.take (k + 1)) = val b (p.take (k + 1)) + b ^ (k + 1) * d := by
  rw [val_set_take b o k s hk, val_take_step b p k, val_take_step b q k, Nat.pow_succ]
  have : b ^ k * (nth p k + b * d) = b ^ k * (s + nth q k + c) := by rw [hs]
  generalize b ^ k = X at *
  simp only [Nat.mul_add] at this
  rw [Nat.mul_assoc]
  omega

/-- The whole list, one place behind what has been done. -/
theorem val_last (b : Nat) (o : List Nat) (n : Nat) (h : o.length = n + 1) : val b o = val b (o.take n) + b ^ n * nth o n := by
  have := val_take_step b o n
  rwa [List.take_of_length_le (by omega)] at this

theorem val_set (b : Nat) (o : List Nat) (i x : Nat) (h : i < o.length) : val b (o.set i x) + b ^ i * nth o i = val b o + b ^ i * x := by
  have e1 : val b o = val b (o.take (i + 1)) + b ^ (i + 1) * val b (o.drop (i + 1)) := by
    conv => lhs; rw [← List.take_append_drop (i + 1) o]
    rw [val_append, List.length_take, Nat.min_eq_left (by omega)]
  have e2 : val b (o.set i x) = val b ((o.set i x).take (i + 1)) + b ^ (i + 1) * val b (o.drop (i + 1)) := by
    conv => lhs; rw [← List.take_append_drop (i + 1) (o.set i x)]
    rw [val_append, List.length_take, List.length_set, Nat.min_eq_left (by omega), List.drop_set_of_lt (by omega)]
  rw [e1, e2, val_set_take b o i x h, val_take_step b o i]
  omega

/-- One place of one row of a product. -/
theorem mul_step (b : Nat) (q o : List Nat) (T x i k c s d : Nat) (hk : i + k < o.length) (h : val b o + b ^ (i + k) * c = T + b ^ i * (x * val b (q.take k)))
    (hs : x * nth q k + nth o (i + k) + c = s + b * d) :
    val b (o.set (i + k) s) + b ^ (i + (k + 1)) * d = T + b ^ i * (x * val b (q.take (k + 1))) := by
  have h1 := val_set b o (i + k) s hk
  rw [val_take_step b q k]
  have h2 : b ^ (i + k) * (x * nth q k + nth o (i + k) + c) = b ^ (i + k) * (s + b * d) := by rw [hs]
  have e3 : b ^ (i + (k + 1)) = b ^ (i + k) * b := by rw [← Nat.add_assoc, Nat.pow_succ]
  have e4 : b ^ i * (x * (val b (q.take k) + b ^ k * nth q k)) = b ^ i * (x * val b (q.take k)) + b ^ (i + k) * (x * nth q k) := by
    rw [Nat.pow_add]; grind
  rw [e3, e4, Nat.mul_assoc]
  generalize b ^ (i + k) = X at *
  simp only [Nat.mul_add] at h2
  omega

/-- A row's end. -/
theorem mul_row (b : Nat) (p q o : List Nat) (i c : Nat) (hk : i + q.length < o.length) (hz : nth o (i + q.length) = 0)
    (h : val b o + b ^ (i + q.length) * c = val b (p.take i) * val b q + b ^ i * (nth p i * val b q)) :
    val b (o.set (i + q.length) c) = val b (p.take (i + 1)) * val b q := by
  have h1 := val_set b o (i + q.length) c hk
  rw [hz] at h1
  rw [val_take_step b p i, Nat.add_mul, Nat.mul_assoc]
  omega

/-- Two places: a limb's low part is added, its high part is set where nothing stood. -/
theorem shl_step (b : Nat) (o : List Nat) (k lo hi x : Nat) (hk : k + 1 < o.length) (hz : nth o (k + 1) = 0) (hx : lo + b * hi = x) :
    val b ((o.set k (nth o k + lo)).set (k + 1) hi) = val b o + b ^ k * x := by
  have h1 := val_set b o k (nth o k + lo) (by omega)
  have h2 := val_set b (o.set k (nth o k + lo)) (k + 1) hi (by simpa using hk)
  rw [getD_set_ne _ _ _ _ (by omega), hz] at h2
  rw [← hx, Nat.mul_add, ← Nat.mul_assoc, show b ^ k * b = b ^ (k + 1) from (Nat.pow_succ ..).symm]
  rw [Nat.mul_add] at h1
  omega
theorem shl_step0 (b : Nat) (o : List Nat) (k lo : Nat) (hk : k < o.length) :
    val b (o.set k (nth o k + lo)) = val b o + b ^ k * lo := by
  have h1 := val_set b o k (nth o k + lo) (by omega)
  rw [Nat.mul_add] at h1
  omega

/-- One place of a number divided by a power of two (X of b = X * Y). -/
theorem shr_step (b X Y : Nat) (hb : b = X * Y) (hX : 0 < X) (P o : List Nat) (k : Nat) (hk : k < o.length)
    (h : val b (o.take k) * X + nth P 0 % X = val b (P.take k) + b ^ k * (nth P k % X)) :
    val b ((o.set k (nth P k / X + nth P (k + 1) % X * Y)).take (k + 1)) * X + nth P 0 % X = val b (P.take (k + 1)) + b ^ (k + 1) * (nth P (k + 1) % X) := by
  rw [val_set_take b o k _ hk, val_take_step b P k, Nat.pow_succ]
  have e : nth P k = nth P k % X + X * (nth P k / X) := (Nat.mod_add_div _ _).symm
  generalize nth P (k + 1) % X = r at *
  generalize nth P k % X = s at *
  generalize nth P k / X = t at *
  rw [e]
  generalize b ^ k = Z at *
  have e1 : Z * (t + r * Y) * X = Z * (X * t) + Z * b * r := by
    rw [hb]; simp only [Nat.mul_add, Nat.add_mul]; congr 1
    · simp only [Nat.mul_assoc, Nat.mul_comm X t]
    · simp only [Nat.mul_assoc, Nat.mul_left_comm, Nat.mul_comm]
  have e2 : Z * (s + X * t) = Z * s + Z * (X * t) := Nat.mul_add _ _ _
  rw [Nat.add_mul, e1, e2]
  omega
theorem shr_end (b X : Nat) (hX : 0 < X) (P o : List Nat) (n : Nat) (ho : o.length = n) (hP : P.length = n)
    (h : val b (o.take n) * X + nth P 0 % X = val b (P.take n) + b ^ n * (nth P n % X)) : val b o = val b P / X := by
  rw [List.take_of_length_le (by omega), List.take_of_length_le (by omega), getD_ge P n (by omega), Nat.zero_mod, Nat.mul_zero] at h
  have := Nat.mod_lt (nth P 0) hX
  rw [Nat.add_zero] at h
  rw [← h, Nat.add_comm, Nat.add_mul_div_right _ _ hX, Nat.div_eq_of_lt this, Nat.zero_add]
theorem val_drop (b : Nat) (hb : 0 < b) (l : List Nat) (hl : ∀ x ∈ l, x < b) (k : Nat) : val b (l.drop k) = val b l / b ^ k := by
  by_cases hk : k ≤ l.length
  · have e : val b l = val b (l.take k) + b ^ k * val b (l.drop k) := by
      conv => lhs; rw [← List.take_append_drop k l]
      rw [val_append, List.length_take, Nat.min_eq_left hk]
    have h1 := val_lt (l.take k) (fun x hx => hl x (List.mem_of_mem_take hx))
    rw [List.length_take, Nat.min_eq_left hk] at h1
    rw [e, Nat.add_mul_div_left _ _ (Nat.pow_pos hb), Nat.div_eq_of_lt h1, Nat.zero_add]
  · have h1 := val_lt l hl
    rw [List.drop_of_length_le (by omega), val_nil, Nat.div_eq_of_lt]
    exact Nat.lt_of_lt_of_le h1 (Nat.pow_le_pow_right hb (by omega))
theorem nth_drop (l : List Nat) (k i : Nat) : nth (l.drop k) i = nth l (k + i) := by
  rw [nth_def, nth_def, List.getD_eq_getElem?_getD, List.getD_eq_getElem?_getD, List.getElem?_drop]

theorem val_snoc (b : Nat) (o : List Nat) (x : Nat) : val b (o ++ [x]) = val b o + b ^ o.length * x := by
  rw [val_append, val_cons, val_nil, Nat.mul_zero, Nat.add_zero]

theorem addD_step (b : Nat) (p q o : List Nat) (k c s : Nat) (ho : o.length = k) (h : val b o + b ^ k * c = val b (p.take k) + val b (q.take k))
    (hs : s = c + nth p k + nth q k) : val b (o ++ [s % b]) + b ^ (k + 1) * (s / b) = val b (p.take (k + 1)) + val b (q.take (k + 1)) := by
  rw [val_snoc, ho, val_take_step b p k, val_take_step b q k, Nat.pow_succ]
  have e := Nat.mod_add_div s b
  generalize s % b = x at *
  generalize s / b = y at *
  have h2 : b ^ k * (x + b * y) = b ^ k * (c + nth p k + nth q k) := by rw [e, hs]
  generalize b ^ k = X at *
  simp only [Nat.mul_add] at h2
  rw [Nat.mul_assoc]
  omega

theorem subD_step (b : Nat) (p q o : List Nat) (k c x d : Nat) (ho : o.length = k) (h : val b o + val b (q.take k) = val b (p.take k) + b ^ k * c)
    (hs : nth p k + b * d = x + nth q k + c) : val b (o ++ [x]) + val b (q.take (k + 1)) = val b (p.take (k + 1)) + b ^ (k + 1) * d := by
  rw [val_snoc, ho, val_take_step b p k, val_take_step b q k, Nat.pow_succ]
  have h2 : b ^ k * (nth p k + b * d) = b ^ k * (x + nth q k + c) := by rw [hs]
  generalize b ^ k = X at *
  simp only [Nat.mul_add] at h2
  rw [Nat.mul_assoc]
  omega

theorem timesD_step (b : Nat) (p o : List Nat) (k c s y : Nat) (ho : o.length = k) (h : val b o + b ^ k * c = val b (p.take k) * y)
    (hs : s = c + nth p k * y) : val b (o ++ [s % b]) + b ^ (k + 1) * (s / b) = val b (p.take (k + 1)) * y := by
  rw [val_snoc, ho, val_take_step b p k, Nat.pow_succ]
  have e := Nat.mod_add_div s b
  generalize s % b = x at *
  generalize s / b = z at *
  have h2 : b ^ k * (x + b * z) = b ^ k * (c + nth p k * y) := by rw [e, hs]
  rw [Nat.add_mul, Nat.mul_assoc]
  generalize b ^ k = X at *
  simp only [Nat.mul_add] at h2
  rw [Nat.mul_assoc]
  omega

theorem val_drop_step (b : Nat) (l : List Nat) (m : Nat) (h : m < l.length) : val b (l.drop m) = nth l m + b * val b (l.drop (m + 1)) := by
  rw [List.drop_eq_getElem_cons h, val_cons, nth_def, List.getD_eq_getElem?_getD, List.getElem?_eq_getElem h]; rfl
theorem drop_set_self (o : List Nat) (m q : Nat) (h : m < o.length) : (o.set m q).drop m = q :: o.drop (m + 1) := by
  rw [List.drop_eq_getElem_cons (by simpa using h), List.getElem_set_self, List.drop_set_of_lt (by omega)]
/-- One place of a division by a small number, from the top. -/
theorem divD_step (b y : Nat) (P o : List Nat) (m r : Nat) (hm : m < P.length) (hm' : m < o.length) (h : val b (P.drop (m + 1)) = y * val b (o.drop (m + 1)) + r) :
    val b (P.drop m) = y * val b ((o.set m ((r * b + nth P m) / y)).drop m) + (r * b + nth P m) % y := by
  rw [val_drop_step b P m hm, drop_set_self o m _ hm', val_cons, h]
  have e := Nat.mod_add_div (r * b + nth P m) y
  generalize (r * b + nth P m) % y = s at *
  generalize (r * b + nth P m) / y = q at *
  rw [Nat.mul_add, Nat.mul_add, ← Nat.mul_assoc, ← Nat.mul_assoc, Nat.mul_comm b y, Nat.mul_comm b r]
  omega
end Go.Proofs.Ytnkembnachhicaa.L

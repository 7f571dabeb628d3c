/- The disk, without a program in sight. -/
set_option linter.unusedVariables false
namespace Go.Proofs.Ytdlokmlcdlcfaaa
abbrev Sec := List UInt8
def zeros : Sec := List.replicate 512 0
def pad (b : List UInt8) : Sec := b ++ List.replicate (512 - b.length) 0
/-- A disk: what stands, what is loose, whether it is down; armed for how many, and what is kept then. -/
structure DS where
  n : Int
  firm : Int → Sec
  loose : List (Int × Sec)
  down : Bool
  left : Int
  keep : List Bool
namespace DS
def new (n : Int) : DS := ⟨n, fun _ => zeros, [], false, 0, []⟩
def at_ (d : DS) (i : Int) : Int := if d.down then 6 else if i < 0 ∨ d.n ≤ i then 1 else 0
/-- What is loose, written. -/
def put (f : Int → Sec) : List (Int × Sec) → Int → Sec
  | [] => f
  | (i, s) :: l => put (fun j => if j = i then s else f j) l
def look (d : DS) (i : Int) : Sec := put d.firm d.loose i
/-- Those that are kept. -/
def kept : List (Int × Sec) → List Bool → List (Int × Sec)
  | x :: l, k :: ks => if k then x :: kept l ks else kept l ks
  | _, _ => []
def crash (d : DS) (keep : List Bool) : DS := if d.down then d else { d with firm := put d.firm (kept d.loose keep), loose := [], down := true, left := 0, keep := [] }
def burns (d : DS) : Bool × DS :=
  if d.left = 0 then (false, d) else if 0 < d.left - 1 then (false, { d with left := d.left - 1 }) else (true, { d with left := d.left - 1 }.crash d.keep)
def write (d : DS) (i : Int) (b : List UInt8) : Int × DS :=
  if d.at_ i ≠ 0 then (d.at_ i, d) else if 512 < b.length then (1, d) else
    match d.burns with
    | (true, d') => (6, d')
    | (false, d') => (0, { d' with loose := d'.loose ++ [(i, pad b)] })
def barrier (d : DS) : Int × DS :=
  if d.down then (6, d) else match d.burns with
    | (true, d') => (6, d')
    | (false, d') => (0, { d' with firm := put d'.firm d'.loose, loose := [] })
def start (d : DS) : DS := { d with down := false }
def arm (d : DS) (n : Int) (keep : List Bool) : DS := { d with left := if 0 < n then n else 0, keep := keep }
end DS
namespace DS
theorem put_snoc (f : Int → Sec) (l : List (Int × Sec)) (x : Int × Sec) (i : Int) : put f (l ++ [x]) i = if i = x.1 then x.2 else put f l i := by
  induction l generalizing f with
  | nil => obtain ⟨a, s⟩ := x; rfl
  | cons y l ih => obtain ⟨a, s⟩ := y; exact ih _
theorem put_snoc' (f : Int → Sec) (l : List (Int × Sec)) (x : Int × Sec) : put f (l ++ [x]) = fun i => if i = x.1 then x.2 else put f l i := funext (put_snoc f l x)
/-- What stands, or what some write made of it. -/
theorem put_mem (f : Int → Sec) (l : List (Int × Sec)) (i : Int) : put f l i = f i ∨ (i, put f l i) ∈ l := by
  induction l generalizing f with
  | nil => exact .inl rfl
  | cons y l ih =>
    obtain ⟨a, s⟩ := y
    rcases ih (fun j => if j = a then s else f j) with h | h
    · by_cases e : i = a
      · refine .inr ?_
        have h' : put f ((a, s) :: l) i = s := by show put (fun j => if j = a then s else f j) l i = s; rw [h, if_pos e]
        rw [h', e]
        exact List.mem_cons_self
      · refine .inl ?_
        show put (fun j => if j = a then s else f j) l i = f i
        rw [h, if_neg e]
    · exact .inr (List.mem_cons_of_mem _ h)
theorem kept_nil (l : List (Int × Sec)) : kept l [] = [] := by cases l <;> rfl
theorem kept_sub : ∀ (l : List (Int × Sec)) (ks : List Bool), ∀ x ∈ kept l ks, x ∈ l
  | [], ks, x, h => by cases ks <;> cases h
  | y :: l, [], x, h => by cases h
  | y :: l, k :: ks, x, h => by
    simp only [kept] at h
    split at h
    · rcases List.mem_cons.1 h with h | h
      · rw [h]; exact List.mem_cons_self
      · exact List.mem_cons_of_mem _ (kept_sub l ks x h)
    · exact List.mem_cons_of_mem _ (kept_sub l ks x h)
theorem kept_snoc : ∀ (l : List (Int × Sec)) (ks : List Bool) (x : Int × Sec), kept (l ++ [x]) ks = kept l ks ++ (if ks[l.length]? = some true then [x] else [])
  | [], [], x => rfl
  | [], true :: ks, x => by show x :: kept [] ks = _; cases ks <;> rfl
  | [], false :: ks, x => by show kept [] ks = _; cases ks <;> rfl
  | y :: l, [], x => by simp [kept]
  | y :: l, k :: ks, x => by
    simp only [List.cons_append, kept, kept_snoc l ks x, List.length_cons, List.getElem?_cons_succ]
    cases k <;> rfl
theorem kept_take {l : List (Int × Sec)} {k : Nat} {x : Int × Sec} (h : l[k]? = some x) (ks : List Bool) : kept (l.take (k + 1)) ks = kept (l.take k) ks ++ (if ks[k]? = some true then [x] else []) := by
  obtain ⟨hk, hx⟩ := List.getElem?_eq_some_iff.1 h
  rw [List.take_add_one, h]
  show kept (l.take k ++ [x]) ks = _
  rw [kept_snoc, List.length_take, Nat.min_eq_left (Nat.le_of_lt hk)]
theorem put_take {l : List (Int × Sec)} {k : Nat} {x : Int × Sec} (h : l[k]? = some x) (f : Int → Sec) : put f (l.take (k + 1)) = fun i => if i = x.1 then x.2 else put f (l.take k) i := by
  rw [List.take_add_one, h]
  exact put_snoc' f _ x
/-- From the end on: the first that is found. -/
theorem put_none {f : Int → Sec} {l : List (Int × Sec)} {i : Int} (h : ∀ x ∈ l, x.1 ≠ i) : put f l i = f i := by
  rcases put_mem f l i with e | e
  · exact e
  · exact absurd rfl (h _ e)
theorem put_last {f : Int → Sec} {l : List (Int × Sec)} {k : Nat} {x : Int × Sec} (h : l[k]? = some x) (hn : ∀ j y, k < j → l[j]? = some y → y.1 ≠ x.1) : put f l x.1 = x.2 := by
  obtain ⟨hk, hx⟩ := List.getElem?_eq_some_iff.1 h
  have e : l = l.take (k + 1) ++ l.drop (k + 1) := (List.take_append_drop _ _).symm
  have app : ∀ (a b : List (Int × Sec)) (f : Int → Sec), put f (a ++ b) = put (put f a) b := by
    intro a
    induction a with
    | nil => intro b f; rfl
    | cons y a ih => intro b f; obtain ⟨p, s⟩ := y; exact ih b _
  rw [e, app, put_none (l := l.drop (k + 1)), put_take h]
  · exact if_pos rfl
  · intro y hy
    obtain ⟨j, hj⟩ := List.mem_iff_getElem?.1 hy
    rw [List.getElem?_drop] at hj
    exact hn _ _ (by omega) hj
end DS
theorem firm_after {f : Int → Sec} {l : List (Int × Sec)} {ks : List Bool} (i : Int) : DS.put f (DS.kept l ks) i = f i ∨ (i, DS.put f (DS.kept l ks) i) ∈ l := by
  rcases DS.put_mem f (DS.kept l ks) i with h | h
  · exact .inl h
  · exact .inr (DS.kept_sub _ _ _ h)
/-- An armed disk, so many steps on. -/
def Armed (n i : Int) (d : DS) : Prop := d.n = 4 ∧ if n = 0 then d.down = false ∧ d.left = 0 else if i < n then d.down = false ∧ d.left = n - i else d.down = true ∧ d.left = 0
theorem armed_write {n i : Int} {d : DS} (h : Armed n i d) (hn : 0 ≤ n) (hi : 0 ≤ i) {j : Int} (hj : 0 ≤ j ∧ j < 4) {b : List UInt8} (hb : b.length ≤ 512) :
    Armed n (i + 1) (d.write j b).2 ∧ (d.write j b).1 = if n = 0 ∨ i < n - 1 then 0 else 6 := by
  obtain ⟨h0, h⟩ := h
  have hat : d.down = false → d.at_ j = 0 := fun e => by
    unfold DS.at_
    rw [e, if_neg (by simp), if_neg (by omega)]
  unfold Armed
  by_cases e0 : n = 0
  · rw [if_pos e0] at h
    have hw : d.write j b = (0, { d with loose := d.loose ++ [(j, pad b)] }) := by
      unfold DS.write DS.burns
      rw [hat h.1, if_neg (by simp), if_neg (by omega), if_pos h.2]
    rw [hw]
    exact ⟨⟨h0, by rw [if_pos e0]; exact h⟩, by rw [if_pos (.inl e0)]⟩
  · rw [if_neg e0] at h ⊢
    by_cases e1 : i < n
    · rw [if_pos e1] at h
      by_cases e2 : i < n - 1
      · have hw : d.write j b = (0, { d with left := d.left - 1, loose := d.loose ++ [(j, pad b)] }) := by
          unfold DS.write DS.burns
          rw [hat h.1, if_neg (by simp), if_neg (by omega), if_neg (by omega), if_pos (by omega)]
        rw [hw]
        refine ⟨⟨h0, ?_⟩, by rw [if_pos (.inr e2)]⟩
        rw [if_pos (by omega)]
        exact ⟨h.1, by show d.left - 1 = _; omega⟩
      · have hw : d.write j b = (6, { d with left := d.left - 1 }.crash d.keep) := by
          unfold DS.write DS.burns
          rw [hat h.1, if_neg (by simp), if_neg (by omega), if_neg (by omega), if_neg (by omega)]
        rw [hw]
        refine ⟨⟨?_, ?_⟩, by rw [if_neg (fun h => h.elim e0 e2)]⟩
        · unfold DS.crash; split <;> exact h0
        · rw [if_neg (by omega)]
          unfold DS.crash
          rw [if_neg (by rw [show ({ d with left := d.left - 1 } : DS).down = d.down from rfl, h.1]; simp)]
          exact ⟨rfl, rfl⟩
    · rw [if_neg e1] at h
      have hw : d.write j b = (6, d) := by
        unfold DS.write
        have : d.at_ j = 6 := by unfold DS.at_; rw [h.1, if_pos rfl]
        rw [this, if_pos (by decide)]
      rw [hw]
      refine ⟨⟨h0, ?_⟩, by rw [if_neg (fun h => h.elim e0 (by omega))]⟩
      rw [if_neg (by omega)]
      exact h
theorem armed_barrier {n i : Int} {d : DS} (h : Armed n i d) (hn : 0 ≤ n) (hi : 0 ≤ i) :
    Armed n (i + 1) d.barrier.2 ∧ d.barrier.1 = if n = 0 ∨ i < n - 1 then 0 else 6 := by
  obtain ⟨h0, h⟩ := h
  unfold Armed
  by_cases e0 : n = 0
  · rw [if_pos e0] at h
    have hw : d.barrier = (0, { d with firm := DS.put d.firm d.loose, loose := [] }) := by
      unfold DS.barrier
      rw [if_neg (by rw [h.1]; simp)]
      unfold DS.burns
      rw [if_pos h.2]
    rw [hw]
    exact ⟨⟨h0, by rw [if_pos e0]; exact h⟩, by rw [if_pos (.inl e0)]⟩
  · rw [if_neg e0] at h ⊢
    by_cases e1 : i < n
    · rw [if_pos e1] at h
      by_cases e2 : i < n - 1
      · have hw : d.barrier = (0, { d with left := d.left - 1, firm := DS.put d.firm d.loose, loose := [] }) := by
          unfold DS.barrier
          rw [if_neg (by rw [h.1]; simp)]
          unfold DS.burns
          rw [if_neg (by omega), if_pos (by omega)]
        rw [hw]
        refine ⟨⟨h0, ?_⟩, by rw [if_pos (.inr e2)]⟩
        rw [if_pos (by omega)]
        exact ⟨h.1, by show d.left - 1 = _; omega⟩
      · have hw : d.barrier = (6, { d with left := d.left - 1 }.crash d.keep) := by
          unfold DS.barrier
          rw [if_neg (by rw [h.1]; simp)]
          unfold DS.burns
          rw [if_neg (by omega), if_neg (by omega)]
        rw [hw]
        refine ⟨⟨?_, ?_⟩, by rw [if_neg (fun h => h.elim e0 e2)]⟩
        · unfold DS.crash; split <;> exact h0
        · rw [if_neg (by omega)]
          unfold DS.crash
          rw [if_neg (by rw [show ({ d with left := d.left - 1 } : DS).down = d.down from rfl, h.1]; simp)]
          exact ⟨rfl, rfl⟩
    · rw [if_neg e1] at h
      have hw : d.barrier = (6, d) := by unfold DS.barrier; rw [h.1, if_pos rfl]
      rw [hw]
      refine ⟨⟨h0, ?_⟩, by rw [if_neg (fun h => h.elim e0 (by omega))]⟩
      rw [if_neg (by omega)]
      exact h
end Go.Proofs.Ytdlokmlcdlcfaaa

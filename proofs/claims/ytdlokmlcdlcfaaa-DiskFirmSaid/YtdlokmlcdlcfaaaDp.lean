/- hairlinelaw20: DiskPlays. -/
import Derived.Test.YtdlokmlcdlcfaaaDo
import Derived.Test.YtdlokmlcdlcfaaaDf
set_option linter.unusedVariables false
set_option linter.unusedSimpArgs false
namespace Go.Proofs.Ytdlokmlcdlcfaaa
open Go.RowKit Go.MapKept
structure OpD.ok (o : OpD) : Prop where
  n : o.n ≤ 9223372036854775807
  s : o.s.length ≤ 140737488351232
  keep : o.keep.length ≤ 140737488351232
/-- Steps that came in. -/
def Ops (w : World) (v : Value) (l : List OpD) : Prop :=
  ∃ A c, v = .slice A l.length c ∧ l.length ≤ 140737488351232 ∧ ∀ k o, l[k]? = some o → o.ok ∧ ∃ b p sv kv, A = some ⟨b, p, none⟩ ∧ b < w.heap.size ∧ Sl w sv (cel o.s) ∧ Sl w kv (o.keep.map Value.bool) ∧
    w.cell? ⟨b, p + k * 4, none⟩ = some (.int .i64 o.kind) ∧ w.cell? ⟨b, p + k * 4 + 1, none⟩ = some (.int .i64 o.n) ∧ w.cell? ⟨b, p + k * 4 + 2, none⟩ = some sv ∧ w.cell? ⟨b, p + k * 4 + 3, none⟩ = some kv
theorem crash_keep' (d : DS) (k : List Bool) : (d.crash k).keep.length ≤ d.keep.length := by
  unfold DS.crash
  split
  · exact Nat.le_refl _
  · exact Nat.zero_le _
theorem crash_len' (d : DS) (k : List Bool) : (d.crash k).loose.length ≤ d.loose.length := by
  unfold DS.crash
  split
  · exact Nat.le_refl _
  · exact Nat.zero_le _
theorem crash_n (d : DS) (k : List Bool) : (d.crash k).n = d.n := by
  unfold DS.crash
  split <;> rfl
theorem burns_fit (d : DS) : d.burns.2.keep.length ≤ d.keep.length ∧ d.burns.2.loose.length ≤ d.loose.length ∧ d.burns.2.n = d.n := by
  unfold DS.burns
  split
  · exact ⟨Nat.le_refl _, Nat.le_refl _, rfl⟩
  · split
    · exact ⟨Nat.le_refl _, Nat.le_refl _, rfl⟩
    · exact ⟨crash_keep' _ _, crash_len' _ _, crash_n _ _⟩
theorem write_fit (d : DS) (i : Int) (b : List UInt8) : (d.write i b).2.keep.length ≤ d.keep.length ∧ (d.write i b).2.loose.length ≤ d.loose.length + 1 ∧ (d.write i b).2.n = d.n := by
  have hb := burns_fit d
  unfold DS.write
  split
  · exact ⟨Nat.le_refl _, Nat.le_succ _, rfl⟩
  · split
    · exact ⟨Nat.le_refl _, Nat.le_succ _, rfl⟩
    · generalize d.burns = p at hb ⊢
      obtain ⟨x, y⟩ := p
      obtain ⟨h1, h2, h3⟩ := hb
      cases x
      · exact ⟨h1, by show (_ ++ [_]).length ≤ _; rw [List.length_append]; simpa using h2, h3⟩
      · exact ⟨h1, Nat.le_succ_of_le h2, h3⟩
theorem barrier_fit (d : DS) : d.barrier.2.keep.length ≤ d.keep.length ∧ d.barrier.2.loose.length ≤ d.loose.length ∧ d.barrier.2.n = d.n := by
  have hb := burns_fit d
  unfold DS.barrier
  split
  · exact ⟨Nat.le_refl _, Nat.le_refl _, rfl⟩
  · generalize d.burns = p at hb ⊢
    obtain ⟨x, y⟩ := p
    obtain ⟨h1, h2, h3⟩ := hb
    cases x
    · exact ⟨h1, Nat.zero_le _, h3⟩
    · exact ⟨h1, h2, h3⟩
theorem does_fit (d : DS) {o : OpD} (ho : o.ok) (hk : d.keep.length ≤ 140737488351232) : (d.does o).keep.length ≤ 140737488351232 ∧ (d.does o).loose.length ≤ d.loose.length + 1 ∧ (d.does o).n = d.n := by
  have h1 := write_fit d o.n (o.s.take 600)
  have h2 := barrier_fit d
  have h3 := crash_keep' d o.keep
  have h4 := crash_len' d o.keep
  have h5 := crash_n d o.keep
  unfold DS.does
  split
  · exact ⟨Nat.le_trans h1.1 hk, h1.2⟩
  · split
    · exact ⟨Nat.le_trans h2.1 hk, Nat.le_succ_of_le h2.2.1, h2.2.2⟩
    · split
      · exact ⟨Nat.le_trans h3 hk, Nat.le_succ_of_le h4, h5⟩
      · split
        · exact ⟨hk, Nat.le_succ _, rfl⟩
        · split
          · exact ⟨ho.keep, Nat.le_succ _, rfl⟩
          · exact ⟨hk, Nat.le_succ _, rfl⟩
theorem two_new {w0 w1 w2 w3 : World} {D R : Nat} {n : Int} (hb : Below w0.heap.size w0 w1) (h1 : DiskAt w2 D (Grow (fun _ => False) w1 w2) (DS.new n)) (hb2 : Below w1.heap.size w1 w2) (h2 : RefAt w3 R (Grow (fun _ => False) w2 w3) (DS.new n)) (hb3 : Below w2.heap.size w2 w3) :
    Two w0 w3 D R (Grow (fun _ => False) w1 w2) (Grow (fun _ => False) w2 w3) (DS.new n) (DS.new n) :=
  ⟨h1.below hb3, h2, fun k hk => hk.elim (fun h => h.elim) fun h => Nat.le_trans hb.size h.1, fun k hk => hk.elim (fun h => h.elim) fun h => Nat.le_trans (Nat.le_trans hb.size hb2.size) h.1,
    fun k hf hg => hf.elim (fun h => h.elim) fun h => hg.elim (fun h => h.elim) fun h' => Nat.lt_irrefl _ (Nat.lt_of_lt_of_le h.2 h'.1), (hb.trans (hb2.mono hb.size)).trans (hb3.mono (Nat.le_trans hb.size hb2.size))⟩
end Go.Proofs.Ytdlokmlcdlcfaaa

/- hairlinelaw20.DiskFuse: the walk. -/
import Derived.Test.YtdlokmlcdlcfaaaDs20
set_option linter.unusedVariables false
set_option linter.unusedSimpArgs false
namespace Go.Proofs.Ytdlokmlcdlcfaaa
open Go.RowKit Go.MapKept
theorem i64_and15 (n : Int) : bits .and .i64 n 15 = n % 16 := by
  have h1 : (BitVec.ofInt 64 15).toNat = 2 ^ 4 - 1 := by decide
  have key : (BitVec.ofInt 64 n &&& BitVec.ofInt 64 15).toNat = (n % ((2 ^ 64 : Nat) : Int)).toNat % 2 ^ 4 := by
    rw [BitVec.toNat_and, BitVec.toNat_ofInt, h1, Nat.and_two_pow_sub_one_eq_mod]
  show IntKind.i64.wrap ((BitVec.ofInt 64 n &&& BitVec.ofInt 64 15).toNat : Nat) = n % 16
  rw [key, IntKind.wrap_i64]
  omega
theorem i64_and3 (n : Int) : bits .and .i64 n 3 = n % 4 := by
  have h1 : (BitVec.ofInt 64 3).toNat = 2 ^ 2 - 1 := by decide
  have key : (BitVec.ofInt 64 n &&& BitVec.ofInt 64 3).toNat = (n % ((2 ^ 64 : Nat) : Int)).toNat % 2 ^ 2 := by
    rw [BitVec.toNat_and, BitVec.toNat_ofInt, h1, Nat.and_two_pow_sub_one_eq_mod]
  show IntKind.i64.wrap ((BitVec.ofInt 64 n &&& BitVec.ofInt 64 3).toNat : Nat) = n % 4
  rw [key, IntKind.wrap_i64]
  omega
theorem burns_keep {d : DS} (h : d.keep = []) : d.burns.2.keep = [] := by
  unfold DS.burns
  split
  · exact h
  · split
    · exact h
    · unfold DS.crash
      split
      · exact h
      · rfl
theorem write_keep {d : DS} (h : d.keep = []) (i : Int) (b : List UInt8) : (d.write i b).2.keep = [] := by
  have h1 := burns_keep h
  unfold DS.write
  split
  · exact h
  · split
    · exact h
    · generalize d.burns = p at h1
      obtain ⟨a, q⟩ := p
      cases a
      · exact h1
      · exact h1
theorem write_len (d : DS) (i : Int) (b : List UInt8) : (d.write i b).2.loose.length ≤ d.loose.length + 1 := by
  have h1 := burns_len d
  unfold DS.write
  split
  · exact Nat.le_succ _
  · split
    · exact Nat.le_succ _
    · generalize d.burns = p at h1
      obtain ⟨a, q⟩ := p
      cases a
      · show (q.loose ++ [(i, pad b)]).length ≤ _
        rw [List.length_append]
        exact Nat.succ_le_succ h1
      · exact Nat.le_succ_of_le h1
theorem barrier_keep {d : DS} (h : d.keep = []) : d.barrier.2.keep = [] := by
  have h1 := burns_keep h
  unfold DS.barrier
  split
  · exact h
  · generalize d.burns = p at h1
    obtain ⟨a, q⟩ := p
    cases a
    · exact h1
    · exact h1
theorem barrier_len (d : DS) : d.barrier.2.loose.length ≤ d.loose.length := by
  have h1 := burns_len d
  unfold DS.barrier
  split
  · exact Nat.le_refl _
  · generalize d.burns = p at h1
    obtain ⟨a, q⟩ := p
    cases a
    · exact Nat.zero_le _
    · exact h1
theorem write_free {d : DS} (h1 : d.left = 0) (h2 : d.down = false) (h3 : d.n = 4) : (d.write 0 []).1 = 0 ∧ (d.write 0 []).2 = { d with loose := d.loose ++ [(0, pad [])] } := by
  have ha : d.at_ 0 = 0 := by unfold DS.at_; rw [if_neg (by rw [h2]; simp), if_neg (by omega)]
  have : d.write 0 [] = (0, { d with loose := d.loose ++ [(0, pad [])] }) := by
    unfold DS.write
    rw [if_neg (by rw [ha]; simp), if_neg (by decide)]
    unfold DS.burns
    rw [if_pos h1]
  rw [this]
  exact ⟨rfl, rfl⟩
/-- What the law says of a step's number. -/
theorem fuse_split {n k : Int} (e : Int) (h : e = if n = 0 ∨ k < n - 1 then 0 else 6) : ((n == 0) = true ∧ e = 0) ∨ ((n == 0) = false ∧ k < n - 1 ∧ e = 0) ∨ ((n == 0) = false ∧ ¬k < n - 1 ∧ e = 6) := by
  by_cases h0 : n = 0
  · exact .inl ⟨by simpa using h0, by rw [h, if_pos (.inl h0)]⟩
  · by_cases h1 : k < n - 1
    · exact .inr (.inl ⟨by simpa using h0, h1, by rw [h, if_pos (.inr h1)]⟩)
    · exact .inr (.inr ⟨by simpa using h0, h1, by rw [h, if_neg (fun h => h.elim h0 h1)]⟩)
set_option maxRecDepth 100000 in
set_option maxHeartbeats 8000000 in
theorem fuse_calls (w : World) (n : Int) (v : Value) (l : List Bool) (hv : Sl w v (l.map Value.bool)) (hl : l.length ≤ 140737488351232) :
    Calls Try.prog 3 #[.int .i64 n, v] w fun e w' => e = .returned (.bool true) ∧ Below w.heap.size w w' := by
  obtain ⟨A, c, hv', hv1, hv2, hv3, hv4⟩ := id hv
  rw [List.length_map] at hv' hv1 hv3 hv4
  subst hv'
  go_enter Try.func3, Try.ntmps3
  go_wp2_with (first | (go_at_call 9; refine (shown_calls _).mono ?_; rintro e w1 ⟨rfl, hB1⟩) | (go_at_call 10; refine (own_new w w1 hB1 4 (by omega)).mono ?_; rintro e w2 ⟨D, F0, rfl, h0, hB0, -⟩))
  rw [i64_and15]
  obtain ⟨q, hq⟩ : ∃ q : Int, n % 16 = q := ⟨_, rfl⟩
  have hq0 : 0 ≤ q ∧ q ≤ 15 := by omega
  rw [hq]
  clear hq
  refine (own_arm h0 q (by omega) _ [] (Sl.nil _) (by decide)).mono ?_
  rintro e w3 ⟨rfl, F1, h1, -, -⟩
  have hq1 : q ≤ 15 := hq0.2
  have hq2 : 0 ≤ q := hq0.1
  have hA1 : Armed q 0 ((DS.new 4).arm q []) := by
    unfold Armed
    refine ⟨rfl, ?_⟩
    by_cases e0 : q = 0
    · rw [if_pos e0, e0]
      exact ⟨rfl, rfl⟩
    · rw [if_neg e0, if_pos (by omega)]
      refine ⟨rfl, ?_⟩
      show (if 0 < q then q else 0) = _
      rw [if_pos (by omega)]
      omega
  go_wp2_with fail
  go_loopw [7] (fun i wr => ∃ (k : Nat) (F : Nat → Prop) (d : DS), k ≤ 40 ∧ k ≤ l.length ∧ i = .int .i64 (k : Int) ∧ Own w wr D F d ∧ Armed q k d ∧ d.loose.length ≤ k ∧ d.keep = []) (fun i _ => 40 - (intOf i).toNat)
  case atStart => exact ⟨0, F1, _, by omega, Nat.zero_le _, rfl, h1, hA1, Nat.zero_le _, rfl⟩
  case round =>
    obtain ⟨k, F, d, hk40, hkl, rfl, hO, hA, hll, hkp⟩ := hrel
    have hkq : (0 : Int) ≤ (k : Int) := by omega
    have hkr : (k : Int) ≤ 40 := by omega
    by_cases hk1 : k < l.length ∧ k < 40
    · obtain ⟨hk2, hk3⟩ := hk1
      have hk2i : (k : Int) < (l.length : Int) := by omega
      have hk3i : (k : Int) < 40 := by omega
      obtain ⟨kb, ko, rfl, hkbl, hkr2⟩ := hv4 (by omega)
      obtain ⟨bt, hbt⟩ : ∃ bt, l[k]? = some bt := ⟨_, List.getElem?_eq_getElem hk2⟩
      have hcell : wr.cell? ⟨kb, ko + k, none⟩ = some (.bool bt) := (hO.below.cell (p := ⟨kb, ko + k, none⟩) hkbl).trans (hkr2 k _ (by rw [List.getElem?_map, hbt]; rfl))
      have hfit : Fits d := ⟨by omega, by rw [hkp]; decide⟩
      have hnext : ∀ (d' : DS) (F' : Nat → Prop) (W : World), Own w W D F' d' → Armed q (k + 1) d' → d'.loose.length ≤ d.loose.length + 1 → d'.keep = [] →
          (∃ (k_1 : Nat) (F : Nat → Prop) (d : DS), k_1 ≤ 40 ∧ k_1 ≤ l.length ∧ Value.int .i64 ((k : Int) + 1) = .int .i64 (k_1 : Int) ∧ Own w W D F d ∧ Armed q k_1 d ∧ d.loose.length ≤ k_1 ∧ d.keep = []) :=
        fun d' F' W a b c e => ⟨k + 1, F', d', by omega, by omega, rfl, a, b, by omega, e⟩
      cases bt
      · have hst := armed_write hA hq2 hkq (j := (k : Int) % 4) (by omega) (b := [1]) (by decide)
        obtain ⟨ev, hev⟩ : ∃ ev, (d.write ((k : Int) % 4) [1]).1 = ev := ⟨_, rfl⟩
        rw [hev] at hst
        have hwr := own_write (hO.over (below_alloc wr (.cells #[.int .u8 1] 5))) hfit ((k : Int) % 4) _ [1] (sl_byte _ 1 1 (by decide) (0, 0)) (fun b hb hf => by have := hO.disk.lt b hf; simp [Value.ownBlock] at hb; omega) (by decide)
        rw [hev] at hwr
        have hf := fuse_split ev hst.2
        replace hst := hst.1
        clear hev
        rcases hf with ⟨f1, rfl⟩ | ⟨f1, f2, rfl⟩ | ⟨f1, f2, rfl⟩
        all_goals
          go_wp2_with fail
          rw [i64_and3]
          refine hwr.mono ?_
          rintro e w4 ⟨rfl, F4, h4, -, -⟩
          have hnx := hnext _ F4 w4 h4 hst (write_len _ _ _) (write_keep hkp _ _)
          go_wp2_with fail
          exact ⟨hnx, by simp only [intOf]; omega⟩
      · have hst := armed_barrier hA hq2 hkq
        obtain ⟨ev, hev⟩ : ∃ ev, d.barrier.1 = ev := ⟨_, rfl⟩
        rw [hev] at hst
        have hwr := own_barrier hO hfit
        rw [hev] at hwr
        have hf := fuse_split ev hst.2
        replace hst := hst.1
        clear hev
        rcases hf with ⟨f1, rfl⟩ | ⟨f1, f2, rfl⟩ | ⟨f1, f2, rfl⟩
        all_goals
          go_wp2_with fail
          refine hwr.mono ?_
          rintro e w4 ⟨rfl, F4, h4, -, -⟩
          have hnx := hnext _ F4 w4 h4 hst (Nat.le_succ_of_le (barrier_len _)) (barrier_keep hkp)
          go_wp2_with fail
          exact ⟨hnx, by simp only [intOf]; omega⟩
    · have hgo : (l.length : Int) ≤ (k : Int) ∨ (40 : Int) ≤ (k : Int) := by omega
      have hd0 : q ≤ (l.length : Int) → d.start.left = 0 ∧ d.start.down = false ∧ d.start.n = 4 := fun hql => by
        obtain ⟨h4, h5⟩ := hA
        refine ⟨?_, rfl, h4⟩
        show d.left = 0
        by_cases e0 : q = 0
        · rw [if_pos e0] at h5
          exact h5.2
        · rw [if_neg e0, if_neg (by omega)] at h5
          exact h5.2
      have hfit : Fits d := ⟨by omega, by rw [hkp]; decide⟩
      have hkp2 : d.start.keep = [] := hkp
      have hll2 : d.start.loose.length ≤ 40 := Nat.le_trans hll hk40
      have hst := own_start hO
      go_wp2_with fail
      all_goals refine hst.mono ?_
      all_goals rintro e w4 ⟨rfl, F4, h4, -, -⟩
      all_goals go_wp2_with fail
      all_goals (
        go_loopw [9] (fun i wr => ∃ (k : Nat) (F : Nat → Prop) (d : DS), k ≤ 20 ∧ i = .int .i64 (k : Int) ∧ Own w wr D F d ∧ (q ≤ (l.length : Int) → d.left = 0 ∧ d.down = false ∧ d.n = 4) ∧ d.loose.length ≤ k + 40 ∧ d.keep = []) (fun i _ => 20 - (intOf i).toNat)
        case atStart => exact ⟨0, F4, _, Nat.zero_le _, rfl, h4, hd0, by omega, hkp2⟩
        case round =>
          clear hst hgo hd0 hkp2 hll2 hA hfit hll hkp h4
          obtain ⟨j, F5, d5, hj, rfl, hO5, h5, hl5, hk5⟩ := hrel
          have hj0 : (0 : Int) ≤ (j : Int) := by omega
          by_cases hj2 : j < 20
          · have hj2i : (j : Int) < 20 := by omega
            have hfit5 : Fits d5 := ⟨by omega, by rw [hk5]; decide⟩
            have hw5 := own_write hO5 hfit5 0 _ [] (Sl.nil wr) (fun b hb => (by cases hb)) (by decide)
            by_cases hql : q ≤ (l.length : Int)
            · obtain ⟨a1, a2, a3⟩ := h5 hql
              obtain ⟨b1, b2⟩ := write_free a1 a2 a3
              rw [b1, b2] at hw5
              go_wp2_with fail
              refine hw5.mono ?_
              rintro e w6 ⟨rfl, F6, h6, -, -⟩
              go_wp2_with fail
              exact ⟨⟨j + 1, F6, _, by omega, rfl, h6, fun _ => ⟨a1, a2, a3⟩, by simp; omega, hk5⟩, by simp only [intOf]; omega⟩
            · go_wp2_with fail
              exact ⟨⟨j + 1, F5, d5, by omega, rfl, hO5, h5, by omega, hk5⟩, by simp only [intOf]; omega⟩
          · have hj2i : ¬(j : Int) < 20 := by omega
            have hB5 := hO5.below
            go_wp2_with fail
            go_ret
            exact ⟨rfl, hB5⟩)
end Go.Proofs.Ytdlokmlcdlcfaaa

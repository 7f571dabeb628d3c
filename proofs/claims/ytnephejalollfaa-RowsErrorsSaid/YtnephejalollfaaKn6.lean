/- nat.DivMod. -/
import Derived.Test.YtnephejalollfaaKn5
import Derived.Test.YtnephejalollfaaPats
set_option linter.unusedVariables false
set_option linter.unusedSimpArgs false
namespace Go.Proofs.Ytnephejalollfaa
open Go.RowKit
open L (val dig nth)

set_option maxRecDepth 100000 in
theorem divmod_calls (w : World) (B C : Nat) (va vb : Value) (la lb : List Nat) (ha : Nums w B va la) (hb : Nums w C vb lb) (h0 : val W lb ≠ 0) (hla : la.length ≤ 30000) :
    Calls Try.prog 54 #[va, vb] w fun e w' => Below w.heap.size w w' ∧ RetQR w.heap.size (val W la / val W lb) (val W la % val W lb) e w' := by
  by_cases hlt : val W la < val W lb
  · refine (divmod_small w B C va vb la lb ha hb hlt (by omega)).mono ?_
    rintro e w' ⟨hb', u, d, rfl, hu, hd⟩
    refine ⟨hb', _, [], u, d, rfl, Nums.nil _ _, ?_, hu, ?_⟩
    · rw [Nat.div_eq_of_lt hlt]; exact (L.dig_zero W).symm
    · rw [Nat.mod_eq_of_lt hlt]; exact hd
  · have hl0 := ha.lt
    have hcmp : ¬ (cmpN (val W la) (val W lb) < 0) := by unfold cmpN; split <;> (try split) <;> omega
    obtain ⟨c, HC⟩ : ∃ c, Hid (cmpN (val W la) (val W lb) = c) := ⟨_, hide rfl⟩
    rw [HC.out] at hcmp
    have HLT := hide hlt
    have H0 := hide h0
    go_enter Try.func54, Try.ntmps54
    go_wp2_with fail
    refine (trim_calls _ B _ la ha).mono ?_
    rintro e w1 ⟨rfl, u1, da, rfl, hu1, hda⟩
    obtain ⟨A1, cap1, rfl⟩ := hu1.form
    go_wp2_with fail
    refine (trim_calls _ C _ lb hb).mono ?_
    rintro e w1 ⟨rfl, u2, db, rfl, hu2, hdb⟩
    obtain ⟨A2, cap2, rfl⟩ := hu2.form
    have hdbl : ((db.length : Int) == 0) = false := by
      rw [beq_eq_false_iff_ne]
      intro h
      exact h0 (hdb.nil_iff.1 (List.eq_nil_of_length_eq_zero (by omega)))
    have hpos : 0 < db.length := by
      rcases Nat.eq_zero_or_pos db.length with h | h
      · rw [h] at hdbl; exact absurd hdbl (by decide)
      · exact h
    have HDA := hide hda
    have HDB := hide hdb
    have hdal : da.length ≤ 30000 := Nat.le_trans (canon_len_le hda hl0) hla
    clear hlt h0 hda hdb
    go_wp2_with fail
    refine (cmp_calls _ B C _ _ da db hu1 hu2).mono ?_
    rintro e w1 ⟨hdr, rfl⟩
    rw [HDA.out.val, HDB.out.val, HC.out]
    have hB1 := hdr.below w.heap.size
    have s1 := hB1.size
    have hu3 := hu1.below hB1
    have hu4 := hu2.below hB1
    have htop := HDB.out.last hpos
    by_cases h1 : db.length = 1
    · obtain ⟨y, rfl⟩ : ∃ y, db = [y] := List.length_eq_one_iff.1 h1
      have hy := hu4.lt y (by simp)
      have hvy : val W lb = y := by rw [← HDB.out.val]; simp [L.val]
      have hy0 : 0 < y := by
        have := H0.out
        omega
      obtain ⟨b2, off2, rfl, -, -, hc2, -, -⟩ : ∃ b off, A2 = some ⟨b, off, none⟩ ∧ True ∧ True ∧ w1.cell? ⟨b, off + 0, none⟩ = some (.int .u64 (y : Nat)) ∧ True ∧ True := by
        obtain ⟨A, c', e1, -, -, -, h5⟩ := hu4
        injection e1 with e1 _ _
        subst e1
        obtain ⟨b, off, a1, -, -, a4⟩ := h5 (by simp)
        exact ⟨b, off, a1, trivial, trivial, a4 0 (by simp), trivial, trivial⟩
      have hc3 : w1.cell? ⟨b2, off2, none⟩ = some (.int .u64 (y : Nat)) := hc2
      have HV := hide hvy
      clear hvy hc2 htop h1
      go_wp2_with fail
      refine (short_calls w1 B _ da y hu3 (by omega) hy0 hy).mono ?_
      rintro e w2 ⟨hb2, u, d, u', d', rfl, hu, hd, hu', hd'⟩
      rw [HDA.out.val, ← HV.out] at hd hd'
      go_wp2_with fail
      go_ret3
      exact ⟨hB1.trans (hb2.mono s1), u, d, u', d', rfl, hu.mono s1, hd, hu'.mono s1, hd'⟩
    · have h1' : ((db.length : Int) == 1) = false := by rw [beq_eq_false_iff_ne]; omega
      obtain ⟨m, hm⟩ : ∃ m, db.length = m + 2 := ⟨db.length - 2, by omega⟩
      have hle : db.length ≤ da.length := by
        rw [HDB.out.len]
        have h2 := HLT.out
        have h3 : val W la < W ^ da.length := HDA.out.len.1 (Nat.le_refl _)
        omega
      have HL := hide (long_calls w1 B C _ _ da db m hu3 hu4 hdal hm hle (by rw [show m + 1 = db.length - 1 from by omega]; exact htop))
      rw [HDA.out.val, HDB.out.val] at HL
      clear htop hm hle h1
      go_wp2_with fail
      refine HL.out.mono ?_
      rintro e w2 ⟨hb2, u, d, u', d', rfl, hu, hd, hu', hd'⟩
      go_wp2_with fail
      go_ret3
      exact ⟨hB1.trans (hb2.mono s1), u, d, u', d', rfl, hu.mono s1, hd, hu'.mono s1, hd'⟩
end Go.Proofs.Ytnephejalollfaa

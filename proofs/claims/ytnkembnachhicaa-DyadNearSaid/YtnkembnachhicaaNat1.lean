/- nat.trim, slices.Clone, nat.Norm: noughts on top left out, a copy. -/
import Derived.Test.YtnkembnachhicaaMem
import Derived.Test.YtnkembnachhicaaBits
set_option linter.unusedVariables false
namespace Go.Proofs.Ytnkembnachhicaa
open Go.RowKit
open L (val dig)

/-- What is handed back is a slice of limbs that reads as the number N, its cells from block B on. -/
def RetU (B N : Nat) (e : Ending) (w : World) : Prop := ∃ u d, e = .returned u ∧ Nums w B u d ∧ Canon d N

theorem trim_calls (w : World) (B : Nat) (v : Value) (l : List Nat) (h : Nums w B v l) :
    Calls Try.prog 100 #[v] w fun e w' => w = w' ∧ RetU B (val W l) e w := by
  have h0 := h
  obtain ⟨A, cap, rfl, hcap, hmax, hlt, hc⟩ := h
  go_enter Try.func100, Try.ntmps100
  go_wp2
  go_loop [0] (fun s => ∃ n : Nat, n ≤ l.length ∧ s = .slice A n cap ∧ ∀ i, n ≤ i → i < l.length → L.nth l i = 0) (fun s => lenOf s)
  case atStart => exact ⟨_, Nat.le_refl _, rfl, fun i h1 h2 => by omega⟩
  case round =>
    obtain ⟨n, hn, rfl, hz⟩ := hrel
    have HZ := hide hz
    clear hz
    cases n with
    | zero =>
      go_wp2
      go_ret
      refine ⟨rfl, _, _, rfl, h0.first (Nat.zero_le _), ?_⟩
      exact (L.dig_val_take W_gt l hlt 0 (Nat.zero_le _) HZ.out (.inl rfl)).symm
    | succ m =>
      obtain ⟨b, off, rfl, hB, hb, hcell⟩ := hc (by omega)
      have hm := hcell m (by omega)
      clear hcell hc
      go_wp2
      · have hz : ((L.nth l m : Nat) : Int) == 0 := by assumption
        go_round
        case rel =>
          refine ⟨m, by omega, rfl, fun i h1 h2 => ?_⟩
          by_cases e : i = m
          · subst e; simpa using hz
          · exact HZ.out i (by omega) h2
        case measure => simp [lenOf]
      · have hz : (((L.nth l m : Nat) : Int) == 0) = false := by assumption
        go_ret
        refine ⟨rfl, _, _, rfl, h0.first hn, ?_⟩
        exact (L.dig_val_take W_gt l hlt (m + 1) hn HZ.out (.inr (by simpa using hz))).symm

/-- A copy, in new memory. -/
theorem clone_calls (w : World) (B : Nat) (v : Value) (l : List Nat) (h : Nums w B v l) (hl : l.length ≤ 60000) :
    Calls Try.prog 102 #[v] w fun e w' => Below w.heap.size w w' ∧ ∃ u, e = .returned u ∧ OwnU w' w.heap.size u l := by
  have h0 := h
  obtain ⟨A, cap, rfl, hcap, hmax, hlt, hc⟩ := h
  cases A with
  | none =>
    have hl0 : l = [] := by
      rcases Nat.eq_zero_or_pos l.length with h1 | h1
      · exact List.eq_nil_of_length_eq_zero h1
      · obtain ⟨b, off, he, _⟩ := hc h1; cases he
    subst hl0
    have hnil := fun w => Lib.run_eql_slice_nil (P := Try.prog) w 22 32 none 0 cap 0 0 Try.underlying22
    go_enter Try.func102, Try.ntmps102
    go_wp2_with fail
    go_ret
    exact ⟨Below.refl _ _, _, rfl, OwnU.nil _ _⟩
  | some ad =>
    have hnil := fun w => Lib.run_eql_slice_nil (P := Try.prog) w 22 32 (some ad) l.length cap 0 0 Try.underlying22
    have hb0 : Below w.heap.size w (w.alloc (.cells #[] 32)) := (Below.refl _ _).alloc (Nat.le_refl _) _
    go_enter Try.func102, Try.ntmps102
    go_wp2_with (at_builtin; refine wpList_appendU _ rfl _ _ rfl w.heap.size _ [] rfl (OwnU.empty w (Nat.le_refl _)) B _ l rfl (h0.below hb0) (by simp; omega) (by simp) ?_; intro v1 w1 hown1 hgrow1)
    go_ret
    refine ⟨hb0.grown hgrow1 (by simp) (fun k hk => ?_), _, rfl, ?_⟩
    · injection hk with e; simp at e; omega
    · simpa using hown1

/-- nat.Norm: the number in new memory, without noughts on top. -/
theorem norm_calls (w : World) (B : Nat) (v : Value) (l : List Nat) (h : Nums w B v l) (hl : l.length ≤ 60000) :
    Calls Try.prog 82 #[v] w fun e w' => Below w.heap.size w w' ∧ RetU w.heap.size (val W l) e w' := by
  go_enter Try.func82, Try.ntmps82
  go_wp2_with fail
  refine (trim_calls _ B _ l h).mono ?_
  rintro e w1 ⟨rfl, u, d, rfl, hu, hd⟩
  have hdl : d.length ≤ 60000 := by rw [show d = dig W (val W l) from hd]; exact Nat.le_trans (L.dig_len_val W_gt l h.lt) hl
  go_wp2_with fail
  refine (clone_calls _ B _ d hu hdl).mono ?_
  rintro e w1 ⟨hb, u1, rfl, hu1⟩
  go_wp2_with fail
  go_ret
  exact ⟨hb, u1, d, rfl, hu1.nums hu.lt, hd⟩

/-- -1, 0, 1: how a number stands to another. -/
def cmpN (a b : Nat) : Int := if a < b then -1 else if b < a then 1 else 0
theorem cmpN_lt {a b : Nat} (h : a < b) : cmpN a b = -1 := by simp [cmpN, h]
theorem cmpN_gt {a b : Nat} (h : b < a) : cmpN a b = 1 := by simp [cmpN, h]; omega
theorem cmpN_eq {a b : Nat} (h : a = b) : cmpN a b = 0 := by simp [cmpN, h]

/-- nat.Cmp. -/
theorem cmp_calls (w : World) (B C : Nat) (va vb : Value) (la lb : List Nat) (ha : Nums w B va la) (hb : Nums w C vb lb) :
    Calls Try.prog 80 #[va, vb] w fun e w' => Dr w w' ∧ e = .returned (.int .i64 (cmpN (val W la) (val W lb))) := by
  go_enter Try.func80, Try.ntmps80
  go_wp2_with fail
  refine (trim_calls _ B _ la ha).mono ?_
  rintro e w1 ⟨rfl, u1, da, rfl, hu1, hda⟩
  go_wp2_with fail
  refine (trim_calls _ C _ lb hb).mono ?_
  rintro e w1 ⟨rfl, u2, db, rfl, hu2, hdb⟩
  obtain ⟨A1, c1, rfl, hl1, hm1, hlt1, hc1⟩ := hu1
  obtain ⟨A2, c2, rfl, hl2, hm2, hlt2, hc2⟩ := hu2
  go_wp2_with fail
  · have hlt : da.length < db.length := by assumption
    rw [show da = dig W (val W la) from hda, show db = dig W (val W lb) from hdb] at hlt
    have hv := L.lt_of_dig_len W_gt hlt
    go_ret
    exact ⟨Dr.refl w, ret_int (cmpN_lt hv).symm⟩
  · have hlt : db.length < da.length := by assumption
    rw [show da = dig W (val W la) from hda, show db = dig W (val W lb) from hdb] at hlt
    have hv := L.lt_of_dig_len W_gt hlt
    go_ret
    exact ⟨Dr.refl w, ret_int (cmpN_gt hv).symm⟩
  · have hle1 : ¬ da.length < db.length := by assumption
    have hle2 : ¬ db.length < da.length := by assumption
    have HL : Hid (da.length = db.length) := hide (by omega)
    go_loopw [5] (fun s wr => ∃ i : Int, -1 ≤ i ∧ i < da.length ∧ s = .int .i64 i ∧ Hid (da.drop (i + 1).toNat = db.drop (i + 1).toNat) ∧ Dr w wr) (fun s _ => (intOf s + 1).toNat)
    case atStart => exact ⟨(da.length : Int) - 1, by omega, by omega, rfl, hide (by rw [List.drop_of_length_le (by omega), List.drop_of_length_le (by omega)]), Dr.refl w⟩
    case round =>
      obtain ⟨i, hi1, hi2, rfl, hd, hdr0⟩ := hrel
      by_cases hneg : i = -1
      · subst hneg
        have e : da = db := by simpa using hd.out
        have e1 := congrArg (L.val W) e
        rw [hda.val, hdb.val] at e1
        have E1 := hide e1
        clear e1 e
        go_wp2_with fail
        go_ret
        exact ⟨hdr0, ret_int (cmpN_eq E1.out).symm⟩
      · obtain ⟨m, rfl⟩ := Int.eq_ofNat_of_zero_le (show 0 ≤ i by omega)
        obtain ⟨b1, o1, rfl, _, _, hcell1⟩ := hc1 (by omega)
        obtain ⟨b2, o2, rfl, _, _, hcell2⟩ := hc2 (by omega)
        have h1 : wr.cell? ⟨b1, o1 + m, none⟩ = _ := ((hdr0.below w.heap.size).cell (p := ⟨b1, o1 + m, none⟩) (by assumption)).trans (hcell1 m (by omega))
        have h2 : wr.cell? ⟨b2, o2 + m, none⟩ = _ := ((hdr0.below w.heap.size).cell (p := ⟨b2, o2 + m, none⟩) (by assumption)).trans (hcell2 m (by have := HL.out; omega))
        clear hcell1 hcell2 hc1 hc2
        have b0 : (0 : Int) ≤ (m : Int) := by omega
        have b1' : (m : Int) < (da.length : Int) := by omega
        have b2' : (m : Int) < (db.length : Int) := by have := HL.out; omega
        go_wp2_with fail
        go_quiet (fail)
        go_wp2_with fail
        · have hlt : L.nth da m < L.nth db m := by assumption
          have hv := L.val_lt_of_top da db hlt1 HL.out m (by omega) (by simpa using hd.out) hlt
          rw [hda.val, hdb.val] at hv
          go_ret
          exact ⟨hdr0.next _, ret_int (cmpN_lt hv).symm⟩
        · have hge : ¬ L.nth da m < L.nth db m := by assumption
          go_quiet (fail)
          go_wp2_with fail
          · have hlt : L.nth db m < L.nth da m := by assumption
            have hv := L.val_lt_of_top db da hlt2 HL.out.symm m (by omega) (by simpa using hd.out.symm) hlt
            rw [hda.val, hdb.val] at hv
            go_ret
            exact ⟨by repeat (first | exact hdr0 | refine Dr.next ?_ _), ret_int (cmpN_gt hv).symm⟩
          · have hge2 : ¬ L.nth db m < L.nth da m := by assumption
            have he : L.nth da m = L.nth db m := by omega
            have hdr : da.drop m = db.drop m := by
              have e1 : da.drop m = L.nth da m :: da.drop (m + 1) := by
                rw [List.drop_eq_getElem_cons (by omega), L.nth_def, List.getD_eq_getElem?_getD, List.getElem?_eq_getElem (by omega)]; rfl
              have e2 : db.drop m = L.nth db m :: db.drop (m + 1) := by
                rw [List.drop_eq_getElem_cons (by omega), L.nth_def, List.getD_eq_getElem?_getD, List.getElem?_eq_getElem (by omega)]; rfl
              rw [e1, e2, he, show da.drop (m + 1) = db.drop (m + 1) from by simpa using hd.out]
            go_roundw
            case rel => exact ⟨(m : Int) - 1, by omega, by omega, rfl, hide (by simpa using hdr), by repeat (first | exact hdr0 | refine Dr.next ?_ _)⟩
            case measure => simp [intOf]

/-- nat.BitLen. -/
theorem bitlen_calls (w : World) (B : Nat) (v : Value) (l : List Nat) (h : Nums w B v l) (hl : l.length ≤ 60000) :
    Calls Try.prog 79 #[v] w fun e w' => w = w' ∧ e = .returned (.int .i64 (nbits (val W l) : Nat)) := by
  go_enter Try.func79, Try.ntmps79
  go_wp2_with fail
  refine (trim_calls _ B _ l h).mono ?_
  rintro e w1 ⟨rfl, u1, d, rfl, hu1, hd⟩
  have hdl : d.length ≤ 60000 := by rw [show d = dig W (val W l) from hd]; exact Nat.le_trans (L.dig_len_val W_gt l h.lt) hl
  obtain ⟨A1, c1, rfl, hl1, hm1, hlt1, hc1⟩ := hu1
  by_cases h0 : d.length = 0
  · have hv : val W l = 0 := hd.nil_iff.1 (List.eq_nil_of_length_eq_zero h0)
    have HV : Hid (nbits (val W l) = 0) := hide (by rw [hv]; exact nbits_eq (by omega) (.inl rfl))
    have d0 : ((d.length : Int) == 0) = true := beq_iff_eq.2 (by omega)
    clear h0 hv
    go_wp2_with fail
    go_ret
    exact ⟨rfl, ret_int (by rw [HV.out]; rfl)⟩
  · obtain ⟨b1, o1, rfl, _, _, hcell1⟩ := hc1 (by omega)
    obtain ⟨m, hm⟩ : ∃ m, d.length = m + 1 := ⟨d.length - 1, by omega⟩
    have h1 := hcell1 m (by omega)
    have hlast := hd.last (by omega)
    have hlt : L.nth d m < 18446744073709551616 := L.lt_of_getD W_pos d hlt1 m
    have hlast' : L.nth d m ≠ 0 := by rw [show m = d.length - 1 from by omega]; exact hlast
    have hnb := nbits_val d m hm hlt1 hlast'
    rw [hd.val] at hnb
    have hb64 : nbits (L.nth d m) ≤ 64 := (nbits_le _ _).2 (by omega)
    have d0 : ((d.length : Int) == 0) = false := beq_eq_false_iff_ne.2 (by omega)
    have HN := hide hnb
    have b1' : (m : Int) < (d.length : Int) := by omega
    have e1 : (d.length : Int) - 1 = m := by omega
    clear hm h0 hcell1 hc1 hlast hlast' hnb
    go_wp2_with fail
    refine (len64_calls _ hlt _).mono ?_
    rintro e w1 ⟨rfl, rfl⟩
    go_wp2_with fail
    go_ret
    exact ⟨rfl, ret_int (by rw [HN.out]; omega)⟩
end Go.Proofs.Ytnkembnachhicaa

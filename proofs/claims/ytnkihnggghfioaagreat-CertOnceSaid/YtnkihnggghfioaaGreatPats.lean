/- zed.Text of a number of one digit: nat.DivMod where nothing is to be divided, slices.Reverse of one or two bytes. bits: Parts, Normal, Binade, First. bits: Value. bits: Of. -/
import Derived.Test.YtnkihnggghfioaaGreatDyadB
import Derived.StillTailTactics
import Derived.RegionTactic
import Derived.BigRegion
import Derived.Laws.BytesString
import Derived.Laws.Cells
set_option linter.unusedVariables false
namespace Go.Proofs.YtnkihnggghfioaaGreat
section
section
open Go.RowKit
open L (val dig nth)
theorem jjj (w : World) (B C : Nat) (va vb : Value) (la lb : List Nat) (ha : Nums w B va la) (hb : Nums w C vb lb) (hlt : val W la < val W lb) (hla : la.length ≤ 50000) :
    Calls Tryz.prog 95 #[va, vb] w fun e w' => Below w.heap.size w w' ∧ ∃ u d, e = .returned (.tuple #[.slice none 0 0, u, .bool true]) ∧ Nums w' w.heap.size u d ∧ Canon d (val W la) := by
  have hl0 := ha.lt; have hcmp := jh8 hlt; have HCMP := hide hcmp; have HLT := hide hlt; clear hcmp
  go_enter Tryz.func95, Tryz.ntmps95
  go_wp2_with fail
  refine (jah _ B _ la ha).mono ?_; rintro e w1 ⟨rfl, u1, da, rfl, hu1, hda⟩; obtain ⟨A1, cap1, rfl⟩ := hu1.form
  go_wp2_with fail
  refine (jah _ C _ lb hb).mono ?_; rintro e w1 ⟨rfl, u2, db, rfl, hu2, hdb⟩; obtain ⟨A2, cap2, rfl⟩ := hu2.form
  have hdbl : ((db.length : Int) == 0) = false := by
    rw [beq_eq_false_iff_ne]; intro h; have := hdb.nil_iff.1 (List.eq_nil_of_length_eq_zero (by omega))
    omega
  clear hlt
  go_wp2_with fail
  refine (jch _ B C _ _ da db hu1 hu2).mono ?_; rintro e w1 ⟨hdr, rfl⟩; rw [hda.val, hdb.val, HCMP.out]; have hB1 := hdr.below w.heap.size; have s1 := hB1.size; have hu3 := hu1.below hB1; have hdal : da.length ≤ 60000 := Nat.le_trans (ja5 hda hl0) (by omega)
  go_wp2_with fail
  refine (jd9 _ B _ da hu3 hdal).mono ?_; rintro e w2 ⟨hb2, u, rfl, hu⟩; obtain ⟨A3, cap3, rfl⟩ := hu.form; have hu4 := (hu.nums hu1.lt).mono s1
  go_wp2_with fail
  go_ret3
  exact ⟨hB1.trans (hb2.mono s1), _, da, rfl, hu4, hda⟩
def toB (x : Nat) : Value := .int .u8 (x : Int)
def OwnB (w : World) (base : Nat) (v : Value) (l : List Nat) : Prop := w.ownsRow base 5 1 v l.length (l.map toB)
theorem OwnB.form {w : World} {base : Nat} {v : Value} {l : List Nat} (h : OwnB w base v l) (hl : 0 < l.length) : ∃ g cap, v = .slice (some ⟨g, 0, none⟩) l.length cap ∧ base ≤ g ∧ g < w.heap.size ∧
    (∀ i, i < l.length → w.cell? ⟨g, i, none⟩ = some (toB (nth l i))) ∧ (∀ i, w.frozen? ⟨g, i, none⟩ = false) := by
  have h' := h
  rcases h.2 with ⟨rfl, h0⟩ | ⟨g, cap, cur, rfl, r⟩
  · omega
  · have hg := World.ownsRow.lt h' g rfl
    refine ⟨g, cap, rfl, hg.1, hg.2, fun i hi => ?_, fun i => World.ownsRow.frozenAt h' i⟩; rw [World.ownsRow.cellAt h' i (by omega), List.getElem?_map, List.getElem?_eq_getElem hi, L.nth_def, List.getD_eq_getElem?_getD, List.getElem?_eq_getElem hi]; rfl
theorem OwnB.nil (w : World) (base : Nat) : OwnB w base (.slice none 0 0) [] := World.ownsRow_nil w base _ 1
theorem OwnB.alloc {w : World} {base : Nat} {v : Value} {l : List Nat} (h : OwnB w base v l) (o : Obj) : OwnB (w.alloc o) base v l := World.ownsRow.alloc h o
theorem jo1 {d : List Nat} {N : Nat} (h : Canon d N) (h0 : N ≠ 0) (hN : N < W) : d = [N] := by
  have e : val W [N] = N := by simp [L.val]
  have h1 : d = dig W (val W [N]) := by rw [e]; exact h
  rw [h1]; refine L.dig_val W_gt [N] (by simpa using hN) ?_; intro x hx hx0; simp at hx
  omega
def txt (n : Bool) (N : Nat) : Value := .string ((if n then [45, 48 + (N : Int)] else [48 + (N : Int)]).foldl (fun r n => r.push (UInt8.ofNat n.toNat)) ByteArray.empty)
end
end
section
section
open Go.RowKit
open L (val dig nth)
def pNeg (b : Nat) : Bool := decide (9223372036854775808 ≤ b)
def pFld (b : Nat) : Nat := b / 4503599627370496 % 2048
def pFrc (b : Nat) : Nat := b % 4503599627370496
theorem and52 (m : Nat) (hm : m < 18446744073709551616) : bits .and .u64 (m : Int) 4503599627370495 = ((m % 4503599627370496 : Nat) : Int) := by
  have h := bits_and_u64_nat m 4503599627370495 hm (by omega); have e : m &&& 4503599627370495 = m % 4503599627370496 := Nat.and_two_pow_sub_one_eq_mod m 52; rw [e] at h; exact h
theorem and11 (m : Nat) (hm : m < 65536) : bits .and .u16 (m : Int) 2047 = ((m % 2048 : Nat) : Int) := by
  have e : m &&& 2047 = m % 2048 := Nat.and_two_pow_sub_one_eq_mod m 11
  have h1 : (BitVec.ofInt 16 (m : Int)).toNat = m := by
    rw [BitVec.ofInt_natCast, BitVec.toNat_ofNat]; exact Nat.mod_eq_of_lt (by omega)
  have h2 : (BitVec.ofInt 16 (2047 : Int)).toNat = 2047 := by decide
  show IntKind.u16.wrap ((BitVec.ofInt 16 (m : Int) &&& BitVec.ofInt 16 (2047 : Int)).toNat : Int) = _
  rw [BitVec.toNat_and, h1, h2, e]; rw [IntKind.wrap_u16]
  omega
theorem jky (w : World) (b : Nat) (hb : b < W) :
    Calls Tryz.prog 56 #[.int .u64 b] w fun e w' => w = w' ∧ e = .returned (.tuple #[.bool (pNeg b), .int .i64 (pFld b : Nat), .int .u64 (pFrc b : Nat)]) := by
  unfold W at hb; have h52 := and52 b hb
  have h11 : bits .and .u16 ((b : Int) / 4503599627370496) 2047 = (pFld b : Nat) := by
    have := and11 (b / 4503599627370496) (by omega); exact this
  have hw : IntKind.i64.wrap (pFld b : Nat) = (pFld b : Nat) := IntWalk.i64_in _ (by unfold pFld; omega)
  go_enter Tryz.func56, Tryz.ntmps56
  go_wp2_with fail
  go_ret3
  refine ⟨rfl, ?_⟩
  have e1 : ((b : Int) / 9223372036854775808 != 0) = pNeg b := by
    unfold pNeg
    by_cases h : 9223372036854775808 ≤ b
    · rw [decide_eq_true h, bne_iff_ne]; omega
    · rw [decide_eq_false h, bne_eq_false_iff_eq]; omega
  have e2 : (b : Int) % 4503599627370496 = (pFrc b : Nat) := by unfold pFrc; omega
  simp [e1, e2]
theorem jkz (b : Nat) : pFld b < 2048 := Nat.mod_lt _ (by omega)
def pNorm (b : Nat) : Bool := decide (pFld b ≠ 0 ∧ pFld b ≠ 2047)
def bnE (b : Nat) : Int := if pNorm b then (pFld b : Int) - 1023 else 0
def bnX (b : Nat) : Int := if pNorm b then 0 else 1
def fsB (e : Int) : Nat := if e < -1022 ∨ 1023 < e then 0 else (e + 1023).toNat * 4503599627370496
def fsX (e : Int) : Int := if e < -1022 ∨ 1023 < e then 1 else 0
end
end
section
section
open Go.RowKit
open L (val dig nth)
def RetQX (B : Nat) (z x er : Int) (e : Ending) (w : World) : Prop := ∃ u d, e = .returned (.tuple #[.agg #[.bool (decide (z < 0)), u, .int .i64 x], .int .i64 er]) ∧ Nums w B u d ∧ Canon d z.natAbs
def rM (b : Nat) : Int := ival (pNeg b) (if pFld b = 0 then pFrc b else pFrc b + 4503599627370496)
def rE (b : Nat) : Int := if pFld b = 0 then -1074 else (pFld b : Int) - 1075
def vM (b : Nat) : Int := if pFld b = 2047 then 0 else nM (rM b) (rE b)
def vE (b : Nat) : Int := if pFld b = 2047 then 0 else nE (rM b) (rE b)
def vX (b : Nat) : Int := if pFld b = 2047 then 1 else 0
theorem or52 (a : Nat) (ha : a < 4503599627370496) : bits .or .u64 (a : Int) 4503599627370496 = ((a + 4503599627370496 : Nat) : Int) := by
  have h := bits_or_u64_nat a 4503599627370496 (by omega) (by omega); have e := jow a 1 52 (by omega); rw [Nat.one_mul] at e; rw [show (2 ^ 52 : Nat) = 4503599627370496 from rfl] at e; rw [e] at h; exact h
set_option maxRecDepth 100000 in
theorem jk0 (w : World) (b : Nat) (hb : b < W) :
    Calls Tryz.prog 42 #[.int .u64 b] w fun e w' => Below w.heap.size w w' ∧ RetQX w.heap.size (vM b) (vE b) (vX b) e w' := by
  obtain ⟨W0, hW, hrs, hB0, hs⟩ := start1 w 33 #[.bool false, .slice none 0 0, .int .i64 0]; have HS := hide hs; have hs2 : w.heap.size < W0.heap.size := by omega
  clear hs; obtain ⟨c0, c1, c2, c3, c4, c5⟩ := hrs.three
  go_enter Tryz.func42, Tryz.ntmps42
  go_upto_region 1 with (fail)
  rw [← hW]; clear hW
  go_wp2_with fail
  refine (jky _ b hb).mono ?_; rintro e w1 ⟨rfl, rfl⟩; have hf := jkz b; have hw1 : IntKind.i64.wrap ((pFld b : Nat) - 1023 : Int) = (pFld b : Nat) - 1023 := IntWalk.i64_in _ (by omega); have hw2 : IntKind.i64.wrap ((pFld b : Nat) - 1023 - 52 : Int) = (pFld b : Nat) - 1075 := by rw [IntWalk.i64_in _ (by omega)]; omega
  by_cases h7 : pFld b = 2047
  · have h7' : (((pFld b : Nat) : Int) == 2047) = true := by rw [beq_iff_eq]; omega
    have E1 : Hid (vM b = 0) := hide (by unfold vM; rw [if_pos h7]); have E2 : Hid (vE b = 0) := hide (by unfold vE; rw [if_pos h7]); have E3 : Hid (vX b = 1) := hide (by unfold vX; rw [if_pos h7]); clear h7
    go_wp2_with fail
    rw [E1.out, E2.out, E3.out]; refine bodyPost_ret (jb8 rfl _ _ _ _ _ _ _ rfl (((hrs.set_ 0 _).set_ 1 _).set_ 2 _)) rfl ⟨below3 hB0 (by omega) _ _ _, ?_⟩; exact ⟨_, [], rfl, Nums.nil _ _, (L.dig_zero W).symm⟩
  · have h7' : (((pFld b : Nat) : Int) == 2047) = false := by rw [beq_eq_false_iff_ne]; omega
    have E1 : Hid (vM b = nM (rM b) (rE b)) := hide (by unfold vM; rw [if_neg h7]); have E2 : Hid (vE b = nE (rM b) (rE b)) := hide (by unfold vE; rw [if_neg h7]); have E3 : Hid (vX b = 0) := hide (by unfold vX; rw [if_neg h7]); have hfr : pFrc b < 4503599627370496 := Nat.mod_lt _ (by omega); have hor := or52 (pFrc b) hfr; clear h7
    by_cases h0 : pFld b = 0
    · have h0' : (((pFld b : Nat) : Int) == 0) = true := by rw [beq_iff_eq]; omega
      have E4 : Hid (rM b = ival (pNeg b) (pFrc b)) := hide (by unfold rM; rw [if_pos h0]); have E5 : Hid (rE b = -1074) := hide (by unfold rE; rw [if_pos h0]); clear h0
      go_wp2_with fail
      have hone := Nums.one W0 (pFrc b : Nat) (pFrc b) rfl (by unfold W; omega); have HP := jek _ (pNeg b) 0 _ [pFrc b] (-1074) hone (by simp) (by omega) (by omega); rw [show val W [pFrc b] = pFrc b from by simp [L.val], ← E4.out] at HP; obtain ⟨zM, HM⟩ : ∃ zM, Hid (nM (rM b) (-1074) = zM) := ⟨_, hide rfl⟩; obtain ⟨zE, HE⟩ : ∃ zE, Hid (nE (rM b) (-1074) = zE) := ⟨_, hide rfl⟩; rw [HM.out, HE.out] at HP; refine HP.mono ?_; clear hone; rintro e w2 ⟨hb2, u2, d2, rfl, hu2, hd2⟩; have hrs2 := (hrs.alloc (.cells #[.int .u64 (pFrc b : Nat)] 25)).below hb2 (by simp; omega); obtain ⟨A2, cap2, rfl⟩ := hu2.form; obtain ⟨j0, j1, j2, j3, j4, j5⟩ := hrs2.three; clear HP
      go_wp2_with fail
      have s2 := hb2.size; simp at s2; rw [E1.out, E2.out, E3.out, E5.out, HM.out, HE.out]; refine bodyPost_ret (jb8 rfl _ _ _ _ _ _ _ rfl (((hrs2.set_ 0 _).set_ 1 _).set_ 2 _)) rfl ⟨below3 ((hB0.alloc (by omega) (.cells #[.int .u64 (pFrc b : Nat)] 25)).trans (hb2.mono (by simp; omega))) (by omega) _ _ _, ?_⟩; exact ⟨_, d2, rfl, (jcr hu2 (by simp; omega) _ _ _).mono (by simp; omega), hd2⟩
    · have h0' : (((pFld b : Nat) : Int) == 0) = false := by rw [beq_eq_false_iff_ne]; omega
      have E4 : Hid (rM b = ival (pNeg b) (pFrc b + 4503599627370496)) := hide (by unfold rM; rw [if_neg h0]); have E5 : Hid (rE b = (pFld b : Int) - 1075) := hide (by unfold rE; rw [if_neg h0]); clear h0
      go_wp2_with fail
      have hone := Nums.one W0 ((pFrc b + 4503599627370496 : Nat) : Int) (pFrc b + 4503599627370496) rfl (by unfold W; omega); have HP := jek _ (pNeg b) 0 _ [pFrc b + 4503599627370496] ((pFld b : Int) - 1075) hone (by simp) (by omega) (by omega); rw [show val W [pFrc b + 4503599627370496] = pFrc b + 4503599627370496 from by simp [L.val], ← E4.out] at HP; obtain ⟨zM, HM⟩ : ∃ zM, Hid (nM (rM b) ((pFld b : Int) - 1075) = zM) := ⟨_, hide rfl⟩; obtain ⟨zE, HE⟩ : ∃ zE, Hid (nE (rM b) ((pFld b : Int) - 1075) = zE) := ⟨_, hide rfl⟩; rw [HM.out, HE.out] at HP; refine HP.mono ?_; clear hone; rintro e w2 ⟨hb2, u2, d2, rfl, hu2, hd2⟩; have hrs2 := (hrs.alloc (.cells #[.int .u64 ((pFrc b + 4503599627370496 : Nat) : Int)] 25)).below hb2 (by simp; omega); obtain ⟨A2, cap2, rfl⟩ := hu2.form; obtain ⟨j0, j1, j2, j3, j4, j5⟩ := hrs2.three; clear HP
      go_wp2_with fail
      have s2 := hb2.size; simp at s2; rw [E1.out, E2.out, E3.out, E5.out, HM.out, HE.out]; refine bodyPost_ret (jb8 rfl _ _ _ _ _ _ _ rfl (((hrs2.set_ 0 _).set_ 1 _).set_ 2 _)) rfl ⟨below3 ((hB0.alloc (by omega) (.cells #[.int .u64 ((pFrc b + 4503599627370496 : Nat) : Int)] 25)).trans (hb2.mono (by simp; omega))) (by omega) _ _ _, ?_⟩; exact ⟨_, d2, rfl, (jcr hu2 (by simp; omega) _ _ _).mono (by simp; omega), hd2⟩
end
end
section
section
open Go.RowKit
open L (val dig nth)
def ofLow (m : Int) : Int := max (m - 52) (-1074)
def ofBad (z x m : Int) : Prop := 1023 < m ∨ x < ofLow m ∨ 1 < (dig W z.natAbs).length
instance (z x m : Int) : Decidable (ofBad z x m) := by unfold ofBad; infer_instance
def T63 : Nat := 9223372036854775808
theorem jv8 : T63 = 9223372036854775808 := rfl
def ofPat (z x m : Int) : Nat := z.natAbs * 2 ^ (x - ofLow m).toNat + (if -1022 ≤ m then (m + 1022).toNat * 4503599627370496 else 0) + (if z < 0 then T63 else 0)
def oB1 (z x : Int) : Nat := if lgOk z x = false then 0 else if ofBad z x (lgN z x) then 0 else ofPat z x (lgN z x)
def oX1 (z x : Int) : Int := if lgOk z x = false then 0 else if ofBad z x (lgN z x) then 1 else 0
theorem jxh {z : Int} {k : Nat} (hz : z.natAbs < W ^ k) : (pM z).natAbs < W ^ k := Nat.lt_of_le_of_lt (Int.natAbs_ediv_le_natAbs _ _) hz
theorem jv9 {z x : Int} {k : Nat} (hz : z.natAbs < W ^ k) : (nM z x).natAbs < W ^ k := jxh (Nat.lt_of_le_of_lt (jq7 z x) hz)
end
end
end Go.Proofs.YtnkihnggghfioaaGreat